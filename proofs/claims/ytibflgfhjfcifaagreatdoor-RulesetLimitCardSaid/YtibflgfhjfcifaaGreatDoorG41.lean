/-
  slices.Backward at a row of rules: its iterator, for every loop body that keeps the row and the box.
  slices.Reverse at rules and at faults, slices.Clone at terms: the contracts of the shelf laid here. (The layings: printed by lay-plain.)
  The program's Link under way: what its boxes, its map and its rows hold.
  Contract of the program's Link.
  Linked rules, in plain words: each GOTO has its label behind it; linking again changes nothing; the rules without a GOTO stay.
-/
import Derived.Test.YtibflgfhjfcifaaGreatDoorG23
import Derived.Test.YtibflgfhjfcifaaGreatDoorG40
import Derived.RangeFuncNested
import Derived.RangeFuncBound
import Derived.RangeFuncCalls
import Derived.RangeFuncLeaves
import Derived.RangeFuncWrites
import Derived.Shelf.Abstract
import Derived.Shelf.RegionOpen
import Derived.OwnWalkIn
import Derived.TacticsInMore
import Derived.LoopNIn
import Derived.LoopIn
import Derived.Maps.OwnIn
import Derived.Test.YtibflgfhjfcifaaGreatDoorG06
import Derived.Shelf.SlGeneric
import Derived.Shelf.SlicesQ.Reverse
import Derived.Shelf.SlicesE.Clone
import Derived.Ground.SlgnProg
import Derived.Test.YtibflgfhjfcifaaGreatDoorG00
import Derived.Laws.OwnMore
import Derived.StringKeys
namespace Go.Proofs.YtibflgfhjfcifaaGreatDoor
open Go.RowKit Go.Shelf
attribute [local go_sem] Oper.semAt_some
abbrev BkR (ds : List (Rl)) := { x : Nat × Rl // x.2 ∈ ds }
abbrev encBkR (ds : List (Rl)) (x : BkR ds) : Array Value := #[.int .i64 (x.1.1 : Int), .agg #[.string x.1.2.file, .int .i64 x.1.2.line, .slice x.1.2.tms.A x.1.2.tms.l.length x.1.2.tms.c]]
structure BackRowR (ds : List (Rl)) (w : World) (n₀ : Nat) (A : Option Addr) (ys : List (BkR ds)) : Prop where
 at_ : ∀ (j : Nat) (y : BkR ds), ys[j]? = some y → y.1.1 + 1 + j = ys.length ∧ ∃ b off, A = some ⟨b, off, none⟩ ∧ b < n₀ ∧ w.cell? ⟨b, off + y.1.1 * 3, none⟩ = some (.string y.1.2.file) ∧ w.cell? ⟨b, off + y.1.1 * 3 + 1, none⟩ = some (.int .i64 y.1.2.line) ∧ w.cell? ⟨b, off + y.1.1 * 3 + 2, none⟩ = some (.slice y.1.2.tms.A y.1.2.tms.l.length y.1.2.tms.c)
theorem BackRowR.below {ds : List (Rl)} {w w' : World} {n₀ : Nat} {A : Option Addr} {ys : List (BkR ds)} (h : BackRowR ds w n₀ A ys) (hb : Below n₀ w w') : BackRowR ds w' n₀ A ys := ⟨fun j y hy => by
 obtain ⟨h1, b, off, e, hbn, c0, c1, c2⟩ := h.at_ j y hy
 exact ⟨h1, b, off, e, hbn, (hb.cell (p := ⟨b, off + y.1.1 * 3, none⟩) hbn).trans c0, (hb.cell (p := ⟨b, off + y.1.1 * 3 + 1, none⟩) hbn).trans c1, (hb.cell (p := ⟨b, off + y.1.1 * 3 + 2, none⟩) hbn).trans c2⟩⟩
set_option maxRecDepth 100000 in
set_option maxHeartbeats 2000000 in
theorem back1R_in (ds : List (Rl)) (F : Fence) (n : Nat) (h8 : F.fn 55) (hro : F.round = none) (hn : 1 ≤ n) (l Bs n₀ : Nat) (A : Option Addr) (cap : Nat) (ys : List (BkR ds)) (hlen : ys.length ≤ 1000000000) (J Jx : List (BkR ds) → World → Prop)
 (hY : ∀ pre x W, J pre W → pre.length < ys.length → YieldAt F (n - 1) Tryz.prog l (encBkR ds x) W fun e W' =>
  (e = .returned (.bool true) ∧ J (pre ++ [x]) W' ∧ KpB n₀ Bs W W') ∨ (e = .returned (.bool false) ∧ Jx (pre ++ [x]) W'))
 (W : World) (hBs : W.cell? ⟨Bs, 0, none⟩ = some (.slice A ys.length cap)) (hr : BackRowR ds W n₀ A ys) (h0 : J [] W) :
 CallsIn F n Tryz.prog 55 #[.func (.yield l) #[] #[], .pointer (some ⟨Bs, 0, none⟩)] W fun e W' => (∃ v, e = .returned v) ∧
  ((∃ xs, xs = ys ∧ J xs W') ∨ (∃ pre, (∃ k, k ≤ ys.length ∧ pre = ys.take k) ∧ Jx pre W')) := by
 refine callsIn_of_wp Tryz.func55 rfl h8 ?_ hro
 have HR := Lib.hid hr
 have HY := Lib.hid hY
 have H0 := Lib.hid h0
 have HB := Lib.hid (fun W' (h : KpB n₀ Bs W W') => (World.cell?_of_block (a := ⟨Bs, 0, none⟩) h.2).trans hBs)
 clear hr hY h0
 generalize hN : ys.length = N at *
 have HN := Lib.hid hN
 clear hN
 simp only [Tryz.ntmps55, List.size_toArray, List.length_cons, List.length_nil, Nat.reduceAdd, Nat.reduceSub, Array.replicate_succ, Array.replicate_zero, List.push_toArray, List.append_toArray, List.nil_append, List.cons_append]
 gi_wp2
 gi_loopw [3] (fun i wr => ∃ m : Nat, m ≤ N ∧ i = .int .i64 ((m : Int) - 1) ∧ Hid (J (ys.take (N - m)) wr) ∧ Hid (KpB n₀ Bs W wr)) (fun i _ => (intOf i + 1).toNat)
 case atStart => exact ⟨N, Nat.le_refl _, rfl, by rw [Nat.sub_self]; exact H0.out, Below.refl _ _, rfl⟩
 case round =>
  obtain ⟨m, hm, rfl, hJ, hK⟩ := hrel
  cases m with
  | zero =>
    gi_wp2
    go_end0
    refine ⟨⟨_, rfl⟩, .inl ⟨_, rfl, ?_⟩⟩
    have := hJ.out
    rw [Nat.sub_zero, List.take_of_length_le (by rw [HN.out]; exact Nat.le_refl _)] at this
    exact this
  | succ j =>
    have hji : ((j + 1 : Nat) : Int) - 1 = (j : Int) := by omega
    rw [hji]
    have hjN : (j : Int) < (N : Int) := by omega
    obtain ⟨y, hy⟩ : ∃ y, ys[N - (j + 1)]? = some y := ⟨_, List.getElem?_eq_getElem (by rw [HN.out]; omega)⟩
    obtain ⟨hyj, b, off, rfl, hb, c0, c1, c2⟩ := (HR.out.below hK.out.1).at_ _ y hy
    have cB := HB.out _ hK.out
    have HT : Hid (ys.take (N - j) = ys.take (N - (j + 1)) ++ [y]) := Lib.hid (by
     rw [show N - j = N - (j + 1) + 1 from by omega, List.take_add_one, hy]; rfl)
    have hlt : (ys.take (N - (j + 1))).length < N := by rw [List.length_take, HN.out]; omega
    obtain ⟨fn, tmps, assign, body, hyy, hRr⟩ := HY.out _ y _ hJ.out hlt
    obtain ⟨⟨j', x⟩, hx⟩ := y
    have : j' = j := by dsimp only at hyj; rw [HN.out] at hyj; omega
    subst this
    dsimp only at hyy c0 c1 c2
    clear hy hyj hlt hji
    gi_wp2
    refine hRr.mono ?_
    rintro e W3 (⟨rfl, hJ3, hk3⟩ | ⟨rfl, hJx3⟩)
    · have HJ3 := Lib.hid hJ3
      have HK3 := Lib.hid (hK.out.t hk3)
      clear hJ3 hk3
      gi_wp2
      go_roundw
      case rel => exact ⟨j', by omega, rfl, by rw [HT.out]; exact HJ3.out, HK3.out⟩
      case measure => simp [intOf]
    · gi_wp2
      refine bodyPost_ret (results_none rfl _ _ _) rfl ?_
      exact ⟨⟨_, rfl⟩, .inr ⟨_, ⟨N - j', by omega, by rw [HT.out]⟩, hJx3⟩⟩
theorem back_listR (ds : List (Rl)) : ∃ ys : List (BkR ds), ys.length = ds.length ∧ ys.map (fun y => y.1.2) = ds.reverse ∧ ∀ (j : Nat) (y : BkR ds), ys[j]? = some y → y.1.1 + 1 + j = ys.length ∧ ds[y.1.1]? = some y.1.2 := by
 refine ⟨List.ofFn (fun j : Fin ds.length => ⟨(ds.length - 1 - j.1, ds[ds.length - 1 - j.1]'(by omega)), List.getElem_mem _⟩), by simp, ?_, fun j y hy => ?_⟩
 · apply List.ext_getElem
   · simp
   · intro i h1 h2
     simp
 · rw [List.getElem?_ofFn] at hy
   split at hy
   · rename_i hj
     obtain rfl := Option.some.inj hy
     refine ⟨by simp; omega, ?_⟩
     exact List.getElem?_eq_getElem _
   · cases hy
theorem BackRowR.of {w : World} {A : Option Addr} {ds : List Rl} {ys : List (BkR ds)} (h : RowAt w w.heap.size A 3 ds.length (cellsOf encRl ds)) (hy : ∀ (j : Nat) (y : BkR ds), ys[j]? = some y → y.1.1 + 1 + j = ys.length ∧ ds[y.1.1]? = some y.1.2) : BackRowR ds w w.heap.size A ys :=
 ⟨fun j y h1 => by
  obtain ⟨h2, h3⟩ := hy j y h1
  obtain ⟨hi, e⟩ := List.getElem?_eq_some_iff.1 h3
  obtain ⟨b, off, ea, hb, hc⟩ := h.cell encRl_len hi
  have hx : ds[y.1.1]? = some ds[y.1.1] := List.getElem?_eq_getElem hi
  have g0 := hc y.1.1 _ hx 0 _ rfl
  have g1 := hc y.1.1 _ hx 1 _ rfl
  have g2 := hc y.1.1 _ hx 2 _ rfl
  rw [e] at g0 g1 g2
  exact ⟨h2, b, off, ea, hb, g0, g1, g2⟩⟩
set_option maxHeartbeats 1000000 in
theorem BackwardR_in (F : Fence) (n : Nat) (h5 : F.fn 28) (hro : F.round = none) (a : Option Addr) (len cap : Nat) (w : World) :
 CallsIn F n Tryz.prog 28 #[.slice a len cap] w fun e w' => e = .returned (.func (.func 55) #[] #[.pointer (some ⟨w.heap.size, 0, none⟩)]) ∧ w' = w.alloc (.cells #[.slice a len cap] 23) := by
 refine callsIn_of_wp Tryz.func28 rfl h5 ?_ hro
 simp only [Tryz.ntmps28, List.size_toArray, List.length_cons, List.length_nil, Nat.reduceAdd, Nat.reduceSub, Array.replicate_succ, Array.replicate_zero, List.push_toArray, List.append_toArray, List.nil_append, List.cons_append]
 gi_wp2
 go_ret
 exact ⟨rfl, rfl⟩
theorem backR_stops (ds : List (Rl)) (F : Fence) (n : Nat) (h8 : F.fn 55) (hro : F.round = none) (hn : 1 ≤ n) (Bs n₀ : Nat) (A : Option Addr) (cap : Nat) (ys : List (BkR ds)) (hlen : ys.length ≤ 1000000000) (w : World) (hB : Bs < w.heap.size) (hn₀ : n₀ ≤ w.heap.size)
 (hc : w.cell? ⟨Bs, 0, none⟩ = some (.slice A ys.length cap)) (hr : BackRowR ds w n₀ A ys) :
 SeqStopsK F n Tryz.prog 55 #[.pointer (some ⟨Bs, 0, none⟩)] (encBkR ds) (KpB n₀ Bs) (fun xs => xs = ys) (fun pre => ∃ k, k ≤ ys.length ∧ pre = ys.take k) ys.length w := fun l J Jx W hW _ _ hY h0 =>
 back1R_in ds F n h8 hro hn l Bs n₀ A cap ys hlen J Jx hY W ((hW.cell (p := ⟨Bs, 0, none⟩) hB).trans hc) (hr.below (hW.mono hn₀)) h0
end Go.Proofs.YtibflgfhjfcifaaGreatDoor
namespace Go.Proofs.YtibflgfhjfcifaaGreatDoor
open Go.Shelf Go.RowKit Go.Lib Go.Sort
def laysRevR_ren : Go.Shelf.Ren := ⟨fun | 35 => 31 | n => n, fun | 22 => 23 | 23 => 39 | 3 => 3 | 4 => 4 | 0 => 0 | n => n, fun | n => n⟩
theorem laysRevR : Go.Proofs.SlLaysE0.n35 Tryz.prog laysRevR_ren := {
 mixed := by kernel_rfl
 f35 := ⟨Tryz.f31.name, by decide, Tryz.func31.trans (congrArg some (by kernel_rfl))⟩
 t0 := Tryz.underlying0
 a0 := Tryz.isAgg0
 z0 := Tryz.sizeOf0
 v0 := Tryz.zeroValue0
 t3 := Tryz.underlying3
 a3 := Tryz.isAgg3
 z3 := Tryz.sizeOf3
 v3 := Tryz.zeroValue3
 t4 := Tryz.underlying4
 a4 := Tryz.isAgg4
 z4 := Tryz.sizeOf4
 v4 := Tryz.zeroValue4
 t22 := Tryz.underlying23
 a22 := Tryz.isAgg23
 z22 := Tryz.sizeOf23
 v22 := Tryz.zeroValue23 }
def laysRevF_ren : Go.Shelf.Ren := ⟨fun | 35 => 32 | n => n, fun | 22 => 28 | 23 => 55 | 3 => 3 | 4 => 4 | 0 => 0 | n => n, fun | n => n⟩
theorem laysRevF : Go.Proofs.SlLaysE0.n35 Tryz.prog laysRevF_ren := {
 mixed := by kernel_rfl
 f35 := ⟨Tryz.f32.name, by decide, Tryz.func32.trans (congrArg some (by kernel_rfl))⟩
 t0 := Tryz.underlying0
 a0 := Tryz.isAgg0
 z0 := Tryz.sizeOf0
 v0 := Tryz.zeroValue0
 t3 := Tryz.underlying3
 a3 := Tryz.isAgg3
 z3 := Tryz.sizeOf3
 v3 := Tryz.zeroValue3
 t4 := Tryz.underlying4
 a4 := Tryz.isAgg4
 z4 := Tryz.sizeOf4
 v4 := Tryz.zeroValue4
 t22 := Tryz.underlying28
 a22 := Tryz.isAgg28
 z22 := Tryz.sizeOf28
 v22 := Tryz.zeroValue28 }
def laysClnT_ren : Go.Shelf.Ren := ⟨fun | 41 => 30 | n => n, fun | 22 => 37 | 23 => 66 | 4 => 4 | n => n, fun | n => n⟩
theorem laysClnT : Go.Proofs.SlLaysE0.n41 Tryz.prog laysClnT_ren := {
 mixed := by kernel_rfl
 f41 := ⟨Tryz.f30.name, by decide, Tryz.func30.trans (congrArg some (by kernel_rfl))⟩
 t4 := Tryz.underlying4
 a4 := Tryz.isAgg4
 z4 := Tryz.sizeOf4
 v4 := Tryz.zeroValue4
 t22 := Tryz.underlying37
 a22 := Tryz.isAgg37
 z22 := Tryz.sizeOf37
 v22 := Tryz.zeroValue37 }
section
variable {α : Type} [Inhabited α] {enc : α → List Value} {k : Nat}
theorem flat_getK (hk : ∀ x, (enc x).length = k) (h0 : 0 < k) (l : List α) (j : Nat) (hj : j < l.length * k) : (cellsOf enc l)[j]? = some ((flatK enc k l.toArray)[j]!) := by
 have hi : j / k < l.length := (Nat.div_lt_iff_lt_mul h0).2 hj
 have hm : j % k < k := Nat.mod_lt _ h0
 rw [get_flatK enc k l.toArray j (by simpa using hj)]
 have h1 := cellsOf_get enc k hk l (j / k) (j % k) l[j / k] (List.getElem?_eq_getElem hi) hm
 rw [Nat.mul_comm, Nat.div_add_mod] at h1
 rw [h1]
 have e : (l.toArray[j / k]!) = l[j / k] := by rw [getElem!_pos _ _ (by simpa using hi)]; simp
 rw [e, List.getElem?_eq_getElem (by rw [hk]; exact hm), getElem!_pos _ _ (by rw [hk]; exact hm)]
theorem holds_ownK (hk : ∀ x, (enc x).length = k) (h0 : 0 < k) {w : World} {base g cap : Nat} {e : TypeId} {l : List α} (h : w.ownsRow base e k (.slice (some ⟨g, 0, none⟩) l.length cap) l.length (cellsOf enc l)) : HoldsK enc k w g 0 l.toArray := by
 intro j hj
 have hj' : j < l.length * k := by simpa using hj
 refine ⟨?_, by rw [Nat.zero_add]; exact h.frozenAt j⟩
 rw [Nat.zero_add, h.cellAt j hj', flat_getK hk h0 l j hj']
 rfl
theorem row_holdsK (hk : ∀ x, (enc x).length = k) (h0 : 0 < k) {w : World} {g n : Nat} {d : Array α} (h : HoldsK enc k w g 0 d) (hg : g < w.heap.size) (hn : d.size = n) : RowAt w w.heap.size (some ⟨g, 0, none⟩) k n (cellsOf enc d.toList) := by
 refine ⟨by rw [cellsOf_len _ k hk]; simp [hn], fun _ => ⟨g, 0, rfl, hg, fun j u hu => ?_⟩⟩
 have hj : j < d.toList.length * k := by
  have := (List.getElem?_eq_some_iff.1 hu).1
  rwa [cellsOf_len _ k hk] at this
 have h1 := flat_getK hk h0 d.toList j hj
 rw [hu] at h1
 have h2 := (h j (by simpa using hj)).1
 rw [h2]
 exact h1.symm
theorem grown_put {w : World} {g n : Nat} (d : Array α) : w.grownBy (putRowK enc k (Sort.ahead w n) g 0 d) (some g) := by
 refine ⟨rfl, rfl, rfl, by simp [putRowK], fun j hj hne => ?_⟩
 have : g ≠ j := fun e => hne (by rw [e])
 simp [putRowK, putRow, mapBlock, Sort.ahead, Array.getElem?_modify, this]
end
def RevPost {α : Type} (enc : α → List Value) (l : List α) (A : Option Addr) (row : Option Nat) (w : World) (e : Ending) (w' : World) : Prop := e = .returned (.tuple #[]) ∧ RowAt w' w'.heap.size A 3 l.length (cellsOf enc l.reverse) ∧ w.grownBy w' row
theorem rev_post {α : Type} [Inhabited α] {enc : α → List Value} (hk : ∀ x, (enc x).length = 3) {f : Nat} {T : TypeId} {base : Nat} {A : Option Addr} {c : Nat} {l : List α} {w : World} (hown : w.ownsRow base T 3 (.slice A l.length c) l.length (cellsOf enc l)) (hl : l.length ≤ 1000000000)
 (he : ∀ a cap, Calls Tryz.prog f #[.slice a 0 cap] w fun e w' => e = .returned (.tuple #[]) ∧ w' = w)
 (hr : ∀ blk cap (d : Array α), HoldsK enc 3 w blk 0 d → d.size ≤ 9223372036854775807 → Calls Tryz.prog f #[.slice (some ⟨blk, 0, none⟩) d.size cap] w fun e w' => e = .returned (.tuple #[]) ∧ ∃ n, w' = putRowK enc 3 (Sort.ahead w n) blk 0 d.reverse) :
 Calls Tryz.prog f #[.slice A l.length c] w (RevPost enc l A (Value.slice A l.length c).ownBlock w) := by
 by_cases h2 : 0 < l.length
 · obtain ⟨g, cap, hv, hbg, hgl⟩ := hown.form (by omega)
   obtain ⟨rfl, hc⟩ : A = some ⟨g, 0, none⟩ ∧ c = cap := by injection hv; exact ⟨by assumption, by assumption⟩
   have hH := holds_ownK hk (by omega) hown
   have hS := hr g c l.toArray hH (by simp; omega)
   rw [show l.toArray.size = l.length from List.size_toArray ..] at hS
   refine hS.mono ?_
   rintro e w' ⟨rfl, n, rfl⟩
   have hH2 : HoldsK enc 3 (putRowK enc 3 (Sort.ahead w n) g 0 l.toArray.reverse) g 0 l.toArray.reverse := holdsK_putRowK _ _ _ _ _ _ _ (holdsK_ahead _ _ _ _ _ _ _ hH) (by simp)
   have hx := row_holdsK hk (by omega) hH2 (by simpa [putRowK] using hgl) (n := l.length) (by simp)
   refine ⟨rfl, ?_, grown_put _⟩
   simpa using hx
 · obtain rfl : l = [] := List.length_eq_zero_iff.1 (by omega)
   refine (he A c).mono ?_
   rintro e w' ⟨rfl, rfl⟩
   exact ⟨rfl, RowAt.of_own hown, ⟨rfl, rfl, rfl, Nat.le_refl _, fun _ _ _ => rfl⟩⟩
instance : Inhabited Rl := ⟨⟨⟨#[]⟩, 0, ⟨none, 0, []⟩⟩⟩
instance : Inhabited Fl := ⟨⟨⟨#[]⟩, 0, 0⟩⟩
theorem ReverseR_any {base : Nat} {A : Option Addr} {c : Nat} {l : List Rl} {w : World} (hown : w.ownsRow base 39 3 (.slice A l.length c) l.length (cellsOf encRl l)) (hl : l.length ≤ 1000000000) :
 Calls Tryz.prog 31 #[.slice A l.length c] w (RevPost encRl l A (Value.slice A l.length c).ownBlock w) :=
 rev_post encRl_len hown hl (fun a cap => AnyQ.slices_Reverse_empty laysRevR a cap w) (fun blk cap d hH hs => AnyQ.slices_Reverse laysRevR 3 Tryz.isAgg39 Tryz.sizeOf39 encRl encRl_len encRl_one blk 0 cap d w hH hs)
theorem ReverseF_any {base : Nat} {A : Option Addr} {c : Nat} {l : List Fl} {w : World} (hown : w.ownsRow base 55 3 (.slice A l.length c) l.length (cellsOf encFl l)) (hl : l.length ≤ 1000000000) :
 Calls Tryz.prog 32 #[.slice A l.length c] w (RevPost encFl l A (Value.slice A l.length c).ownBlock w) :=
 rev_post encFl_len hown hl (fun a cap => AnyQ.slices_Reverse_empty laysRevF a cap w) (fun blk cap d hH hs => AnyQ.slices_Reverse laysRevF 3 Tryz.isAgg55 Tryz.sizeOf55 encFl encFl_len encFl_one blk 0 cap d w hH hs)
def ClonePost (l : List Tm) (w : World) (e : Ending) (w' : World) : Prop := ∃ A c, e = .returned (.slice A l.length c) ∧ w'.ownsRow w.heap.size 66 4 (.slice A l.length c) l.length (cellsOf encTm l) ∧ Below w.heap.size w w'
theorem CloneT_any (A : Option Addr) (c : Nat) (l : List Tm) (w : World) (hn : l.length ≤ 1000000) (h0 : 1 ≤ l.length) (h : RowAt w w.heap.size A 4 l.length (cellsOf encTm l)) :
 Calls Tryz.prog 30 #[.slice A l.length c] w (ClonePost l w) := by
 obtain ⟨ba, off, rfl, hb, hc⟩ := h.at_ (by omega)
 obtain ⟨i0, hi0, hz0, hz1, hz2⟩ := info_parts termInfo
 refine (AnyE.slices_Clone laysClnT i0 _ 4 48 hi0 hz0 hz1 hz2 rfl (by omega) Tryz.sizeOf66 ba off l.length c (cellsOf encTm l) w h.len (by unfold maxLen; omega) (by omega) hc (cells_one l)).mono ?_
 rintro e w' ⟨v', rfl, hown, _, hB⟩
 obtain ⟨A2, c2, rfl⟩ := own_slice hown
 exact ⟨A2, c2, rfl, hown, hB⟩
end Go.Proofs.YtibflgfhjfcifaaGreatDoor
namespace Go.Proofs.YtibflgfhjfcifaaGreatDoor
open Go.RowKit Go.Maps
def labs (rs : List Rp) : List Str := rs.filterMap fun y => (valT y.tms 23).map L
theorem sameV_L (v tg : ByteArray) : sameV (some v) tg = decide (L tg = L v) := by
 unfold sameV
 rw [Bool.eq_iff_iff, beq_iff_eq, decide_eq_true_eq, tl, tl]
 exact eq_comm
theorem labB_in (rs : List Rp) (tg : ByteArray) : labB rs tg = decide (L tg ∈ labs rs) := by
 unfold labB labs
 rw [Bool.eq_iff_iff, List.any_eq_true, decide_eq_true_eq, List.mem_filterMap]
 constructor
 · rintro ⟨y, hy, h⟩
   cases hv : valT y.tms 23 with
   | none => rw [hv] at h; cases h
   | some v =>
     rw [hv, sameV_L, decide_eq_true_eq] at h
     exact ⟨y, hy, by rw [hv, h]; rfl⟩
 · rintro ⟨y, hy, h⟩
   cases hv : valT y.tms 23 with
   | none => rw [hv] at h; cases h
   | some v =>
     rw [hv] at h
     have h : L v = L tg := by injection h
     exact ⟨y, hy, by rw [hv, sameV_L, h]; simp⟩
theorem labB_rev (rs : List Rp) (tg : ByteArray) : labB rs.reverse tg = labB rs tg := by
 unfold labB; rw [List.any_reverse]
theorem keepB_rev (rs : List Rp) (x : Rp) : keepB rs.reverse x = keepB rs x := by
 unfold keepB
 cases valT x.tms 24 with
 | none => rfl
 | some tg => exact labB_rev rs tg
def kB (l : List Rp) : List Rp := (linkF l.reverse).1.reverse
def fB (l : List Rp) : List Fl := (linkF l.reverse).2.reverse
theorem kfB_yes {l : List Rp} {x : Rp} (h : keepB (kB l) x = true) : kB (l ++ [x]) = kB l ++ [x] ∧ fB (l ++ [x]) = fB l := by
 unfold kB at h
 rw [keepB_rev] at h
 unfold kB fB
 rw [List.reverse_append, List.reverse_singleton, List.singleton_append, linkF, if_pos h]
 simp
theorem kfB_no {l : List Rp} {x : Rp} (h : keepB (kB l) x = false) : kB (l ++ [x]) = kB l ∧ fB (l ++ [x]) = fB l ++ [⟨x.file, x.line, 107⟩] := by
 unfold kB at h
 rw [keepB_rev] at h
 unfold kB fB
 rw [List.reverse_append, List.reverse_singleton, List.singleton_append, linkF, if_neg (by rw [h]; simp)]
 simp
theorem labs_snoc (rs : List Rp) (x : Rp) : labs (rs ++ [x]) = labs rs ++ ((valT x.tms 23).map L).toList := by
 unfold labs
 rw [List.filterMap_append, List.filterMap_cons, List.filterMap_nil]
 cases valT x.tms 23 <;> rfl
theorem labs_len (rs : List Rp) : (labs rs).length ≤ rs.length := List.length_filterMap_le ..
theorem setD_at (ns : List Str) (n : Str) : (setD ns).atKey (.string n) (.lit (.bool false)) = .lit (.bool (decide (n ∈ ns))) := by
 suffices h : ∀ l : List Str, (setD l.reverse).atKey (.string n) (.lit (.bool false)) = .lit (.bool (decide (n ∈ l))) by
  have := h ns.reverse
  rw [List.reverse_reverse] at this
  rw [this]; simp
 intro l
 induction l with
 | nil => rfl
 | cons x r ih =>
   rw [List.reverse_cons, setD_snoc]
   by_cases e : x = n
   · subst e
     rw [atKey_put_same (setD_tidy _).isMap (key_str _)]
     simp
   · rw [atKey_put_other (kne fun h => e h.symm), ih]
     simp [Ne.symm e]
abbrev mapB (w : World) (b n : Nat) (D : DW) : Prop := w.ownsMap Tryz.prog 9 (plainElem (H := Unit) Tryz.prog 4) b n D
theorem plainElem_bool_inv {e : TypeId} (he : Tryz.prog.underlying e = some .bool) {v : Value} {z : DW × List MemPlace} (h : plainElem Tryz.prog e v = some z) : ∃ a, v = .bool a ∧ z = (.lit (.bool a), []) := by
 unfold plainElem at h
 rw [he] at h
 cases v <;> simp at h
 exact ⟨_, rfl, h.symm⟩
theorem keyedS : Keyed Tryz.prog 9 := string_keyed Tryz.underlying9
theorem look_set {W : World} {m n : Nat} {ns : List Str} (h : mapB W m n (setD ns)) (s : ByteArray) (hs : s.size ≤ maxLen) :
 (Instr.lookup 60 (.map (some m)) (.string s) false).run Tryz.prog W = .ok (.bool (decide (L s ∈ ns))) W := by
 have hz : (zeroValue 4).run Tryz.prog W = .ok (.bool false) W := Tryz.zeroValue4 W
 obtain ⟨v, ps, hrun, hv⟩ := World.ownsMap.lookup h keyedS Tryz.underlying60 hz (plainElem_bool Tryz.underlying4 false) (WideMaps.keyOf_string_mk (P := Tryz.prog) Tryz.underlying9 hs)
 have hat : (setD ns).atKey (Lit.string s.data.toList) (.lit (.bool false)) = _ := setD_at ns (L s)
 rw [hat] at hv
 obtain ⟨a, rfl, e⟩ := plainElem_bool_inv Tryz.underlying4 hv
 have : decide (L s ∈ ns) = a := by simpa using congrArg Prod.fst e
 rw [hrun, this]
theorem RowAt.other {W W' : World} {B k n : Nat} {A : Option Addr} {xs : List Value} {row : Option Nat} (h : RowAt W B A k n xs) (hB : B ≤ W.heap.size) (hg : W.grownBy W' row) (hr : ∀ r, row = some r → ∀ a, A = some a → a.block ≠ r) : RowAt W' B A k n xs :=
 ⟨h.len, fun hn => by
  obtain ⟨ba, off, e, hb, hc⟩ := h.at_ hn
  exact ⟨ba, off, e, hb, fun j u hu => by rw [hg.cell_far ⟨ba, off + j, none⟩ (Nat.lt_of_lt_of_le hb hB) (fun e2 => hr ba e2.symm _ e rfl)]; exact hc j u hu⟩⟩
def Apart (vr vf : Value) (rl : List Rl) (r : Nat) : Prop := vr.ownBlock ≠ some r ∧ vf.ownBlock ≠ some r ∧ ∀ y ∈ rl, ∀ a, y.tms.A = some a → a.block ≠ r
theorem ScrSt.other {w W W' : World} {rl : List Rl} {fl : List Fl} {vr vf : Value} {row : Option Nat} (h : ScrSt w rl vr fl vf W) (hg : W.grownBy W' row) (hr : ∀ r, row = some r → w.heap.size ≤ r ∧ Apart vr vf rl r) : ScrSt w rl vr fl vf W' := by
 have hs := hg.size
 refine ⟨own_apart h.r hg (fun g e => (hr g e).2.1), own_apart h.f hg (fun g e => (hr g e).2.2.1), fun y hy => ?_, fun y hy => ?_, h.ap, h.low.grown hg h.low.size (fun j e => (hr j e).1), h.ge⟩
 · exact ⟨((h.ir y hy).at_.other (Nat.le_refl _) hg (fun r e => (hr r e).2.2.2 y hy)).up hs, (h.ir y hy).off⟩
 · exact ⟨((h.fr y hy).at_.other (Nat.le_refl _) hg (fun r e => (hr r e).2.2.2 y hy)).up hs, (h.fr y hy).off⟩
structure LkS (w : World) (ns : List Str) (rl : List Rl) (vr : Value) (fl : List Fl) (vf : Value) (W : World) : Prop where
 b4 : W.heap[w.heap.size]? = some (.cells #[vr] 23 (0, 0))
 b5 : W.heap[w.heap.size + 1]? = some (.cells #[vf] 28 (0, 0))
 mp : mapB W (w.heap.size + 2) ns.length (setD ns)
 b6 : W.cell? ⟨w.heap.size + 3, 0, none⟩ = some (.map (some (w.heap.size + 2)))
 st : ScrSt w rl vr fl vf W
 fr : ∀ g, vr.ownBlock = some g → w.heap.size + 5 ≤ g
 ff : ∀ g, vf.ownBlock = some g → w.heap.size + 5 ≤ g
 nr : rl = [] → vr.ownBlock = none
 nf : fl = [] → vf.ownBlock = none
 tm : ∀ y ∈ rl, 1 ≤ y.tms.l.length ∧ ∃ a, y.tms.A = some a ∧ w.heap.size + 5 ≤ a.block
 sz : w.heap.size + 5 ≤ W.heap.size
section
variable {w W W' : World} {ns : List Str} {rl : List Rl} {vr : Value} {fl : List Fl} {vf : Value}
theorem own_obj {base kk n g : Nat} {e : TypeId} {v : Value} {xs : List Value} (h : W.ownsRow base e kk v n xs) (hg : v.ownBlock = some g) : ∃ o, W.heap[g]? = some o ∧ o.isCells = true := by
 rcases h.2 with ⟨rfl, _⟩ | ⟨g', cap, cur, rfl, hb, hh, _⟩
 · cases hg
 · have : g' = g := by simpa [Value.ownBlock] using hg
   subst this
   exact ⟨_, hh, rfl⟩
theorem LkS.other {row : Option Nat} (h : LkS w ns rl vr fl vf W) (hg : W.grownBy W' row) (hr : ∀ r, row = some r → w.heap.size + 5 ≤ r ∧ Apart vr vf rl r) : LkS w ns rl vr fl vf W' := by
 have hs := hg.size
 have hz := h.sz
 have hne : ∀ k, k < w.heap.size + 5 → some k ≠ row := fun k hk e => by have := (hr k e.symm).1; omega
 refine ⟨(hg.block w.heap.size (by omega) (hne w.heap.size (by omega))).trans h.b4, (hg.block (w.heap.size + 1) (by omega) (hne (w.heap.size + 1) (by omega))).trans h.b5, h.mp.kept hg (fun e => hne (w.heap.size + 2) (by omega) e), (hg.cell_far ⟨w.heap.size + 3, 0, none⟩ (by show w.heap.size + 3 < _; omega) (hne (w.heap.size + 3) (by omega))).trans h.b6, h.st.other hg (fun r e => ⟨by have := (hr r e).1; omega, (hr r e).2⟩), h.fr, h.ff, h.nr, h.nf, h.tm, by omega⟩
theorem LkS.go (h : LkS w ns rl vr fl vf W) (hb : Below W.heap.size W W') : LkS w ns rl vr fl vf W' := h.other (grown_below hb none) (fun r e => by cases e)
theorem tm_cells {y : Rl} {B r : Nat} (h : RowAt W B y.tms.A 4 y.tms.l.length (cellsOf encTm y.tms.l)) (h1 : 1 ≤ y.tms.l.length) {a : Addr} (ha : y.tms.A = some a) (hr : a.block = r) : ∃ off u, W.cell? ⟨r, off + 3, none⟩ = some u := by
 obtain ⟨ba, off, e, hb, hc⟩ := h.at_ (by omega)
 rw [ha] at e
 obtain rfl := Option.some.inj e
 subst hr
 have hlen : 3 < (cellsOf encTm y.tms.l).length := by rw [h.len]; omega
 exact ⟨off, _, hc 3 _ (List.getElem?_eq_getElem hlen)⟩
theorem LkS.apartN (h : LkS w ns rl vr fl vf W) {r : Nat} {o : Obj} (hr : W.heap[r]? = some o) (ho : o.isCells = false) : Apart vr vf rl r := by
 refine ⟨fun e => ?_, fun e => ?_, fun y hy a ha e => ?_⟩
 · obtain ⟨o2, h1, h2⟩ := own_obj h.st.r e
   rw [hr] at h1; cases h1; rw [ho] at h2; cases h2
 · obtain ⟨o2, h1, h2⟩ := own_obj h.st.f e
   rw [hr] at h1; cases h1; rw [ho] at h2; cases h2
 · obtain ⟨off, u, hc⟩ := tm_cells (h.st.ir y hy).at_ (h.tm y hy).1 ha e
   obtain ⟨o2, h1, h2⟩ := cells_of_cell hc
   rw [hr] at h1; cases h1; rw [ho] at h2; cases h2
theorem LkS.apartQ (h : LkS w ns rl vr fl vf W) {q ba off n c : Nat} {f : ByteArray} {ln : Int} (hq : W.heap[q]? = some (.cells #[.string f, .int .i64 ln, .slice (some ⟨ba, off, none⟩) n c] 39 (0, 0))) (hba : ba < w.heap.size) : Apart vr vf rl q := by
 have h2 : W.cell? ⟨q, 2, none⟩ = some (.slice (some ⟨ba, off, none⟩) n c) := by rw [cell_of_row _ _ 2 _ _ _ hq]; rfl
 refine ⟨fun e => ?_, fun e => ?_, fun y hy a ha e => ?_⟩
 · cases rl with
   | nil => rw [h.nr rfl] at e; cases e
   | cons y r =>
     have := h.st.r.cells e 2 _ (by rfl : (cellsOf encRl (y :: r))[2]? = some (.slice y.tms.A y.tms.l.length y.tms.c))
     have h3 : W.cell? ⟨q, 2, none⟩ = some (.slice y.tms.A y.tms.l.length y.tms.c) := by simpa [Addr.add] using this
     rw [h2] at h3
     obtain ⟨_, a, ha, hb⟩ := h.tm y (List.mem_cons_self ..)
     injection h3 with h3
     injection h3 with h3
     rw [ha] at h3
     have := Option.some.inj h3
     subst this
     exact absurd hb (by simp; omega)
 · cases fl with
   | nil => rw [h.nf rfl] at e; cases e
   | cons y r =>
     have := h.st.f.cells e 2 _ (by rfl : (cellsOf encFl (y :: r))[2]? = some (.int .i64 y.errno))
     have h3 : W.cell? ⟨q, 2, none⟩ = some (.int .i64 y.errno) := by simpa [Addr.add] using this
     rw [h2] at h3
     cases h3
 · obtain ⟨off, u, hc⟩ := tm_cells (h.st.ir y hy).at_ (h.tm y hy).1 ha e
   rw [cell_of_row _ _ _ _ _ _ hq] at hc
   cases hc
theorem LkS.label {n : Str} (h : LkS w ns rl vr fl vf W) (h1 : mapB W' (w.heap.size + 2) (ns.length + 1) ((setD ns).put (.string n) (.lit (.bool true)))) (hg : W.grownBy W' (some (w.heap.size + 2))) : LkS w (ns ++ [n]) rl vr fl vf W' := by
 have hs := hg.size
 have hz := h.sz
 have hA : Apart vr vf rl (w.heap.size + 2) := by
  obtain ⟨es, ck, hh, _⟩ := h.mp
  exact h.apartN hh rfl
 refine ⟨(hg.block w.heap.size (by omega) (by intro e; have := Option.some.inj e; omega)).trans h.b4, (hg.block (w.heap.size + 1) (by omega) (by intro e; have := Option.some.inj e; omega)).trans h.b5, by rw [List.length_append, setD_snoc]; exact h1, (hg.cell_far ⟨w.heap.size + 3, 0, none⟩ (by show w.heap.size + 3 < _; omega) (by intro e; have : w.heap.size + 3 = w.heap.size + 2 := Option.some.inj e; omega)).trans h.b6, h.st.other hg (fun r e => by cases e; exact ⟨by omega, hA⟩), h.fr, h.ff, h.nr, h.nf, h.tm, by omega⟩
theorem LkS.pushR {W1 w9 : World} {y : Rl} {g2 c : Nat} {a : Addr} (h : LkS w ns rl vr fl vf W) (hb : Below W.heap.size W W1) (hy : RowAt W W.heap.size y.tms.A 4 y.tms.l.length (cellsOf encTm y.tms.l)) (hy1 : 1 ≤ y.tms.l.length) (hya : y.tms.A = some a) (hy5 : w.heap.size + 5 ≤ a.block) (hyr : vr.ownBlock ≠ some a.block ∧ vf.ownBlock ≠ some a.block)
 (hown : w9.ownsRow w.heap.size 39 3 (.slice (some ⟨g2, 0, none⟩) (rl.length + 1) c) (rl.length + 1) (cellsOf encRl rl ++ encRl y)) (hg : W1.grownBy w9 vr.ownBlock) (hat : vr.ownBlock = some g2 ∨ g2 = W1.heap.size) :
 LkS w ns (rl ++ [y]) (.slice (some ⟨g2, 0, none⟩) (rl.length + 1) c) fl vf (w9.setCell ⟨w.heap.size, 0, none⟩ (.slice (some ⟨g2, 0, none⟩) (rl.length + 1) c)) := by
 have hs := hg.size
 have hz := (h.go hb).sz
 have hne : ∀ k, k < w.heap.size + 5 → some k ≠ vr.ownBlock := fun k hk e => by have := h.fr k e.symm; omega
 have hst := h.st.pushR hb hy (fun a2 e => by rw [hya] at e; obtain rfl := Option.some.inj e; exact ⟨by omega, hyr⟩) hown hg hat
 have hg2 : w.heap.size + 5 ≤ g2 := by
  rcases hat with e | e
  · exact h.fr g2 e
  · omega
 have hG := grown_set w9 w.heap.size 0 (.slice (some ⟨g2, 0, none⟩) (rl.length + 1) c)
 have hG1 := hG.size
 have h9 := (hg.block w.heap.size (by omega) (hne _ (by omega))).trans (h.go hb).b4
 have htm : ∀ z ∈ rl ++ [y], 1 ≤ z.tms.l.length ∧ ∃ a, z.tms.A = some a ∧ w.heap.size + 5 ≤ a.block := fun z hz => by
  rcases List.mem_append.1 hz with hz | hz
  · exact h.tm z hz
  · obtain rfl := List.mem_singleton.1 hz
    exact ⟨hy1, a, hya, hy5⟩
 refine ⟨by rw [heap_setCell_same _ _ _ _ _ _ h9]; rfl, (hG.block (w.heap.size + 1) (by omega) (by intro e; have := Option.some.inj e; omega)).trans ((hg.block (w.heap.size + 1) (by omega) (hne _ (by omega))).trans (h.go hb).b5), ((h.go hb).mp.kept hg (fun e => hne (w.heap.size + 2) (by omega) e)).kept hG (by intro e; have := Option.some.inj e; omega), (hG.cell_far ⟨w.heap.size + 3, 0, none⟩ (by show w.heap.size + 3 < _; omega) (by intro e; have : w.heap.size + 3 = w.heap.size := Option.some.inj e; omega)).trans ((hg.cell_far ⟨w.heap.size + 3, 0, none⟩ (by show w.heap.size + 3 < _; omega) (hne (w.heap.size + 3) (by omega))).trans (h.go hb).b6), hst.other hG (fun r e => ?_), fun g e => ?_, h.ff, fun e => by simp at e, h.nf, htm, by omega⟩
 · obtain rfl := Option.some.inj e
   refine ⟨Nat.le_refl _, fun e => ?_, fun e => ?_, fun z hz a2 ha2 e => ?_⟩
   · have : g2 = w.heap.size := by simpa [Value.ownBlock] using e
     omega
   · have := h.ff _ e; omega
   · obtain ⟨_, a3, ha3, hb3⟩ := htm z hz
     rw [ha2] at ha3
     obtain rfl := Option.some.inj ha3
     omega
 · have : g2 = g := by simpa [Value.ownBlock] using e
   omega
theorem LkS.pushF {W1 w9 : World} {y : Fl} {g2 c : Nat} (h : LkS w ns rl vr fl vf W) (hb : Below W.heap.size W W1)
 (hown : w9.ownsRow w.heap.size 55 3 (.slice (some ⟨g2, 0, none⟩) (fl.length + 1) c) (fl.length + 1) (cellsOf encFl fl ++ encFl y)) (hg : W1.grownBy w9 vf.ownBlock) (hat : vf.ownBlock = some g2 ∨ g2 = W1.heap.size) :
 LkS w ns rl vr (fl ++ [y]) (.slice (some ⟨g2, 0, none⟩) (fl.length + 1) c) (w9.setCell ⟨w.heap.size + 1, 0, none⟩ (.slice (some ⟨g2, 0, none⟩) (fl.length + 1) c)) := by
 have hs := hg.size
 have hz := (h.go hb).sz
 have hne : ∀ k, k < w.heap.size + 5 → some k ≠ vf.ownBlock := fun k hk e => by have := h.ff k e.symm; omega
 have hst := h.st.pushF hb hown hg hat
 have hg2 : w.heap.size + 5 ≤ g2 := by
  rcases hat with e | e
  · exact h.ff g2 e
  · omega
 have hG := grown_set w9 (w.heap.size + 1) 0 (.slice (some ⟨g2, 0, none⟩) (fl.length + 1) c)
 have hG1 := hG.size
 have h9 := (hg.block (w.heap.size + 1) (by omega) (hne _ (by omega))).trans (h.go hb).b5
 refine ⟨(hG.block w.heap.size (by omega) (by intro e; have := Option.some.inj e; omega)).trans ((hg.block w.heap.size (by omega) (hne _ (by omega))).trans (h.go hb).b4), by rw [heap_setCell_same _ _ _ _ _ _ h9]; rfl, ((h.go hb).mp.kept hg (fun e => hne (w.heap.size + 2) (by omega) e)).kept hG (by intro e; have := Option.some.inj e; omega), (hG.cell_far ⟨w.heap.size + 3, 0, none⟩ (by show w.heap.size + 3 < _; omega) (by intro e; have : w.heap.size + 3 = w.heap.size + 1 := Option.some.inj e; omega)).trans ((hg.cell_far ⟨w.heap.size + 3, 0, none⟩ (by show w.heap.size + 3 < _; omega) (hne (w.heap.size + 3) (by omega))).trans (h.go hb).b6), hst.other hG (fun r e => ?_), h.fr, fun g e => ?_, h.nr, fun e => by simp at e, h.tm, by omega⟩
 · obtain rfl := Option.some.inj e
   refine ⟨by omega, fun e => ?_, fun e => ?_, fun z hz a2 ha2 e => ?_⟩
   · have := h.fr _ e; omega
   · have : g2 = w.heap.size + 1 := by simpa [Value.ownBlock] using e
     omega
   · obtain ⟨_, a3, ha3, hb3⟩ := h.tm z hz
     rw [ha2] at ha3
     obtain rfl := Option.some.inj ha3
     omega
 · have : g2 = g := by simpa [Value.ownBlock] using e
   omega
end
theorem valT_mem {l : List Tm} {key : Int} {v : ByteArray} (h : valT l key = some v) : ∃ t ∈ l, t.value = v := by
 unfold valT at h
 cases hf : l.find? (fun t => t.key == key) with
 | none => rw [hf] at h; cases h
 | some t => rw [hf] at h; exact ⟨t, List.mem_of_find?_eq_some hf, Option.some.inj h⟩
theorem valOV_some (v : ByteArray) : valOV (some v) = .tuple #[.string v, .bool true] := rfl
theorem valOV_none : valOV none = .tuple #[.string ⟨#[]⟩, .bool false] := rfl
def Rnd (w W W' : World) : Prop := KeepsFrom (w.heap.size + 5) W W' ∧ KpB w.heap.size (w.heap.size + 4) W W'
theorem Rnd.refl (w W : World) : Rnd w W W := ⟨KeepsFrom.refl _ _, Below.refl _ _, rfl⟩
theorem Rnd.step {w W W1 W2 : World} {row : Option Nat} (h : Rnd w W W1) (hz : w.heap.size + 5 ≤ W1.heap.size) (hg : W1.grownBy W2 row) (hr : ∀ r, row = some r → w.heap.size ≤ r ∧ r ≠ w.heap.size + 4 ∧ (r < w.heap.size + 5 ∨ ∃ o, W1.heap[r]? = some o ∧ o.isCells = true)) : Rnd w W W2 := by
 refine ⟨h.1.trans ⟨hg.size, fun k o hk h0 ho => ?_⟩, h.2.1.grown hg (by omega) (fun r e => (hr r e).1), (hg.block _ (by omega) (fun e => (hr _ e.symm).2.1 rfl)).trans h.2.2⟩
 refine (hg.block k (blk_lt' h0) (fun e => ?_)).trans h0
 rcases (hr k e.symm).2.2 with h1 | ⟨o2, h1, h2⟩
 · omega
 · rw [h0] at h1; cases h1; rw [ho] at h2; cases h2
theorem Rnd.go {w W W1 W2 : World} (h : Rnd w W W1) (hz : w.heap.size + 5 ≤ W1.heap.size) (hb : Below W1.heap.size W1 W2) : Rnd w W W2 := h.step hz (grown_below hb none) (fun r e => by cases e)
theorem Rnd.set {w W W1 : World} {r i : Nat} {v : Value} (h : Rnd w W W1) (hz : w.heap.size + 5 ≤ W1.heap.size) (h1 : w.heap.size ≤ r ∧ r ≠ w.heap.size + 4 ∧ (r < w.heap.size + 5 ∨ ∃ o, W1.heap[r]? = some o ∧ o.isCells = true)) : Rnd w W (W1.setCell ⟨r, i, none⟩ v) :=
 h.step hz (grown_set W1 r i v) (fun k e => by obtain rfl := Option.some.inj e; exact h1)
theorem wpListIn_append_lies {F : Fence} {n : Nat} {P : Program} (w : World) {ops : Array Oper} {rest : List Oper} {o : Oper} {a : Act} {Q : Exit → Act → World → Prop} (hgd : o.guard = none) (s x : Operand) (t : TypeId)
 (hop : o.op = Op.call { callee := Callee.builtin Builtin.append, args := #[s, x], argTypes := #[t, t] })
 (base : Nat) (e : TypeId) (i : TypeInfo) (z : Value) (size bytes : Nat) (ht : P.underlying t = some (.slice e)) (hi : P.info? e = some i) (hz : i.zero = some z)
 (hsize : i.size = size) (hby : i.bytes = bytes) (hzs : z.cells.size = size) (hsz : 0 < size)
 (v : Value) (k : Nat) (xs : List Value) (hs : a.eval s = v) (hown : w.ownsRow base e size v k xs)
 (ad : Addr) (m c : Nat) (news : List Value) (hx : a.eval x = .slice (some ad) m c) (hl : news.length = m * size) (hnews : ∀ j u, news[j]? = some u → w.cell? (ad.add j) = some u) (h1 : ∀ u ∈ news, u.oneCell' = true)
 (hm : 0 < m) (h63 : k + m ≤ maxLen) (hbytes : (k + m) * bytes ≤ 140737488355328) (hbase : base ≤ w.heap.size) (H : Nat) (hH : w.heap.size = H)
 (hK : ∀ g cap w', w'.ownsRow base e size (.slice (some ⟨g, 0, none⟩) (k + m) cap) (k + m) (xs ++ news) → w.grownBy w' v.ownBlock → (v.ownBlock = some g ∨ g = H) → g < w'.heap.size → wpListIn F n P ops Q rest (a.put o.dst (.slice (some ⟨g, 0, none⟩) (k + m) cap)) w') : wpListIn F n P ops Q (o :: rest) a w := by
 refine wpListIn_plain hgd fun K hK' => ?_
 obtain ⟨g, cap, w', hrun, r1, r2, r3, r4⟩ := run_append_lies (P := P) w t o.type base e i z size bytes ht hi hz hsize hby hzs hsz v k xs hown ad m c news hl hnews h1 hm h63 hbytes hbase H hH
 unfold Oper.wpIn
 refine ⟨?_, ?_⟩
 · simp [Oper.about, hop, resolve, Target.leads, Sem.run_pure]
 · rw [Oper.semAt_plain F _ _ (by rw [hop]; intro c hc'; cases hc')]
   simp [execOp, hop, resolve, invoke, builtin, hs, hx, hrun, Result.andThen]
   exact hK' _ _ (hK g cap w' r1 r2 r3 r4)
end Go.Proofs.YtibflgfhjfcifaaGreatDoor
namespace Go.Proofs.YtibflgfhjfcifaaGreatDoor
open Go.RowKit Go.Shelf Go.Maps
attribute [local go_sem] Oper.semAt_some
theorem KpB.bl {n₀ Bs B : Nat} (hn : n₀ ≤ B) (hB : Bs < B) (W : World) (l : Nat) (o o' : Obj) (hl : B ≤ l) (ho : W.heap[l]? = some o) (_hc : o.isCells = false) (_hw : o.isWalk = false) : KpB n₀ Bs W (W.putObj l o') :=
 ⟨(Below.refl _ _).grown (grownBy_putObj' W l o') (by have := (Array.getElem?_eq_some_iff.1 ho).1; omega) (fun k e => by cases e; omega), World.putObj_heap_other (by omega)⟩
theorem new_at {X : World} {o : Obj} {n : Nat} (h : X.heap.size = n) : (X.alloc o).heap[n]? = some o := by rw [← h]; exact heap_alloc_new X o
abbrev bkP {ds : List Rl} (y : BkR ds) : Rp := y.1.2.p
def LkI (w : World) (l : List Rp) (W : World) : Prop := ∃ rl vr fl vf, LkS w (labs (rl.map Rl.p)) rl vr fl vf W ∧ rl.map Rl.p = kB l ∧ fl = fB l
theorem LkI.other {w W W' : World} {l : List Rp} {row : Option Nat} (h : LkI w l W) (hg : W.grownBy W' row) (hr : ∀ r, row = some r → w.heap.size + 5 ≤ r ∧ ∃ o : Obj, W.heap[r]? = some o ∧ o.isCells = false) : LkI w l W' := by
 obtain ⟨rl, vr, fl, vf, h1, h2⟩ := h
 exact ⟨rl, vr, fl, vf, h1.other hg (fun r e => by obtain ⟨h3, o, h4, h5⟩ := hr r e; exact ⟨h3, h1.apartN h4 h5⟩), h2⟩
set_option maxRecDepth 100000 in
set_option maxHeartbeats 8000000 in
theorem PLink_any (A : Option Addr) (c : Nat) (ds : List Rl) (w : World) (hl : ds.length ≤ 1000) (hz : ∀ x ∈ ds, 1 ≤ x.tms.l.length ∧ x.tms.l.length ≤ 1000 ∧ ∀ t ∈ x.tms.l, t.value.size ≤ 1000) (h : RowAt w w.heap.size A 3 ds.length (cellsOf encRl ds)) (hi : InAt 4 encTm Rl.tms w w.heap.size ds) :
 Calls Tryz.prog 9 #[.slice A ds.length c] w (LinkPost (fun a => w.heap.size ≤ a.block) (ds.map Rl.p) w) := by
 obtain ⟨ys, hyl, hym, hyj⟩ := back_listR ds
 have HYm : Hid ((ys.map bkP).reverse = ds.map Rl.p) := Lib.hid (by
  have : ys.map bkP = (ys.map (fun y => y.1.2)).map Rl.p := by rw [List.map_map]; rfl
  rw [this, hym, List.map_reverse, List.reverse_reverse])
 have HI := Lib.hid hi
 have HZ := Lib.hid hz
 have HBr := Lib.hid (fun W (hW : Below w.heap.size w W) => (BackRowR.of h hyj).below hW)
 have hmm := @run_makeMap Tryz.prog
 obtain ⟨i0, hi0, hz0, hz1, hz2⟩ := info_parts rlInfo
 have Hi0 := Lib.hid hi0
 have Hz0 := Lib.hid hz0
 have Hz1 := Lib.hid hz1
 have Hz2 := Lib.hid hz2
 obtain ⟨j0, hj0, hy0, hy1, hy2⟩ := info_parts flInfo
 have Hj0 := Lib.hid hj0
 have Hy0 := Lib.hid hy0
 have Hy1 := Lib.hid hy1
 have Hy2 := Lib.hid hy2
 rw [← hyl]
 rw [← hyl] at hl
 clear h hi hz hyl hym hyj hi0 hz0 hz1 hz2 hj0 hy0 hy1 hy2
 refine (callsIn_wide (n := 6)).1 (callsIn_of_wp_marks Tryz.func9 rfl trivial (wpIn_wide.2 ?_) rfl)
 simp only [Tryz.ntmps9, List.size_toArray, List.length_cons, List.length_nil, Nat.reduceAdd, Nat.reduceSub, Array.replicate_succ, Array.replicate_zero, List.push_toArray, List.append_toArray, List.nil_append, List.cons_append]
 go_wp2_with (first
  | (go_at_call 28; refine ((callsIn_wide (n := 6)).1 (BackwardR_in Fence.wide 6 trivial rfl _ _ _ _)).mono ?_; rintro e w' ⟨rfl, rfl⟩))
 have hm0 := World.ownsMap_made ((w.alloc (.cells #[.slice none 0 0] 23)).alloc (.cells #[.slice none 0 0] 28)) Tryz.prog 9 (plainElem (H := Unit) Tryz.prog 4)
 obtain ⟨W0, hW0⟩ : ∃ W0, ((((w.alloc (.cells #[.slice none 0 0] 23)).alloc (.cells #[.slice none 0 0] 28)).alloc (.map #[] 0)).alloc (.cells #[.map (some (w.heap.size + 1 + 1))] 60)).alloc (.cells #[.slice A ys.length c] 23) = W0 := ⟨_, rfl⟩
 have hs0 : W0.heap.size = w.heap.size + 5 := by rw [← hW0]; simp
 have hB0 : Below w.heap.size w W0 := by rw [← hW0]; exact (((((Below.refl _ w).alloc (Nat.le_refl _) _).alloc (by simp) _).alloc (by simp <;> omega) _).alloc (by simp <;> omega) _).alloc (by simp <;> omega) _
 have hS0 : LkS w [] [] (.slice none 0 0) [] (.slice none 0 0) W0 := by
  refine ⟨?_, ?_, ?_, ?_, ⟨World.ownsRow_nil _ _ _ _, World.ownsRow_nil _ _ _ _, InOff.nil, InOff.nil, (fun _ h => by cases h), hB0, (fun _ h => by cases h)⟩, (fun g e => by cases e), (fun g e => by cases e), (fun _ => rfl), (fun _ => rfl), (fun y hy => by cases hy), by omega⟩
  · rw [← hW0, Below.heap_alloc _ _ _ (by simp <;> omega), Below.heap_alloc _ _ _ (by simp <;> omega), Below.heap_alloc _ _ _ (by simp <;> omega), Below.heap_alloc _ _ _ (by simp)]; exact heap_alloc_new w _
  · rw [← hW0, Below.heap_alloc _ _ _ (by simp <;> omega), Below.heap_alloc _ _ _ (by simp <;> omega), Below.heap_alloc _ _ _ (by simp)]; exact new_at (by simp)
  · rw [← hW0]; rw [World.size_alloc, World.size_alloc] at hm0; exact (hm0.alloc _).alloc _
  · rw [← hW0, World.cell?_of_block (Below.heap_alloc _ _ _ (by simp))]; exact cellOf (new_at (by simp)) (by rfl)
 have hN0 : W0.cell? ⟨w.heap.size + 4, 0, none⟩ = some (.slice A ys.length c) := by rw [← hW0]; exact cellOf (new_at (by simp)) (by rfl)
 rw [hW0]
 clear hmm hm0 hW0
 refine wpIn_wide.1 (wpIn_rangeFunc_ownH (F := Fence.wide) (n := 6) rfl (by omega) (gf := 55) (lb := #[.pointer (some ⟨w.heap.size + 4, 0, none⟩)]) rfl trivial (enters_of Tryz.func55 (by kernel_rfl) rfl)
  (backR_stops ds Fence.wide 5 trivial rfl (by omega) (w.heap.size + 4) w.heap.size A c ys (by omega) W0 (by omega) (by omega) hN0 (HBr.out W0 hB0)) KpB.t (KpB.bl (by omega) (by omega)) (Below.refl _ _) (fun _ => rfl)
  (fun (pre : List (BkR ds)) W => LkI w (pre.map bkP) W)
  (fun _ _ _ => False)
  (fun s X Y row hs hg hr => hs.other hg (fun r e => by obtain ⟨h3, h4⟩ := hr r e; exact ⟨by omega, h4⟩))
  (fun _ _ _ _ _ hs _ _ => hs)
  ⟨[], _, [], _, hS0, rfl, rfl⟩
  (fun x a' W => ∃ q, w.heap.size + 5 ≤ q ∧ W.heap[q]? = some (.cells #[.string x.1.2.file, .int .i64 x.1.2.line, .slice x.1.2.tms.A x.1.2.tms.l.length x.1.2.tms.c] 39 (0, 0)) ∧ a' = { tmps := #[.slice A ys.length c, undef, .slice none 0 0, .slice none 0 0, .pointer (some ⟨w.heap.size, 0, none⟩), .pointer (some ⟨w.heap.size + 1, 0, none⟩), .pointer (some ⟨w.heap.size + 3, 0, none⟩), undef, .pointer (some ⟨q, 0, none⟩), undef, undef, undef, undef, .map (some (w.heap.size + 2)), .slice A ys.length c, .func (.func 55) #[] #[.pointer (some ⟨w.heap.size + 4, 0, none⟩)], .int .i64 (x.1.1 : Int), .agg #[.string x.1.2.file, .int .i64 x.1.2.line, .slice x.1.2.tms.A x.1.2.tms.l.length x.1.2.tms.c], undef, undef, undef, undef, undef, undef, undef, undef, undef, undef, undef, undef, undef, undef, undef, undef, undef, undef, undef, undef, undef, undef, undef, undef, undef, undef, undef, undef, undef, undef, undef, undef, undef, undef, undef, undef, undef, undef, undef, undef, undef, undef, undef, undef], defers := [] })
  ?hAx ?assign ?body ?done ?stop)
 case assign =>
  rintro l pre x W K ⟨rl, vr, fl, vf, hS, h2⟩ hK
  obtain ⟨x, hx⟩ := x
  have hz5 := hS.sz
  gi_wp2
  exact hK _ _ ((KeepsOthers.alloc _ _).from _) ⟨(Below.refl _ _).alloc hS.st.low.size _, Below.heap_alloc _ _ _ (by omega)⟩ ⟨rl, vr, fl, vf, hS.go (below_alloc _ _), h2⟩ ⟨W.heap.size, by omega, heap_alloc_new W _, rfl⟩
 case hAx =>
  rintro x a' s X Y row ⟨q, h1, h2, h3⟩ hg hr
  exact ⟨q, h1, (hg.block q (blk_lt' h2) (fun e => by obtain ⟨_, o, h4, h5⟩ := hr q e.symm; rw [h2] at h4; cases h4; cases h5)).trans h2, h3⟩
 case stop =>
  rintro D c pre W _ _ h _
  exact h.elim
 case body =>
  rintro l pre x a' W hlw ⟨r, hr⟩ ⟨rl, vr, fl, vf, hS, hrl, hfl⟩ ⟨q, hq0, hq, rfl⟩ hlt
  obtain ⟨⟨ix, xf, xl, xA, xc, xt⟩, hx⟩ := x
  have hin := HI.out _ hx
  obtain ⟨hz1, hz2, hz3⟩ := HZ.out _ hx
  dsimp only at hin hz1 hz2 hz3 hq ⊢
  obtain ⟨ba, off, rfl, hba, _⟩ := hin.at_ (by omega)
  have hrow : ∀ W', Below w.heap.size w W' → RowAt W' W'.heap.size (some ⟨ba, off, none⟩) 4 xt.length (cellsOf encTm xt) := fun W' hb => (hin.keep hb).up hb.size
  have HCl := Lib.hid (fun W' hb => CloneT_any (some ⟨ba, off, none⟩) xc xt W' (by omega) hz1 (hrow W' hb))
  have HV1 := Lib.hid (PValue_any (some ⟨ba, off, none⟩) xc xt 24 W (by omega) (hrow W hS.st.low))
  have HV2 := Lib.hid (fun W' hb => PValue_any (some ⟨ba, off, none⟩) xc xt 23 W' (by omega) (hrow W' hb))
  have hpp : (pre ++ [(⟨(ix, ⟨xf, xl, ⟨some ⟨ba, off, none⟩, xc, xt⟩⟩), hx⟩ : BkR ds)]).map bkP = pre.map bkP ++ [(⟨xf, xl, xt⟩ : Rp)] := by rw [List.map_append]; rfl
  have hvs : ∀ k v, valT xt k = some v → v.size ≤ maxLen := fun k v hv => by
   obtain ⟨t, ht, e⟩ := valT_mem hv
   have := hz3 t ht
   rw [e] at this
   unfold maxLen; omega
  have hlen1 : rl.length ≤ pre.length := by
   have h1 : (rl.map Rl.p).length = (kB (pre.map bkP)).length := by rw [hrl]
   have h2 := linkF_len (pre.map bkP).reverse
   rw [List.length_map] at h1
   simp [kB] at h1 h2
   omega
  have hlen2 : fl.length ≤ pre.length := by
   have h1 : fl.length = (fB (pre.map bkP)).length := by rw [hfl]
   have h2 := linkF_len (pre.map bkP).reverse
   simp [fB] at h1 h2
   omega
  have hlen3 := labs_len (rl.map Rl.p)
  rw [List.length_map] at hlen3
  generalize pre.map bkP = lp at *
  have HKp : Hid (keepB (kB lp) ⟨xf, xl, xt⟩ = match valT xt 24 with | some tg => decide (L tg ∈ labs (rl.map Rl.p)) | none => true) := Lib.hid (by
   show keepB (kB lp) ⟨xf, xl, xt⟩ = _
   unfold keepB
   cases h24 : valT xt 24 with
   | none => rfl
   | some tg => rw [← hrl]; exact labB_in _ tg)
  have hw1 := hvs 24
  have hts2 := hvs 23
  obtain ⟨o, ho⟩ : ∃ o, valT xt 24 = o := ⟨_, rfl⟩
  obtain ⟨o2, ho2⟩ : ∃ o2, valT xt 23 = o2 := ⟨_, rfl⟩
  have HO2 := Lib.hid ho2
  rw [ho] at HV1 HKp hw1
  rw [ho2] at HV2 hts2
  unfold ClonePost at HCl
  generalize hN : xt.length = N at HV1 HV2 HCl hz1 hz2 hq
  have HNx := Lib.hid hN
  have hqs := blk_lt' hq
  have HQ := Lib.hid hq
  have q0 : W.cell? ⟨q, 0, none⟩ = some (.string xf) := cellOf hq rfl
  have q1 : W.cell? ⟨q, 1, none⟩ = some (.int .i64 xl) := cellOf hq rfl
  have q2 : W.cell? ⟨q, 2, none⟩ = some (.slice (some ⟨ba, off, none⟩) N xc) := cellOf hq rfl
  have hS := Lib.hid hS
  have hrl := Lib.hid hrl
  have hfl := Lib.hid hfl
  clear ho ho2 hvs hN hrow hin hz3 hr hq
  cases o with
  | none =>
    rw [valOV_none] at HV1
    cases o2 with
    | none =>
      rw [valOV_none] at HV2
      gi_wp2_with (first
       | (refine ⟨trivial, ?_⟩; gi_at_call 29; with_reducible refine (CallsIn.inRound l (callsIn_wide.2 HV1.out)).mono ?_; rintro e w2 ⟨rfl, hb2⟩; have HS2 := Lib.hid (hS.out.go hb2); have HR2 := Lib.hid ((Rnd.refl w W).go hS.out.sz hb2); have hq2 : w2.heap[q]? = some _ := (hb2.block q hqs).trans HQ.out; have HQ2 := Lib.hid hq2; have q0b : w2.cell? ⟨q, 0, none⟩ = some (.string xf) := cellOf hq2 rfl; have q1b : w2.cell? ⟨q, 1, none⟩ = some (.int .i64 xl) := cellOf hq2 rfl; have q2b : w2.cell? ⟨q, 2, none⟩ = some (.slice (some ⟨ba, off, none⟩) N xc) := cellOf hq2 rfl; have b6b := HS2.out.b6; have HV2b := Lib.hid (HV2.out w2 HS2.out.st.low))
       | (refine ⟨trivial, ?_⟩; gi_at_call 29; with_reducible refine (CallsIn.inRound l (callsIn_wide.2 HV2b.out)).mono ?_; rintro e w3 ⟨rfl, hb3⟩; have HS3 := Lib.hid (HS2.out.go hb3); have HR3 := Lib.hid (HR2.out.go HS2.out.sz hb3); have hq3 : w3.heap[q]? = some _ := (hb3.block q (blk_lt' HQ2.out)).trans HQ2.out; have HQ3 := Lib.hid hq3; have q0c : w3.cell? ⟨q, 0, none⟩ = some (.string xf) := cellOf hq3 rfl; have q1c : w3.cell? ⟨q, 1, none⟩ = some (.int .i64 xl) := cellOf hq3 rfl; have q2c : w3.cell? ⟨q, 2, none⟩ = some (.slice (some ⟨ba, off, none⟩) N xc) := cellOf hq3 rfl; have b6c := HS3.out.b6; have HCl3 := Lib.hid (HCl.out w3 HS3.out.st.low))
       | (refine ⟨trivial, ?_⟩; gi_at_call 30; refine (CallsIn.inRound l (callsIn_wide.2 HCl3.out)).mono ?_; rintro e w5 ⟨A5, c5, rfl, hown5, hb5⟩; obtain ⟨g5, hA5, hg5, hl5⟩ : ∃ g5, A5 = some ⟨g5, 0, none⟩ ∧ w3.heap.size ≤ g5 ∧ g5 < w5.heap.size := (by obtain ⟨g, cap, hv, h1, h2⟩ := hown5.form (by omega); injection hv with hv; exact ⟨g, hv, h1, h2⟩); subst hA5; have HS5 := Lib.hid (HS3.out.go hb5); have HR5 := Lib.hid (HR3.out.go HS3.out.sz hb5); have hq5 : w5.heap[q]? = some _ := (hb5.block q (blk_lt' HQ3.out)).trans HQ3.out; have fq5 : w5.frozen? ⟨q, 2, none⟩ = false := frozen_of_row _ _ _ _ _ hq5; have q0e : w5.cell? ⟨q, 0, none⟩ = some (.string xf) := cellOf hq5 rfl; have q1e : w5.cell? ⟨q, 1, none⟩ = some (.int .i64 xl) := cellOf hq5 rfl; have q2e : w5.cell? ⟨q, 2, none⟩ = some (.slice (some ⟨ba, off, none⟩) N xc) := cellOf hq5 rfl; have HAp5 : Hid (Apart vr vf rl q) := Lib.hid (HS5.out.apartQ hq5 hba); have HG6 : Hid (w5.grownBy (w5.setCell ⟨q, 2, none⟩ (.slice (some ⟨g5, 0, none⟩) N c5)) (some q)) := Lib.hid (grown_set w5 q 2 _); have HS6 := Lib.hid (HS5.out.other HG6.out (fun r e => by obtain rfl := Option.some.inj e; exact ⟨hq0, HAp5.out⟩)); have HR6 := Lib.hid (HR5.out.step HS5.out.sz HG6.out (fun r e => by obtain rfl := Option.some.inj e; exact ⟨by omega, by omega, Or.inr ⟨_, hq5, rfl⟩⟩)); have hq6 : (w5.setCell ⟨q, 2, none⟩ (.slice (some ⟨g5, 0, none⟩) N c5)).heap[q]? = some (.cells #[.string xf, .int .i64 xl, .slice (some ⟨g5, 0, none⟩) N c5] 39 (0, 0)) := (by rw [heap_setCell_same _ _ _ _ _ _ hq5]; rfl); have q0f : (w5.setCell ⟨q, 2, none⟩ (.slice (some ⟨g5, 0, none⟩) N c5)).cell? ⟨q, 0, none⟩ = some (.string xf) := cellOf hq6 rfl; have q1f : (w5.setCell ⟨q, 2, none⟩ (.slice (some ⟨g5, 0, none⟩) N c5)).cell? ⟨q, 1, none⟩ = some (.int .i64 xl) := cellOf hq6 rfl; have q2f : (w5.setCell ⟨q, 2, none⟩ (.slice (some ⟨g5, 0, none⟩) N c5)).cell? ⟨q, 2, none⟩ = some (.slice (some ⟨g5, 0, none⟩) N c5) := cellOf hq6 rfl; have b4f := cellOf (j := 0) HS6.out.b4 rfl; have HRow5 : Hid (RowAt (w5.setCell ⟨q, 2, none⟩ (.slice (some ⟨g5, 0, none⟩) N c5)) (w5.setCell ⟨q, 2, none⟩ (.slice (some ⟨g5, 0, none⟩) N c5)).heap.size (some ⟨g5, 0, none⟩) 4 xt.length (cellsOf encTm xt)) := Lib.hid (by have h1 := RowAt.of_own hown5; rw [← HNx.out] at h1; exact (h1.other (Nat.le_refl _) HG6.out (fun r e a ea => by obtain rfl := Option.some.inj e; obtain rfl := Option.some.inj ea; intro e2; have := blk_lt' HQ3.out; dsimp only at e2; omega)).up HG6.out.size); have HFr5 : Hid (vr.ownBlock ≠ some g5 ∧ vf.ownBlock ≠ some g5) := Lib.hid ⟨fun e => by have := (HS3.out.st.r.lt _ e).2; omega, fun e => by have := (HS3.out.st.f.lt _ e).2; omega⟩; have hg55 : w.heap.size + 5 ≤ g5 := Nat.le_trans HS3.out.sz hg5; have hz6 := HS6.out.sz; clear hown5 hb5)
       | (gi_at_builtin; refine wpListIn_append_lies _ rfl _ _ _ (by rfl) w.heap.size 39 i0 _ 3 48 Tryz.underlying23 Hi0.out Hz0.out Hz1.out Hz2.out rfl (by omega) vr rl.length (cellsOf encRl rl) (by rfl) (own_below2 HS6.out.st.r (below_alloc _ _)) _ 1 1 [.string xf, .int .i64 xl, .slice (some ⟨g5, 0, none⟩) N c5] (by rfl) (by rfl) (by exact World.news_of_block (new_at (by simp))) (by simp [Value.oneCell']) (by omega) (by unfold maxLen; omega) (by omega) (by simp; omega) _ rfl ?_; intro g9 cap w9 hown9 hgrow9 hat9 hlt9; have HS9 := Lib.hid (HS6.out.pushR (y := ⟨xf, xl, ⟨some ⟨g5, 0, none⟩, c5, xt⟩⟩) (a := ⟨g5, 0, none⟩) (below_alloc _ _) HRow5.out (by have := HNx.out; dsimp only; omega) rfl hg55 HFr5.out (by rw [show encRl ⟨xf, xl, ⟨some ⟨g5, 0, none⟩, c5, xt⟩⟩ = [.string xf, .int .i64 xl, .slice (some ⟨g5, 0, none⟩) N c5] from by simp [encRl, HNx.out]]; exact hown9) hgrow9 hat9); have HR8 := Lib.hid (HR6.out.go hz6 (below_alloc _ (.cells #[.string xf, .int .i64 xl, .slice (some ⟨g5, 0, none⟩) N c5] 39))); have hb49 : w9.heap[w.heap.size]? = some (.cells #[vr] 23 (0, 0)) := (hgrow9.block w.heap.size (by simp; omega) (fun e => by have := HS6.out.fr _ e.symm; omega)).trans ((Below.heap_alloc _ _ _ (by omega)).trans HS6.out.b4); have HR9 := Lib.hid (((HR8.out.step (by simp; omega) hgrow9 (fun r e => ⟨by have := HS6.out.fr r e; omega, by have := HS6.out.fr r e; omega, Or.inr (own_obj (own_below2 HS6.out.st.r (below_alloc _ _)) e)⟩))).set (r := w.heap.size) (i := 0) (v := .slice (some ⟨g9, 0, none⟩) (rl.length + 1) cap) (by have := hgrow9.size; simp at this; omega) ⟨Nat.le_refl _, by omega, Or.inl (by omega)⟩); have cb49 := cellOf (j := 0) hb49 rfl; have fb49 : w9.frozen? ⟨w.heap.size, 0, none⟩ = false := frozen_of_row _ _ _ _ _ hb49; clear hown9 hgrow9 hat9 hlt9 hb49))
      refine ⟨by rw [hs0]; exact HR9.out.1, HR9.out.2, ?_⟩
      show LkI w (List.map bkP (pre ++ [_])) _
      rw [hpp]
      refine ⟨rl ++ [⟨xf, xl, ⟨some ⟨g5, 0, none⟩, c5, xt⟩⟩], .slice (some ⟨g9, 0, none⟩) (rl.length + 1) cap, fl, vf, ?_, by rw [List.map_append, (kfB_yes HKp.out).1, hrl.out]; rfl, by rw [(kfB_yes HKp.out).2]; exact hfl.out⟩
      rw [show labs ((rl ++ [(⟨xf, xl, ⟨some ⟨g5, 0, none⟩, c5, xt⟩⟩ : Rl)]).map Rl.p) = labs (rl.map Rl.p) from by rw [List.map_append]; exact (labs_snoc _ _).trans (by show labs (rl.map Rl.p) ++ ((valT xt 23).map L).toList = _; rw [HO2.out]; simp)]
      exact HS9.out
    | some lb =>
      rw [valOV_some] at HV2
      have hkey := WideMaps.keyOf_string_mk (P := Tryz.prog) Tryz.underlying9 (hts2 lb rfl)
      gi_wp2_with (first
       | (refine ⟨trivial, ?_⟩; gi_at_call 29; with_reducible refine (CallsIn.inRound l (callsIn_wide.2 HV1.out)).mono ?_; rintro e w2 ⟨rfl, hb2⟩; have HS2 := Lib.hid (hS.out.go hb2); have HR2 := Lib.hid ((Rnd.refl w W).go hS.out.sz hb2); have hq2 : w2.heap[q]? = some _ := (hb2.block q hqs).trans HQ.out; have HQ2 := Lib.hid hq2; have q0b : w2.cell? ⟨q, 0, none⟩ = some (.string xf) := cellOf hq2 rfl; have q1b : w2.cell? ⟨q, 1, none⟩ = some (.int .i64 xl) := cellOf hq2 rfl; have q2b : w2.cell? ⟨q, 2, none⟩ = some (.slice (some ⟨ba, off, none⟩) N xc) := cellOf hq2 rfl; have b6b := HS2.out.b6; have HV2b := Lib.hid (HV2.out w2 HS2.out.st.low))
       | (refine ⟨trivial, ?_⟩; gi_at_call 29; with_reducible refine (CallsIn.inRound l (callsIn_wide.2 HV2b.out)).mono ?_; rintro e w3 ⟨rfl, hb3⟩; have HS3 := Lib.hid (HS2.out.go hb3); have HR3 := Lib.hid (HR2.out.go HS2.out.sz hb3); have hq3 : w3.heap[q]? = some _ := (hb3.block q (blk_lt' HQ2.out)).trans HQ2.out; have HQ3 := Lib.hid hq3; have q0c : w3.cell? ⟨q, 0, none⟩ = some (.string xf) := cellOf hq3 rfl; have q1c : w3.cell? ⟨q, 1, none⟩ = some (.int .i64 xl) := cellOf hq3 rfl; have q2c : w3.cell? ⟨q, 2, none⟩ = some (.slice (some ⟨ba, off, none⟩) N xc) := cellOf hq3 rfl; have b6c := HS3.out.b6; have HCl3 := Lib.hid (HCl.out w3 HS3.out.st.low))
       | (gi_at_mapUpdate; refine wpListIn_mapUpdate_own _ rfl _ _ _ 60 rfl 9 4 keyedS Tryz.underlying60 _ (w.heap.size + 2) (labs (rl.map Rl.p)).length _ rfl HS3.out.mp (by unfold maxLen; omega) _ _ _ rfl rfl hkey _ [] (plainElem_bool Tryz.underlying4 true) ?_; intro w4 hown4 hg4; have HS4 := Lib.hid (HS3.out.label hown4 hg4); have HR4 := Lib.hid (HR3.out.step HS3.out.sz hg4 (fun r e => by cases e; exact ⟨by omega, by omega, Or.inl (by omega)⟩)); have hq4 : w4.heap[q]? = some _ := (hg4.block q (blk_lt' HQ3.out) (by intro e; have := Option.some.inj e; omega)).trans HQ3.out; have HQ4 := Lib.hid hq4; have q0d : w4.cell? ⟨q, 0, none⟩ = some (.string xf) := cellOf hq4 rfl; have q1d : w4.cell? ⟨q, 1, none⟩ = some (.int .i64 xl) := cellOf hq4 rfl; have q2d : w4.cell? ⟨q, 2, none⟩ = some (.slice (some ⟨ba, off, none⟩) N xc) := cellOf hq4 rfl; have HCl4 := Lib.hid (HCl.out w4 HS4.out.st.low))
       | (refine ⟨trivial, ?_⟩; gi_at_call 30; refine (CallsIn.inRound l (callsIn_wide.2 HCl4.out)).mono ?_; rintro e w5 ⟨A5, c5, rfl, hown5, hb5⟩; obtain ⟨g5, hA5, hg5, hl5⟩ : ∃ g5, A5 = some ⟨g5, 0, none⟩ ∧ w4.heap.size ≤ g5 ∧ g5 < w5.heap.size := (by obtain ⟨g, cap, hv, h1, h2⟩ := hown5.form (by omega); injection hv with hv; exact ⟨g, hv, h1, h2⟩); subst hA5; have HS5 := Lib.hid (HS4.out.go hb5); have HR5 := Lib.hid (HR4.out.go HS4.out.sz hb5); have hq5 : w5.heap[q]? = some _ := (hb5.block q (blk_lt' HQ4.out)).trans HQ4.out; have fq5 : w5.frozen? ⟨q, 2, none⟩ = false := frozen_of_row _ _ _ _ _ hq5; have q0e : w5.cell? ⟨q, 0, none⟩ = some (.string xf) := cellOf hq5 rfl; have q1e : w5.cell? ⟨q, 1, none⟩ = some (.int .i64 xl) := cellOf hq5 rfl; have q2e : w5.cell? ⟨q, 2, none⟩ = some (.slice (some ⟨ba, off, none⟩) N xc) := cellOf hq5 rfl; have HAp5 : Hid (Apart vr vf rl q) := Lib.hid (HS5.out.apartQ hq5 hba); have HG6 : Hid (w5.grownBy (w5.setCell ⟨q, 2, none⟩ (.slice (some ⟨g5, 0, none⟩) N c5)) (some q)) := Lib.hid (grown_set w5 q 2 _); have HS6 := Lib.hid (HS5.out.other HG6.out (fun r e => by obtain rfl := Option.some.inj e; exact ⟨hq0, HAp5.out⟩)); have HR6 := Lib.hid (HR5.out.step HS5.out.sz HG6.out (fun r e => by obtain rfl := Option.some.inj e; exact ⟨by omega, by omega, Or.inr ⟨_, hq5, rfl⟩⟩)); have hq6 : (w5.setCell ⟨q, 2, none⟩ (.slice (some ⟨g5, 0, none⟩) N c5)).heap[q]? = some (.cells #[.string xf, .int .i64 xl, .slice (some ⟨g5, 0, none⟩) N c5] 39 (0, 0)) := (by rw [heap_setCell_same _ _ _ _ _ _ hq5]; rfl); have q0f : (w5.setCell ⟨q, 2, none⟩ (.slice (some ⟨g5, 0, none⟩) N c5)).cell? ⟨q, 0, none⟩ = some (.string xf) := cellOf hq6 rfl; have q1f : (w5.setCell ⟨q, 2, none⟩ (.slice (some ⟨g5, 0, none⟩) N c5)).cell? ⟨q, 1, none⟩ = some (.int .i64 xl) := cellOf hq6 rfl; have q2f : (w5.setCell ⟨q, 2, none⟩ (.slice (some ⟨g5, 0, none⟩) N c5)).cell? ⟨q, 2, none⟩ = some (.slice (some ⟨g5, 0, none⟩) N c5) := cellOf hq6 rfl; have b4f := cellOf (j := 0) HS6.out.b4 rfl; have HRow5 : Hid (RowAt (w5.setCell ⟨q, 2, none⟩ (.slice (some ⟨g5, 0, none⟩) N c5)) (w5.setCell ⟨q, 2, none⟩ (.slice (some ⟨g5, 0, none⟩) N c5)).heap.size (some ⟨g5, 0, none⟩) 4 xt.length (cellsOf encTm xt)) := Lib.hid (by have h1 := RowAt.of_own hown5; rw [← HNx.out] at h1; exact (h1.other (Nat.le_refl _) HG6.out (fun r e a ea => by obtain rfl := Option.some.inj e; obtain rfl := Option.some.inj ea; intro e2; have := blk_lt' HQ4.out; dsimp only at e2; omega)).up HG6.out.size); have HFr5 : Hid (vr.ownBlock ≠ some g5 ∧ vf.ownBlock ≠ some g5) := Lib.hid ⟨fun e => by have := (HS4.out.st.r.lt _ e).2; omega, fun e => by have := (HS4.out.st.f.lt _ e).2; omega⟩; have hg55 : w.heap.size + 5 ≤ g5 := Nat.le_trans HS4.out.sz hg5; have hz6 := HS6.out.sz; clear hown5 hb5)
       | (gi_at_builtin; refine wpListIn_append_lies _ rfl _ _ _ (by rfl) w.heap.size 39 i0 _ 3 48 Tryz.underlying23 Hi0.out Hz0.out Hz1.out Hz2.out rfl (by omega) vr rl.length (cellsOf encRl rl) (by rfl) (own_below2 HS6.out.st.r (below_alloc _ _)) _ 1 1 [.string xf, .int .i64 xl, .slice (some ⟨g5, 0, none⟩) N c5] (by rfl) (by rfl) (by exact World.news_of_block (new_at (by simp))) (by simp [Value.oneCell']) (by omega) (by unfold maxLen; omega) (by omega) (by simp; omega) _ rfl ?_; intro g9 cap w9 hown9 hgrow9 hat9 hlt9; have HS9 := Lib.hid (HS6.out.pushR (y := ⟨xf, xl, ⟨some ⟨g5, 0, none⟩, c5, xt⟩⟩) (a := ⟨g5, 0, none⟩) (below_alloc _ _) HRow5.out (by have := HNx.out; dsimp only; omega) rfl hg55 HFr5.out (by rw [show encRl ⟨xf, xl, ⟨some ⟨g5, 0, none⟩, c5, xt⟩⟩ = [.string xf, .int .i64 xl, .slice (some ⟨g5, 0, none⟩) N c5] from by simp [encRl, HNx.out]]; exact hown9) hgrow9 hat9); have HR8 := Lib.hid (HR6.out.go hz6 (below_alloc _ (.cells #[.string xf, .int .i64 xl, .slice (some ⟨g5, 0, none⟩) N c5] 39))); have hb49 : w9.heap[w.heap.size]? = some (.cells #[vr] 23 (0, 0)) := (hgrow9.block w.heap.size (by simp; omega) (fun e => by have := HS6.out.fr _ e.symm; omega)).trans ((Below.heap_alloc _ _ _ (by omega)).trans HS6.out.b4); have HR9 := Lib.hid (((HR8.out.step (by simp; omega) hgrow9 (fun r e => ⟨by have := HS6.out.fr r e; omega, by have := HS6.out.fr r e; omega, Or.inr (own_obj (own_below2 HS6.out.st.r (below_alloc _ _)) e)⟩))).set (r := w.heap.size) (i := 0) (v := .slice (some ⟨g9, 0, none⟩) (rl.length + 1) cap) (by have := hgrow9.size; simp at this; omega) ⟨Nat.le_refl _, by omega, Or.inl (by omega)⟩); have cb49 := cellOf (j := 0) hb49 rfl; have fb49 : w9.frozen? ⟨w.heap.size, 0, none⟩ = false := frozen_of_row _ _ _ _ _ hb49; clear hown9 hgrow9 hat9 hlt9 hb49))
      refine ⟨by rw [hs0]; exact HR9.out.1, HR9.out.2, ?_⟩
      show LkI w (List.map bkP (pre ++ [_])) _
      rw [hpp]
      refine ⟨rl ++ [⟨xf, xl, ⟨some ⟨g5, 0, none⟩, c5, xt⟩⟩], .slice (some ⟨g9, 0, none⟩) (rl.length + 1) cap, fl, vf, ?_, by rw [List.map_append, (kfB_yes HKp.out).1, hrl.out]; rfl, by rw [(kfB_yes HKp.out).2]; exact hfl.out⟩
      rw [show labs ((rl ++ [(⟨xf, xl, ⟨some ⟨g5, 0, none⟩, c5, xt⟩⟩ : Rl)]).map Rl.p) = labs (rl.map Rl.p) ++ [L lb] from by rw [List.map_append]; exact (labs_snoc _ _).trans (by show labs (rl.map Rl.p) ++ ((valT xt 23).map L).toList = _; rw [HO2.out]; simp)]
      exact HS9.out
  | some tg =>
    rw [valOV_some] at HV1
    have hts := hw1 tg rfl
    cases hdec : decide (L tg ∈ labs (rl.map Rl.p)) with
    | false =>
      dsimp only at HKp
      rw [hdec] at HKp
      gi_wp2_with (first
       | (refine ⟨trivial, ?_⟩; gi_at_call 29; with_reducible refine (CallsIn.inRound l (callsIn_wide.2 HV1.out)).mono ?_; rintro e w2 ⟨rfl, hb2⟩; have HS2 := Lib.hid (hS.out.go hb2); have HR2 := Lib.hid ((Rnd.refl w W).go hS.out.sz hb2); have hq2 : w2.heap[q]? = some _ := (hb2.block q hqs).trans HQ.out; have HQ2 := Lib.hid hq2; have q0b : w2.cell? ⟨q, 0, none⟩ = some (.string xf) := cellOf hq2 rfl; have q1b : w2.cell? ⟨q, 1, none⟩ = some (.int .i64 xl) := cellOf hq2 rfl; have q2b : w2.cell? ⟨q, 2, none⟩ = some (.slice (some ⟨ba, off, none⟩) N xc) := cellOf hq2 rfl; have b6b := HS2.out.b6; have HV2b := Lib.hid (HV2.out w2 HS2.out.st.low); have hlk := look_set HS2.out.mp tg hts; rw [hdec] at hlk; have b5b := cellOf (j := 0) HS2.out.b5 rfl; have hz2 := HS2.out.sz)
       | (gi_at_builtin; refine wpListIn_append_lies _ rfl _ _ _ (by rfl) w.heap.size 55 j0 _ 3 32 Tryz.underlying28 Hj0.out Hy0.out Hy1.out Hy2.out rfl (by omega) vf fl.length (cellsOf encFl fl) (by rfl) (own_below2 HS2.out.st.f (below_alloc _ _)) _ 1 1 (encFl (⟨xf, xl, 107⟩ : Fl)) (by rfl) (by rfl) (by exact World.news_of_block (new_at (by simp))) (encFl_one _) (by omega) (by unfold maxLen; omega) (by omega) (by simp; omega) _ rfl ?_; intro g9 cap w9 hown9 hgrow9 hat9 hlt9; have HS9 := Lib.hid (HS2.out.pushF (y := ⟨xf, xl, 107⟩) (below_alloc _ _) hown9 hgrow9 hat9); have HR8 := Lib.hid (HR2.out.go hz2 (below_alloc _ (.cells #[.string xf, .int .i64 xl, .int .i64 107] 55))); have hb59 : w9.heap[w.heap.size + 1]? = some (.cells #[vf] 28 (0, 0)) := (hgrow9.block (w.heap.size + 1) (by simp; omega) (fun e => by have := HS2.out.ff _ e.symm; omega)).trans ((Below.heap_alloc _ _ _ (by omega)).trans HS2.out.b5); have HR9 := Lib.hid (((HR8.out.step (by simp; omega) hgrow9 (fun r e => ⟨by have := HS2.out.ff r e; omega, by have := HS2.out.ff r e; omega, Or.inr (own_obj (own_below2 HS2.out.st.f (below_alloc _ _)) e)⟩))).set (r := w.heap.size + 1) (i := 0) (v := .slice (some ⟨g9, 0, none⟩) (fl.length + 1) cap) (by have := hgrow9.size; simp at this; omega) ⟨by omega, by omega, Or.inl (by omega)⟩); have cb59 := cellOf (j := 0) hb59 rfl; have fb59 : w9.frozen? ⟨w.heap.size + 1, 0, none⟩ = false := frozen_of_row _ _ _ _ _ hb59; clear hown9 hgrow9 hat9 hlt9 hb59))
      try rw [← hfl.out]
      refine ⟨by rw [hs0]; exact HR9.out.1, HR9.out.2, ?_⟩
      show LkI w (List.map bkP (pre ++ [_])) _
      rw [hpp]
      exact ⟨rl, vr, fl ++ [⟨xf, xl, 107⟩], _, HS9.out, by rw [(kfB_no HKp.out).1]; exact hrl.out, by rw [(kfB_no HKp.out).2, hfl.out]⟩
    | true =>
      dsimp only at HKp
      rw [hdec] at HKp
      cases o2 with
      | none =>
        rw [valOV_none] at HV2
        gi_wp2_with (first
         | (refine ⟨trivial, ?_⟩; gi_at_call 29; with_reducible refine (CallsIn.inRound l (callsIn_wide.2 HV1.out)).mono ?_; rintro e w2 ⟨rfl, hb2⟩; have HS2 := Lib.hid (hS.out.go hb2); have HR2 := Lib.hid ((Rnd.refl w W).go hS.out.sz hb2); have hq2 : w2.heap[q]? = some _ := (hb2.block q hqs).trans HQ.out; have HQ2 := Lib.hid hq2; have q0b : w2.cell? ⟨q, 0, none⟩ = some (.string xf) := cellOf hq2 rfl; have q1b : w2.cell? ⟨q, 1, none⟩ = some (.int .i64 xl) := cellOf hq2 rfl; have q2b : w2.cell? ⟨q, 2, none⟩ = some (.slice (some ⟨ba, off, none⟩) N xc) := cellOf hq2 rfl; have b6b := HS2.out.b6; have HV2b := Lib.hid (HV2.out w2 HS2.out.st.low); have hlk := look_set HS2.out.mp tg hts; rw [hdec] at hlk)
         | (refine ⟨trivial, ?_⟩; gi_at_call 29; with_reducible refine (CallsIn.inRound l (callsIn_wide.2 HV2b.out)).mono ?_; rintro e w3 ⟨rfl, hb3⟩; have HS3 := Lib.hid (HS2.out.go hb3); have HR3 := Lib.hid (HR2.out.go HS2.out.sz hb3); have hq3 : w3.heap[q]? = some _ := (hb3.block q (blk_lt' HQ2.out)).trans HQ2.out; have HQ3 := Lib.hid hq3; have q0c : w3.cell? ⟨q, 0, none⟩ = some (.string xf) := cellOf hq3 rfl; have q1c : w3.cell? ⟨q, 1, none⟩ = some (.int .i64 xl) := cellOf hq3 rfl; have q2c : w3.cell? ⟨q, 2, none⟩ = some (.slice (some ⟨ba, off, none⟩) N xc) := cellOf hq3 rfl; have b6c := HS3.out.b6; have HCl3 := Lib.hid (HCl.out w3 HS3.out.st.low))
         | (refine ⟨trivial, ?_⟩; gi_at_call 30; refine (CallsIn.inRound l (callsIn_wide.2 HCl3.out)).mono ?_; rintro e w5 ⟨A5, c5, rfl, hown5, hb5⟩; obtain ⟨g5, hA5, hg5, hl5⟩ : ∃ g5, A5 = some ⟨g5, 0, none⟩ ∧ w3.heap.size ≤ g5 ∧ g5 < w5.heap.size := (by obtain ⟨g, cap, hv, h1, h2⟩ := hown5.form (by omega); injection hv with hv; exact ⟨g, hv, h1, h2⟩); subst hA5; have HS5 := Lib.hid (HS3.out.go hb5); have HR5 := Lib.hid (HR3.out.go HS3.out.sz hb5); have hq5 : w5.heap[q]? = some _ := (hb5.block q (blk_lt' HQ3.out)).trans HQ3.out; have fq5 : w5.frozen? ⟨q, 2, none⟩ = false := frozen_of_row _ _ _ _ _ hq5; have q0e : w5.cell? ⟨q, 0, none⟩ = some (.string xf) := cellOf hq5 rfl; have q1e : w5.cell? ⟨q, 1, none⟩ = some (.int .i64 xl) := cellOf hq5 rfl; have q2e : w5.cell? ⟨q, 2, none⟩ = some (.slice (some ⟨ba, off, none⟩) N xc) := cellOf hq5 rfl; have HAp5 : Hid (Apart vr vf rl q) := Lib.hid (HS5.out.apartQ hq5 hba); have HG6 : Hid (w5.grownBy (w5.setCell ⟨q, 2, none⟩ (.slice (some ⟨g5, 0, none⟩) N c5)) (some q)) := Lib.hid (grown_set w5 q 2 _); have HS6 := Lib.hid (HS5.out.other HG6.out (fun r e => by obtain rfl := Option.some.inj e; exact ⟨hq0, HAp5.out⟩)); have HR6 := Lib.hid (HR5.out.step HS5.out.sz HG6.out (fun r e => by obtain rfl := Option.some.inj e; exact ⟨by omega, by omega, Or.inr ⟨_, hq5, rfl⟩⟩)); have hq6 : (w5.setCell ⟨q, 2, none⟩ (.slice (some ⟨g5, 0, none⟩) N c5)).heap[q]? = some (.cells #[.string xf, .int .i64 xl, .slice (some ⟨g5, 0, none⟩) N c5] 39 (0, 0)) := (by rw [heap_setCell_same _ _ _ _ _ _ hq5]; rfl); have q0f : (w5.setCell ⟨q, 2, none⟩ (.slice (some ⟨g5, 0, none⟩) N c5)).cell? ⟨q, 0, none⟩ = some (.string xf) := cellOf hq6 rfl; have q1f : (w5.setCell ⟨q, 2, none⟩ (.slice (some ⟨g5, 0, none⟩) N c5)).cell? ⟨q, 1, none⟩ = some (.int .i64 xl) := cellOf hq6 rfl; have q2f : (w5.setCell ⟨q, 2, none⟩ (.slice (some ⟨g5, 0, none⟩) N c5)).cell? ⟨q, 2, none⟩ = some (.slice (some ⟨g5, 0, none⟩) N c5) := cellOf hq6 rfl; have b4f := cellOf (j := 0) HS6.out.b4 rfl; have HRow5 : Hid (RowAt (w5.setCell ⟨q, 2, none⟩ (.slice (some ⟨g5, 0, none⟩) N c5)) (w5.setCell ⟨q, 2, none⟩ (.slice (some ⟨g5, 0, none⟩) N c5)).heap.size (some ⟨g5, 0, none⟩) 4 xt.length (cellsOf encTm xt)) := Lib.hid (by have h1 := RowAt.of_own hown5; rw [← HNx.out] at h1; exact (h1.other (Nat.le_refl _) HG6.out (fun r e a ea => by obtain rfl := Option.some.inj e; obtain rfl := Option.some.inj ea; intro e2; have := blk_lt' HQ3.out; dsimp only at e2; omega)).up HG6.out.size); have HFr5 : Hid (vr.ownBlock ≠ some g5 ∧ vf.ownBlock ≠ some g5) := Lib.hid ⟨fun e => by have := (HS3.out.st.r.lt _ e).2; omega, fun e => by have := (HS3.out.st.f.lt _ e).2; omega⟩; have hg55 : w.heap.size + 5 ≤ g5 := Nat.le_trans HS3.out.sz hg5; have hz6 := HS6.out.sz; clear hown5 hb5)
         | (gi_at_builtin; refine wpListIn_append_lies _ rfl _ _ _ (by rfl) w.heap.size 39 i0 _ 3 48 Tryz.underlying23 Hi0.out Hz0.out Hz1.out Hz2.out rfl (by omega) vr rl.length (cellsOf encRl rl) (by rfl) (own_below2 HS6.out.st.r (below_alloc _ _)) _ 1 1 [.string xf, .int .i64 xl, .slice (some ⟨g5, 0, none⟩) N c5] (by rfl) (by rfl) (by exact World.news_of_block (new_at (by simp))) (by simp [Value.oneCell']) (by omega) (by unfold maxLen; omega) (by omega) (by simp; omega) _ rfl ?_; intro g9 cap w9 hown9 hgrow9 hat9 hlt9; have HS9 := Lib.hid (HS6.out.pushR (y := ⟨xf, xl, ⟨some ⟨g5, 0, none⟩, c5, xt⟩⟩) (a := ⟨g5, 0, none⟩) (below_alloc _ _) HRow5.out (by have := HNx.out; dsimp only; omega) rfl hg55 HFr5.out (by rw [show encRl ⟨xf, xl, ⟨some ⟨g5, 0, none⟩, c5, xt⟩⟩ = [.string xf, .int .i64 xl, .slice (some ⟨g5, 0, none⟩) N c5] from by simp [encRl, HNx.out]]; exact hown9) hgrow9 hat9); have HR8 := Lib.hid (HR6.out.go hz6 (below_alloc _ (.cells #[.string xf, .int .i64 xl, .slice (some ⟨g5, 0, none⟩) N c5] 39))); have hb49 : w9.heap[w.heap.size]? = some (.cells #[vr] 23 (0, 0)) := (hgrow9.block w.heap.size (by simp; omega) (fun e => by have := HS6.out.fr _ e.symm; omega)).trans ((Below.heap_alloc _ _ _ (by omega)).trans HS6.out.b4); have HR9 := Lib.hid (((HR8.out.step (by simp; omega) hgrow9 (fun r e => ⟨by have := HS6.out.fr r e; omega, by have := HS6.out.fr r e; omega, Or.inr (own_obj (own_below2 HS6.out.st.r (below_alloc _ _)) e)⟩))).set (r := w.heap.size) (i := 0) (v := .slice (some ⟨g9, 0, none⟩) (rl.length + 1) cap) (by have := hgrow9.size; simp at this; omega) ⟨Nat.le_refl _, by omega, Or.inl (by omega)⟩); have cb49 := cellOf (j := 0) hb49 rfl; have fb49 : w9.frozen? ⟨w.heap.size, 0, none⟩ = false := frozen_of_row _ _ _ _ _ hb49; clear hown9 hgrow9 hat9 hlt9 hb49))
        refine ⟨by rw [hs0]; exact HR9.out.1, HR9.out.2, ?_⟩
        show LkI w (List.map bkP (pre ++ [_])) _
        rw [hpp]
        refine ⟨rl ++ [⟨xf, xl, ⟨some ⟨g5, 0, none⟩, c5, xt⟩⟩], .slice (some ⟨g9, 0, none⟩) (rl.length + 1) cap, fl, vf, ?_, by rw [List.map_append, (kfB_yes HKp.out).1, hrl.out]; rfl, by rw [(kfB_yes HKp.out).2]; exact hfl.out⟩
        rw [show labs ((rl ++ [(⟨xf, xl, ⟨some ⟨g5, 0, none⟩, c5, xt⟩⟩ : Rl)]).map Rl.p) = labs (rl.map Rl.p) from by rw [List.map_append]; exact (labs_snoc _ _).trans (by show labs (rl.map Rl.p) ++ ((valT xt 23).map L).toList = _; rw [HO2.out]; simp)]
        exact HS9.out
      | some lb =>
        rw [valOV_some] at HV2
        have hkey := WideMaps.keyOf_string_mk (P := Tryz.prog) Tryz.underlying9 (hts2 lb rfl)
        gi_wp2_with (first
         | (refine ⟨trivial, ?_⟩; gi_at_call 29; with_reducible refine (CallsIn.inRound l (callsIn_wide.2 HV1.out)).mono ?_; rintro e w2 ⟨rfl, hb2⟩; have HS2 := Lib.hid (hS.out.go hb2); have HR2 := Lib.hid ((Rnd.refl w W).go hS.out.sz hb2); have hq2 : w2.heap[q]? = some _ := (hb2.block q hqs).trans HQ.out; have HQ2 := Lib.hid hq2; have q0b : w2.cell? ⟨q, 0, none⟩ = some (.string xf) := cellOf hq2 rfl; have q1b : w2.cell? ⟨q, 1, none⟩ = some (.int .i64 xl) := cellOf hq2 rfl; have q2b : w2.cell? ⟨q, 2, none⟩ = some (.slice (some ⟨ba, off, none⟩) N xc) := cellOf hq2 rfl; have b6b := HS2.out.b6; have HV2b := Lib.hid (HV2.out w2 HS2.out.st.low); have hlk := look_set HS2.out.mp tg hts; rw [hdec] at hlk)
         | (refine ⟨trivial, ?_⟩; gi_at_call 29; with_reducible refine (CallsIn.inRound l (callsIn_wide.2 HV2b.out)).mono ?_; rintro e w3 ⟨rfl, hb3⟩; have HS3 := Lib.hid (HS2.out.go hb3); have HR3 := Lib.hid (HR2.out.go HS2.out.sz hb3); have hq3 : w3.heap[q]? = some _ := (hb3.block q (blk_lt' HQ2.out)).trans HQ2.out; have HQ3 := Lib.hid hq3; have q0c : w3.cell? ⟨q, 0, none⟩ = some (.string xf) := cellOf hq3 rfl; have q1c : w3.cell? ⟨q, 1, none⟩ = some (.int .i64 xl) := cellOf hq3 rfl; have q2c : w3.cell? ⟨q, 2, none⟩ = some (.slice (some ⟨ba, off, none⟩) N xc) := cellOf hq3 rfl; have b6c := HS3.out.b6; have HCl3 := Lib.hid (HCl.out w3 HS3.out.st.low))
         | (gi_at_mapUpdate; refine wpListIn_mapUpdate_own _ rfl _ _ _ 60 rfl 9 4 keyedS Tryz.underlying60 _ (w.heap.size + 2) (labs (rl.map Rl.p)).length _ rfl HS3.out.mp (by unfold maxLen; omega) _ _ _ rfl rfl hkey _ [] (plainElem_bool Tryz.underlying4 true) ?_; intro w4 hown4 hg4; have HS4 := Lib.hid (HS3.out.label hown4 hg4); have HR4 := Lib.hid (HR3.out.step HS3.out.sz hg4 (fun r e => by cases e; exact ⟨by omega, by omega, Or.inl (by omega)⟩)); have hq4 : w4.heap[q]? = some _ := (hg4.block q (blk_lt' HQ3.out) (by intro e; have := Option.some.inj e; omega)).trans HQ3.out; have HQ4 := Lib.hid hq4; have q0d : w4.cell? ⟨q, 0, none⟩ = some (.string xf) := cellOf hq4 rfl; have q1d : w4.cell? ⟨q, 1, none⟩ = some (.int .i64 xl) := cellOf hq4 rfl; have q2d : w4.cell? ⟨q, 2, none⟩ = some (.slice (some ⟨ba, off, none⟩) N xc) := cellOf hq4 rfl; have HCl4 := Lib.hid (HCl.out w4 HS4.out.st.low))
         | (refine ⟨trivial, ?_⟩; gi_at_call 30; refine (CallsIn.inRound l (callsIn_wide.2 HCl4.out)).mono ?_; rintro e w5 ⟨A5, c5, rfl, hown5, hb5⟩; obtain ⟨g5, hA5, hg5, hl5⟩ : ∃ g5, A5 = some ⟨g5, 0, none⟩ ∧ w4.heap.size ≤ g5 ∧ g5 < w5.heap.size := (by obtain ⟨g, cap, hv, h1, h2⟩ := hown5.form (by omega); injection hv with hv; exact ⟨g, hv, h1, h2⟩); subst hA5; have HS5 := Lib.hid (HS4.out.go hb5); have HR5 := Lib.hid (HR4.out.go HS4.out.sz hb5); have hq5 : w5.heap[q]? = some _ := (hb5.block q (blk_lt' HQ4.out)).trans HQ4.out; have fq5 : w5.frozen? ⟨q, 2, none⟩ = false := frozen_of_row _ _ _ _ _ hq5; have q0e : w5.cell? ⟨q, 0, none⟩ = some (.string xf) := cellOf hq5 rfl; have q1e : w5.cell? ⟨q, 1, none⟩ = some (.int .i64 xl) := cellOf hq5 rfl; have q2e : w5.cell? ⟨q, 2, none⟩ = some (.slice (some ⟨ba, off, none⟩) N xc) := cellOf hq5 rfl; have HAp5 : Hid (Apart vr vf rl q) := Lib.hid (HS5.out.apartQ hq5 hba); have HG6 : Hid (w5.grownBy (w5.setCell ⟨q, 2, none⟩ (.slice (some ⟨g5, 0, none⟩) N c5)) (some q)) := Lib.hid (grown_set w5 q 2 _); have HS6 := Lib.hid (HS5.out.other HG6.out (fun r e => by obtain rfl := Option.some.inj e; exact ⟨hq0, HAp5.out⟩)); have HR6 := Lib.hid (HR5.out.step HS5.out.sz HG6.out (fun r e => by obtain rfl := Option.some.inj e; exact ⟨by omega, by omega, Or.inr ⟨_, hq5, rfl⟩⟩)); have hq6 : (w5.setCell ⟨q, 2, none⟩ (.slice (some ⟨g5, 0, none⟩) N c5)).heap[q]? = some (.cells #[.string xf, .int .i64 xl, .slice (some ⟨g5, 0, none⟩) N c5] 39 (0, 0)) := (by rw [heap_setCell_same _ _ _ _ _ _ hq5]; rfl); have q0f : (w5.setCell ⟨q, 2, none⟩ (.slice (some ⟨g5, 0, none⟩) N c5)).cell? ⟨q, 0, none⟩ = some (.string xf) := cellOf hq6 rfl; have q1f : (w5.setCell ⟨q, 2, none⟩ (.slice (some ⟨g5, 0, none⟩) N c5)).cell? ⟨q, 1, none⟩ = some (.int .i64 xl) := cellOf hq6 rfl; have q2f : (w5.setCell ⟨q, 2, none⟩ (.slice (some ⟨g5, 0, none⟩) N c5)).cell? ⟨q, 2, none⟩ = some (.slice (some ⟨g5, 0, none⟩) N c5) := cellOf hq6 rfl; have b4f := cellOf (j := 0) HS6.out.b4 rfl; have HRow5 : Hid (RowAt (w5.setCell ⟨q, 2, none⟩ (.slice (some ⟨g5, 0, none⟩) N c5)) (w5.setCell ⟨q, 2, none⟩ (.slice (some ⟨g5, 0, none⟩) N c5)).heap.size (some ⟨g5, 0, none⟩) 4 xt.length (cellsOf encTm xt)) := Lib.hid (by have h1 := RowAt.of_own hown5; rw [← HNx.out] at h1; exact (h1.other (Nat.le_refl _) HG6.out (fun r e a ea => by obtain rfl := Option.some.inj e; obtain rfl := Option.some.inj ea; intro e2; have := blk_lt' HQ4.out; dsimp only at e2; omega)).up HG6.out.size); have HFr5 : Hid (vr.ownBlock ≠ some g5 ∧ vf.ownBlock ≠ some g5) := Lib.hid ⟨fun e => by have := (HS4.out.st.r.lt _ e).2; omega, fun e => by have := (HS4.out.st.f.lt _ e).2; omega⟩; have hg55 : w.heap.size + 5 ≤ g5 := Nat.le_trans HS4.out.sz hg5; have hz6 := HS6.out.sz; clear hown5 hb5)
         | (gi_at_builtin; refine wpListIn_append_lies _ rfl _ _ _ (by rfl) w.heap.size 39 i0 _ 3 48 Tryz.underlying23 Hi0.out Hz0.out Hz1.out Hz2.out rfl (by omega) vr rl.length (cellsOf encRl rl) (by rfl) (own_below2 HS6.out.st.r (below_alloc _ _)) _ 1 1 [.string xf, .int .i64 xl, .slice (some ⟨g5, 0, none⟩) N c5] (by rfl) (by rfl) (by exact World.news_of_block (new_at (by simp))) (by simp [Value.oneCell']) (by omega) (by unfold maxLen; omega) (by omega) (by simp; omega) _ rfl ?_; intro g9 cap w9 hown9 hgrow9 hat9 hlt9; have HS9 := Lib.hid (HS6.out.pushR (y := ⟨xf, xl, ⟨some ⟨g5, 0, none⟩, c5, xt⟩⟩) (a := ⟨g5, 0, none⟩) (below_alloc _ _) HRow5.out (by have := HNx.out; dsimp only; omega) rfl hg55 HFr5.out (by rw [show encRl ⟨xf, xl, ⟨some ⟨g5, 0, none⟩, c5, xt⟩⟩ = [.string xf, .int .i64 xl, .slice (some ⟨g5, 0, none⟩) N c5] from by simp [encRl, HNx.out]]; exact hown9) hgrow9 hat9); have HR8 := Lib.hid (HR6.out.go hz6 (below_alloc _ (.cells #[.string xf, .int .i64 xl, .slice (some ⟨g5, 0, none⟩) N c5] 39))); have hb49 : w9.heap[w.heap.size]? = some (.cells #[vr] 23 (0, 0)) := (hgrow9.block w.heap.size (by simp; omega) (fun e => by have := HS6.out.fr _ e.symm; omega)).trans ((Below.heap_alloc _ _ _ (by omega)).trans HS6.out.b4); have HR9 := Lib.hid (((HR8.out.step (by simp; omega) hgrow9 (fun r e => ⟨by have := HS6.out.fr r e; omega, by have := HS6.out.fr r e; omega, Or.inr (own_obj (own_below2 HS6.out.st.r (below_alloc _ _)) e)⟩))).set (r := w.heap.size) (i := 0) (v := .slice (some ⟨g9, 0, none⟩) (rl.length + 1) cap) (by have := hgrow9.size; simp at this; omega) ⟨Nat.le_refl _, by omega, Or.inl (by omega)⟩); have cb49 := cellOf (j := 0) hb49 rfl; have fb49 : w9.frozen? ⟨w.heap.size, 0, none⟩ = false := frozen_of_row _ _ _ _ _ hb49; clear hown9 hgrow9 hat9 hlt9 hb49))
        refine ⟨by rw [hs0]; exact HR9.out.1, HR9.out.2, ?_⟩
        show LkI w (List.map bkP (pre ++ [_])) _
        rw [hpp]
        refine ⟨rl ++ [⟨xf, xl, ⟨some ⟨g5, 0, none⟩, c5, xt⟩⟩], .slice (some ⟨g9, 0, none⟩) (rl.length + 1) cap, fl, vf, ?_, by rw [List.map_append, (kfB_yes HKp.out).1, hrl.out]; rfl, by rw [(kfB_yes HKp.out).2]; exact hfl.out⟩
        rw [show labs ((rl ++ [(⟨xf, xl, ⟨some ⟨g5, 0, none⟩, c5, xt⟩⟩ : Rl)]).map Rl.p) = labs (rl.map Rl.p) ++ [L lb] from by rw [List.map_append]; exact (labs_snoc _ _).trans (by show labs (rl.map Rl.p) ++ ((valT xt 23).map L).toList = _; rw [HO2.out]; simp)]
        exact HS9.out
 case done =>
  rintro D zs W hD rfl ⟨rl, vr, fl, vf, hS, hrl, hfl⟩ hK
  have HRl : Hid (rl.reverse.map Rl.p = (linkF (ds.map Rl.p)).1) := Lib.hid (by rw [List.map_reverse, hrl]; unfold kB; rw [HYm.out, List.reverse_reverse])
  have HFl : Hid (fl.reverse = (linkF (ds.map Rl.p)).2) := Lib.hid (by rw [hfl]; unfold fB; rw [HYm.out, List.reverse_reverse])
  have hll := linkF_len (ds.map Rl.p)
  have hl1 : rl.length ≤ ds.length := by
   have h1 : (rl.reverse.map Rl.p).length = (linkF (ds.map Rl.p)).1.length := by rw [HRl.out]
   rw [List.length_map, List.length_reverse] at h1
   rw [List.length_map] at hll
   omega
  have hl2 : fl.length ≤ ds.length := by
   have h1 : fl.reverse.length = (linkF (ds.map Rl.p)).2.length := by rw [HFl.out]
   rw [List.length_reverse] at h1
   rw [List.length_map] at hll
   omega
  have hyl2 : ds.length ≤ 1000 := by have h1 := congrArg List.length HYm.out; rw [List.length_reverse, List.length_map, List.length_map] at h1; omega
  obtain ⟨Ar, cr, rfl⟩ := own_slice hS.st.r
  obtain ⟨Af, cf, rfl⟩ := own_slice hS.st.f
  have hz5 := hS.sz
  have hAD := hS.apartN hK rfl
  have hDl := (Array.getElem?_eq_some_iff.1 hK).1
  have c4 : W.cell? ⟨w.heap.size, 0, none⟩ = some (.slice Ar rl.length cr) := cellOf hS.b4 rfl
  have c5 : W.cell? ⟨w.heap.size + 1, 0, none⟩ = some (.slice Af fl.length cf) := cellOf hS.b5 rfl
  have HR1 := Lib.hid (ReverseR_any hS.st.r (by omega))
  have HS := Lib.hid hS
  have HK := Lib.hid hK
  unfold RevPost at HR1
  clear hS hK hll hrl hfl
  go_wp2_with (first
   | (go_at_call 31; refine HR1.out.mono ?_; rintro e w2 ⟨rfl, hrow2, hg2⟩; have HRow2 := Lib.hid hrow2; have HG2 := Lib.hid hg2; have hz2 := hg2.size; have c4b := (World.cell?_of_block (a := ⟨w.heap.size, 0, none⟩) (hg2.block w.heap.size (by omega) (fun e => by have := HS.out.fr _ e.symm; omega))).trans c4; have c5b := (World.cell?_of_block (a := ⟨w.heap.size + 1, 0, none⟩) (hg2.block (w.heap.size + 1) (by omega) (fun e => by have := HS.out.fr _ e.symm; omega))).trans c5; have hOF := own_apart HS.out.st.f hg2 (fun g e => HS.out.st.ap g e); have HR2 := Lib.hid (ReverseF_any hOF (by omega)); unfold RevPost at HR2; clear hrow2 hg2 hOF)
   | (go_at_call 32; refine HR2.out.mono ?_; rintro e w3 ⟨rfl, hrow3, hg3⟩; have HRow3 := Lib.hid hrow3; have HG3 := Lib.hid hg3; have hz3 := hg3.size; have c4c := (World.cell?_of_block (a := ⟨w.heap.size, 0, none⟩) (hg3.block w.heap.size (by omega) (fun e => by have := HS.out.ff _ e.symm; omega))).trans c4b; have c5c := (World.cell?_of_block (a := ⟨w.heap.size + 1, 0, none⟩) (hg3.block (w.heap.size + 1) (by omega) (fun e => by have := HS.out.ff _ e.symm; omega))).trans c5b; clear hrow3 hg3))
  go_quiet (fail)
  go_wp2
  generalize hw4 : World.drewN w3 _ = w4
  have HG4 : Hid (w2.grownBy w4 (Value.slice Af fl.length cf).ownBlock) := Lib.hid (by rw [← hw4]; exact ⟨HG3.out.os, HG3.out.tape, HG3.out.output, HG3.out.size, HG3.out.block⟩)
  have HRow4 : Hid (RowAt w4 w4.heap.size Af 3 fl.length (cellsOf encFl fl.reverse)) := Lib.hid (by rw [← hw4]; exact ⟨HRow3.out.len, HRow3.out.at_⟩)
  have hz4 := HG4.out.size
  clear hw4 HG3 HRow3
  have hD2 := (HG2.out.block D hDl (fun e => hAD.1 e.symm)).trans HK.out
  have hD3 : w4.heap[D]? = some (.deferred (some [])) := (HG4.out.block D (by omega) (fun e => hAD.2.1 e.symm)).trans hD2
  have hlow : Below w.heap.size w w4 := (HS.out.st.low.grown HG2.out HS.out.st.low.size (fun j e => by have := HS.out.fr j e; omega)).grown HG4.out (by have := HS.out.st.low.size; omega) (fun j e => by have := HS.out.ff j e; omega)
  have hi2 := HS.out.st.ir.moved (row' := (Value.slice Ar rl.length cr).ownBlock) (Nat.le_refl _) HG2.out (Or.inl rfl)
  have hi3 := (HS.out.st.fr.with hi2 (Nat.le_refl _)).moved (row' := (Value.slice Af fl.length cf).ownBlock) HG2.out.size HG4.out (Or.inl rfl)
  have hp := grownBy_putObj' w4 D (.deferred none)
  have hs3 : W.heap.size ≤ (w4.putObj D (.deferred none)).heap.size := by have := hp.size; omega
  refine ⟨by simp, .inl ⟨_, _, rfl, run_takeDeferred hD3, ?_⟩⟩
  refine ⟨.tuple #[.slice Ar rl.length cr, .slice Af fl.length cf], by simp [results, Tryz.results9, go_sem], ?_⟩
  refine ⟨Ar, cr, Af, cf, rl.reverse, fl.reverse, by rw [List.length_reverse, List.length_reverse], HRl.out, HFl.out, ?_, ?_, ?_, ?_, by rw [List.length_reverse]; exact cap_of HS.out.st.r, fun a e => (HS.out.st.r.lt a.block (by rw [e]; rfl)).1, fun y hy a e => HS.out.st.ge y (List.mem_reverse.1 hy) a e⟩
  · rw [List.length_reverse]
    exact ((HRow2.out.other (Nat.le_refl _) HG4.out (fun r e a ea => by subst ea; intro e2; exact HS.out.st.ap a.block rfl (by rw [e2]; exact e))).other HG4.out.size hp (fun r e a ea => by subst ea; obtain rfl := Option.some.inj e; intro e2; exact hAD.1 (by rw [← e2]; rfl))).up (Nat.le_trans HG4.out.size hp.size)
  · rw [List.length_reverse]
    exact (HRow4.out.other (Nat.le_refl _) hp (fun r e a ea => by subst ea; obtain rfl := Option.some.inj e; intro e2; exact hAD.2.1 (by rw [← e2]; rfl))).up hp.size
  · intro y hy
    have hy := List.mem_reverse.1 hy
    exact (((hi3 y hy).at_).other (by omega) hp (fun r e a ea => by obtain rfl := Option.some.inj e; exact hAD.2.2 y hy a ea)).up hs3
  · exact hlow.trans (belowK_b (w := w) (Nat.le_refl _) w4 D _ _ (by omega) hD3 rfl rfl)
end Go.Proofs.YtibflgfhjfcifaaGreatDoor
namespace Go.Proofs.YtibflgfhjfcifaaGreatDoor
def ReachL : List Rp → Prop
 | [] => True
 | x :: r => keepB r x = true ∧ ReachL r
theorem linkF_reachL (l : List Rp) : ReachL (linkF l).1 := by
 induction l with
 | nil => exact trivial
 | cons x r ih =>
   rw [linkF]
   split
   · rename_i h; exact ⟨h, ih⟩
   · exact ih
theorem linkF_of_reachL {l : List Rp} (h : ReachL l) : linkF l = (l, []) := by
 induction l with
 | nil => rfl
 | cons x r ih =>
   rw [linkF, ih h.2]
   simp [h.1]
theorem linkF_again (l : List Rp) : linkF (linkF l).1 = ((linkF l).1, []) := linkF_of_reachL (linkF_reachL l)
theorem reachL_at {l : List Rp} (h : ReachL l) {j : Nat} (hj : j < l.length) : keepB (l.drop (j + 1)) l[j] = true := by
 induction l generalizing j with
 | nil => cases hj
 | cons x r ih =>
   cases j with
   | zero => exact h.1
   | succ j => exact ih h.2 (by simpa using hj)
theorem reachL_lab {l : List Rp} (h : ReachL l) {j : Nat} (hj : j < l.length) {tg : ByteArray} (ht : valT l[j].tms 24 = some tg) : labB (l.drop (j + 1)) tg = true := by
 have := reachL_at h hj
 unfold keepB at this
 rw [ht] at this
 exact this
def plainB (x : Rp) : Bool := (valT x.tms 24).isNone
theorem linkF_plain (l : List Rp) : (linkF l).1.countP plainB = l.countP plainB := by
 induction l with
 | nil => rfl
 | cons x r ih =>
   rw [linkF]
   split
   · simp [List.countP_cons, ih]
   · rename_i h
     have hp : plainB x = false := by
      cases hv : valT x.tms 24 with
      | none =>
        exfalso; apply h
        unfold keepB
        rw [hv]
      | some t => simp [plainB, hv]
     simp [ih, hp]
theorem count_take {l : List Rp} {j : Nat} (hj : j < l.length) : (l.take (j + 1)).countP plainB = (l.take j).countP plainB + if plainB l[j] = true then 1 else 0 := by
 rw [List.take_succ_eq_append_getElem hj, List.countP_append, List.countP_singleton]
theorem count_drop {l : List Rp} {j : Nat} (hj : j < l.length) : (l.drop j).countP plainB = (l.drop (j + 1)).countP plainB + if plainB l[j] = true then 1 else 0 := by
 rw [List.drop_eq_getElem_cons hj, List.countP_cons]
end Go.Proofs.YtibflgfhjfcifaaGreatDoor
