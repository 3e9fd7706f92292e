/-
  slices.Sorted and maps.Keys at this dump: the shelf's contracts laid here. (The layings: printed by lay-plain; the contracts: by lay-iter.)
  Contract of a program's Keys: its keys, sorted.
-/
import Derived.Shelf.SlIter.Nil
import Derived.Shelf.SortM.Plain
import Derived.Shelf.SortM.SortNone
import Derived.Test.YtgdjknpdgajdgaaProg
import Derived.Test.YtgdjknpdgajdgaaPNew
namespace Go.Proofs.Ytgdjknpdgajdgaa
open Go.Shelf Go.RowKit Go.Maps Go.Sort
def laysKeys_ren : Go.Shelf.Ren := ⟨fun | 7 => 32 | 10 => 48 | n => n, fun | 23 => 57 | 26 => 9 | 3 => 22 | 28 => 75 | 0 => 0 | 27 => 74 | 33 => 95 | 4 => 4 | n => n, fun | n => n⟩
theorem laysKeys : Go.Proofs.SlLaysZ.n7 Try.prog laysKeys_ren := {
  mixed := by kernel_rfl
  f7 := ⟨Try.f32.name, by decide, Try.func32.trans (congrArg some (by kernel_rfl))⟩
  f10 := ⟨Try.f48.name, by decide, Try.func48.trans (congrArg some (by kernel_rfl))⟩
  t0 := Try.underlying0
  a0 := Try.isAgg0
  z0 := Try.sizeOf0
  v0 := Try.zeroValue0
  t4 := Try.underlying4
  a4 := Try.isAgg4
  z4 := Try.sizeOf4
  v4 := Try.zeroValue4
  t23 := Try.underlying57
  a23 := Try.isAgg57
  z23 := Try.sizeOf57
  v23 := Try.zeroValue57
  t26 := Try.underlying9
  a26 := Try.isAgg9
  z26 := Try.sizeOf9
  v26 := Try.zeroValue9
  t27 := Try.underlying74
  a27 := Try.isAgg74
  z27 := Try.sizeOf74
  v27 := Try.zeroValue74
  t28 := Try.underlying75
  a28 := Try.isAgg75
  z28 := Try.sizeOf75
  v28 := Try.zeroValue75
  t33 := Try.underlying95
  a33 := Try.isAgg95
  z33 := Try.sizeOf95
  v33 := Try.zeroValue95 }
def laysSorted_ren : Go.Shelf.Ren := ⟨fun | 6 => 31 | 8 => 46 | 9 => 47 | 11 => 58 | 13 => 60 | 12 => 59 | 23 => 80 | 24 => 81 | 14 => 71 | 15 => 72 | 16 => 73 | 17 => 74 | 18 => 75 | 19 => 76 | 20 => 77 | 21 => 78 | 22 => 79 | 25 => 88 | 26 => 89 | 27 => 90 | 28 => 91 | 29 => 92 | 30 => 93 | 31 => 99 | n => n, fun | 26 => 9 | 28 => 75 | 24 => 48 | 0 => 0 | 3 => 3 | 37 => 108 | 48 => 129 | 50 => 131 | 4 => 4 | 40 => 122 | 39 => 121 | 45 => 126 | 5 => 5 | 9 => 9 | 51 => 141 | 55 => 145 | 57 => 157 | 58 => 158 | 33 => 95 | n => n, fun | n => n⟩
theorem laysSorted : Go.Proofs.SlLaysZ.n6 Try.prog laysSorted_ren := {
  mixed := by kernel_rfl
  f6 := ⟨Try.f31.name, by decide, Try.func31.trans (congrArg some (by kernel_rfl))⟩
  f8 := ⟨Try.f46.name, by decide, Try.func46.trans (congrArg some (by kernel_rfl))⟩
  f11 := ⟨Try.f58.name, by decide, Try.func58.trans (congrArg some (by kernel_rfl))⟩
  t0 := Try.underlying0
  a0 := Try.isAgg0
  z0 := Try.sizeOf0
  v0 := Try.zeroValue0
  t24 := Try.underlying48
  a24 := Try.isAgg48
  z24 := Try.sizeOf48
  v24 := Try.zeroValue48
  t26 := Try.underlying9
  a26 := Try.isAgg9
  z26 := Try.sizeOf9
  v26 := Try.zeroValue9
  t28 := Try.underlying75
  a28 := Try.isAgg75
  z28 := Try.sizeOf75
  v28 := Try.zeroValue75
  i26 := by kernel_rfl }
def laysSortS_ren : Go.Shelf.Ren := ⟨fun | 6 => 47 | 8 => 60 | 9 => 59 | 19 => 80 | 20 => 81 | 21 => 71 | 22 => 72 | 23 => 73 | 24 => 74 | 25 => 75 | 26 => 76 | 27 => 77 | 28 => 78 | 29 => 79 | 36 => 88 | 31 => 89 | 32 => 90 | 37 => 91 | 38 => 92 | 39 => 93 | 41 => 99 | n => n, fun | 27 => 48 | 29 => 9 | 3 => 3 | 32 => 108 | 26 => 48 | 0 => 0 | 44 => 129 | 46 => 131 | 4 => 4 | 36 => 122 | 35 => 121 | 41 => 126 | 5 => 5 | 9 => 9 | 53 => 141 | 57 => 145 | 63 => 157 | 64 => 158 | n => n, fun | n => n⟩
theorem laysSortS : Go.Proofs.SlLaysM.n6 Try.prog laysSortS_ren := {
  mixed := by kernel_rfl
  f6 := ⟨Try.f47.name, by decide, Try.func47.trans (congrArg some (by kernel_rfl))⟩
  f8 := Try.func60.trans (congrArg some (by kernel_rfl))
  f9 := ⟨Try.f59.name, by decide, Try.func59.trans (congrArg some (by kernel_rfl))⟩
  f19 := Try.func80.trans (congrArg some (by kernel_rfl))
  f20 := Try.func81.trans (congrArg some (by kernel_rfl))
  f21 := ⟨Try.f71.name, by decide, Try.func71.trans (congrArg some (by kernel_rfl))⟩
  f22 := ⟨Try.f72.name, by decide, Try.func72.trans (congrArg some (by kernel_rfl))⟩
  f23 := ⟨Try.f73.name, by decide, Try.func73.trans (congrArg some (by kernel_rfl))⟩
  f24 := ⟨Try.f74.name, by decide, Try.func74.trans (congrArg some (by kernel_rfl))⟩
  f25 := ⟨Try.f75.name, by decide, Try.func75.trans (congrArg some (by kernel_rfl))⟩
  f26 := ⟨Try.f76.name, by decide, Try.func76.trans (congrArg some (by kernel_rfl))⟩
  f27 := ⟨Try.f77.name, by decide, Try.func77.trans (congrArg some (by kernel_rfl))⟩
  f28 := ⟨Try.f78.name, by decide, Try.func78.trans (congrArg some (by kernel_rfl))⟩
  f29 := ⟨Try.f79.name, by decide, Try.func79.trans (congrArg some (by kernel_rfl))⟩
  f31 := Try.func89.trans (congrArg some (by kernel_rfl))
  f32 := Try.func90.trans (congrArg some (by kernel_rfl))
  f36 := ⟨Try.f88.name, by decide, Try.func88.trans (congrArg some (by kernel_rfl))⟩
  f37 := ⟨Try.f91.name, by decide, Try.func91.trans (congrArg some (by kernel_rfl))⟩
  f38 := ⟨Try.f92.name, by decide, Try.func92.trans (congrArg some (by kernel_rfl))⟩
  f39 := ⟨Try.f93.name, by decide, Try.func93.trans (congrArg some (by kernel_rfl))⟩
  f41 := ⟨Try.f99.name, by decide, Try.func99.trans (congrArg some (by kernel_rfl))⟩
  t0 := Try.underlying0
  a0 := Try.isAgg0
  z0 := Try.sizeOf0
  v0 := Try.zeroValue0
  t3 := Try.underlying3
  a3 := Try.isAgg3
  z3 := Try.sizeOf3
  v3 := Try.zeroValue3
  t4 := Try.underlying4
  a4 := Try.isAgg4
  z4 := Try.sizeOf4
  v4 := Try.zeroValue4
  t5 := Try.underlying5
  a5 := Try.isAgg5
  z5 := Try.sizeOf5
  v5 := Try.zeroValue5
  t9 := Try.underlying9
  a9 := Try.isAgg9
  z9 := Try.sizeOf9
  v9 := Try.zeroValue9
  t26 := Try.underlying48
  a26 := Try.isAgg48
  z26 := Try.sizeOf48
  v26 := Try.zeroValue48
  t27 := Try.underlying48
  a27 := Try.isAgg48
  z27 := Try.sizeOf48
  v27 := Try.zeroValue48
  t29 := Try.underlying9
  a29 := Try.isAgg9
  z29 := Try.sizeOf9
  v29 := Try.zeroValue9
  t32 := Try.underlying108
  a32 := Try.isAgg108
  z32 := Try.sizeOf108
  v32 := Try.zeroValue108
  t35 := Try.underlying121
  a35 := Try.isAgg121
  z35 := Try.sizeOf121
  v35 := Try.zeroValue121
  t36 := Try.underlying122
  a36 := Try.isAgg122
  z36 := Try.sizeOf122
  v36 := Try.zeroValue122
  t41 := Try.underlying126
  a41 := Try.isAgg126
  z41 := Try.sizeOf126
  v41 := Try.zeroValue126
  t44 := Try.underlying129
  a44 := Try.isAgg129
  z44 := Try.sizeOf129
  v44 := Try.zeroValue129
  t46 := Try.underlying131
  a46 := Try.isAgg131
  z46 := Try.sizeOf131
  v46 := Try.zeroValue131
  t53 := Try.underlying141
  a53 := Try.isAgg141
  z53 := Try.sizeOf141
  v53 := Try.zeroValue141
  t57 := Try.underlying145
  a57 := Try.isAgg145
  z57 := Try.sizeOf145
  v57 := Try.zeroValue145
  t63 := Try.underlying157
  a63 := Try.isAgg157
  z63 := Try.sizeOf157
  v63 := Try.zeroValue157
  t64 := Try.underlying158
  a64 := Try.isAgg158
  z64 := Try.sizeOf158
  v64 := Try.zeroValue158 }
/-- slices.Sort's two contracts at this dump, at the fence that asks nothing. -/
theorem sortsS (m : Nat) : AnyZ.SortsIn Try.prog laysSorted_ren Fence.wide m :=
  ⟨fun blk off cap ss W hH hblk hsz => callsIn_wide.2 (AnyM.slices_Sort_string laysSortS blk off cap ss W hH hblk hsz),
   fun p cap W => callsIn_wide.2 (AnyM.slices_Sort_string_none laysSortS p cap W)⟩

/-- **maps.Keys[map[string][]int,string,[]int], at whatever map, the nil one too:** a function value over ONE NEW BLOCK, which holds the map. -/
theorem Keys_at (mb : Option Nat) (W : World) : CallsIn Fence.wide 5 Try.prog 32 #[.map mb] W fun e w' => e = .returned (.func (.func 48) #[] #[.pointer (some ⟨W.heap.size, 0, none⟩)]) ∧ w' = W.alloc (.cells #[.map mb] 57) :=
  AnyZ.keys_in laysKeys Fence.wide 5 trivial rfl mb W

set_option maxHeartbeats 1000000 in
/-- **slices.Sorted[string] AT WHAT maps.Keys[map[string][]int,string,[]int] HANDED BACK FOR A MAP THAT IS NOT nil** ('w': the world AHEAD of maps.Keys' call): A NEW SLICE THAT HOLDS THE MAP's KEYS, SORTED; nil just where it has none; nothing that lay before has turned. -/
theorem SortedKeys_at {H : Type} (b nn : Nat) (D0 : DataW H) (R : Value → Option (DataW H × List MemPlace)) (w : World) (hown : w.ownsMap Try.prog 9 R b nn D0) (hmax : Maps.size D0 ≤ maxLen) (hbytes : Maps.size D0 * 16 ≤ 140737488355328) :
    CallsIn Fence.wide 5 Try.prog 31 #[.func (.func 48) #[] #[.pointer (some ⟨w.heap.size, 0, none⟩)]] (w.alloc (.cells #[.map (some b)] 57)) fun e w' => ∃ (v : Value) (ss : List (List UInt8)), e = .returned v ∧ ss.Perm (strKeys D0) ∧
      w'.ownsRow (w.alloc (.cells #[.map (some b)] 57)).heap.size 9 1 v ss.length ((ss.mergeSort (fun x y => decide (x ≤ y))).map encStr) ∧ (v = .slice none 0 0 ↔ ss = []) ∧ Below (w.alloc (.cells #[.map (some b)] 57)).heap.size (w.alloc (.cells #[.map (some b)] 57)) w' := by
  have hbl := hown.lt
  have hseq : SeqGives Fence.wide 2 Try.prog 48 #[.pointer (some ⟨w.heap.size, 0, none⟩)] encStr (fun ss => ss.Perm (strKeys D0)) (Maps.size D0) (w.alloc (.cells #[.map (some b)] 57)) :=
    AnyZ.keys_gives (ρ := laysKeys_ren) { laysKeys with } Fence.wide _ trivial rfl (by omega) w.heap.size b nn D0 _ (by simp) (by simp) (by
      obtain ⟨es, clock, hb, Ft, hs, hD⟩ := hown
      exact ⟨es, clock, (Below.heap_alloc _ _ b hbl).trans hb, Ft, hs, hD⟩)
  exact AnyZ.sorted_in laysSorted Fence.wide 5 trivial trivial trivial trivial rfl (by omega) (sortsS _) (enters_of Try.func47 (by kernel_rfl) rfl) 48 #[.pointer (some ⟨w.heap.size, 0, none⟩)] trivial (enters_of Try.func48 (by kernel_rfl) rfl) _ _ hmax hbytes _ hseq

end Go.Proofs.Ytgdjknpdgajdgaa
namespace Go.Proofs.Ytgdjknpdgajdgaa
open Go.RowKit Go.Maps Go.Sort Go.Shelf
theorem map_of_groups {P : Program} {w : World} {k e : TypeId} {q : IntKind} {base b n : Nat} {D : DW} (h : w.ownsGroups P k base e q b n D) : w.ownsMap P k (rowElem w base e q) b n D := by
  obtain ⟨es, clock, h1, h2, h3, h4, _⟩ := h
  exact ⟨es, clock, h1, h2, h3, h4⟩
def KeysPost (ls : List (List Tm)) (w : World) (e : Ending) (w' : World) : Prop := ∃ (v : Value) (ss : List Str), e = .returned v ∧ ss.Perm (strKeys (grpD (ksS ls))) ∧ w'.ownsRow w.heap.size 9 1 v ss.length ((ss.mergeSort (fun x y => decide (x ≤ y))).map encStr) ∧ Below w.heap.size w w'
set_option maxHeartbeats 1000000 in
theorem PKeys_any (pb : Nat) (ls : List (List Tm)) (w : World) (hp : Prg w pb ls) (hl : ls.length ≤ 1000) :
    Calls Try.prog 12 #[.pointer (some ⟨pb, 0, none⟩)] w (KeysPost ls w) := by
  obtain ⟨wb, RV, vs, F, G, Lb, rfl, h⟩ := hp
  have hown := map_of_groups h.gr
  obtain ⟨⟨c0, c1, c2, c3, c4⟩, cf⟩ := box5 h.box
  have hsz : Maps.size (grpD (ksS ls)) ≤ ls.length := hown.size_le
  have hmx : Maps.size (grpD (ksS ls)) ≤ maxLen := by unfold maxLen; omega
  have hby : Maps.size (grpD (ksS ls)) * 16 ≤ 140737488355328 := by omega
  clear h cf
  unfold KeysPost
  generalize grpD (ksS ls) = D at *
  refine (callsIn_wide (n := 6)).1 ?_
  have hfK : Fence.wide.fn 32 := trivial
  have hfS : Fence.wide.fn 31 := trivial
  refine callsIn_of_wp Try.func12 rfl trivial ?_ rfl
  simp only [Try.ntmps12, List.size_toArray, List.length_cons, List.length_nil, Nat.reduceAdd, Nat.reduceSub, Array.replicate_succ, Array.replicate_zero, List.push_toArray, List.append_toArray, List.nil_append, List.cons_append]
  gi_wp2_with (first
    | (gi_at_call 32; refine (Keys_at _ _).mono ?_; rintro e w' ⟨rfl, rfl⟩)
    | (gi_at_call 31; refine (SortedKeys_at _ _ D _ w hown hmx hby).mono ?_; rintro e w' ⟨v, ss, rfl, hS, hrow, hnil, hb⟩))
  go_ret
  exact ⟨v, ss, rfl, hS, own_base hrow (by simp), ((Below.refl _ w).alloc (Nat.le_refl _) _).trans (hb.mono (by simp))⟩
end Go.Proofs.Ytgdjknpdgajdgaa
