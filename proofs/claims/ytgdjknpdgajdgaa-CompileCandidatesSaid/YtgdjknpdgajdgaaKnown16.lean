/-
  The law file's known: it says yes.
-/
import Derived.Test.YtgdjknpdgajdgaaG15
import Derived.Test.YtgdjknpdgajdgaaG16
namespace Go.Proofs.Ytgdjknpdgajdgaa
open Go.RowKit Go.Maps Go.Sort
def encRow (l : List Tm) : Array Value := (cellsOf encTm l).toArray
abbrev kT : Array Value := #[.int .i64 7, .string ⟨#[]⟩, .int .i64 4, .string ⟨#[116]⟩]
abbrev kRl (n : Nat) : List Rl := [⟨⟨#[]⟩, 0, ⟨some ⟨n + 1, 0, none⟩, 3, [⟨3, ⟨#[]⟩, 1, ⟨#[98, 108, 111, 99, 107]⟩⟩, ⟨2, ⟨#[]⟩, 1, ⟨#[115, 100, 42]⟩⟩, kTag]⟩⟩, ⟨⟨#[]⟩, 0, ⟨some ⟨n + 1 + 1, 0, none⟩, 3, [⟨12, ⟨#[]⟩, 1, ⟨#[120]⟩⟩, ⟨3, ⟨#[]⟩, 1, ⟨#[110, 101, 116]⟩⟩, kTag]⟩⟩, ⟨⟨#[]⟩, 0, ⟨some ⟨n + 1 + 1 + 1, 0, none⟩, 2, [⟨3, ⟨#[]⟩, 1, ⟨#[110, 101, 116, 124, 117, 115, 98]⟩⟩, kTag]⟩⟩, ⟨⟨#[]⟩, 0, ⟨some ⟨n + 1 + 1 + 1 + 1, 0, none⟩, 2, [⟨7, ⟨#[]⟩, 1, ⟨#[97]⟩⟩, kTag]⟩⟩]
theorem kRl_ls (n : Nat) : (kRl n).map (fun x => x.tms.l) = kLs := rfl
theorem kLs_ok : ∀ l ∈ kLs, 1 ≤ l.length ∧ l.length ≤ 1000 ∧ ∀ t ∈ l, t.value.size ≤ 1000 := by decide
theorem kLs_lo : LsOk kLs := ⟨by decide, fun l hl => (kLs_ok l hl).2⟩
theorem kRl_ok (n : Nat) : ∀ x ∈ kRl n, 1 ≤ x.tms.l.length ∧ x.tms.l.length ≤ 1000 ∧ ∀ t ∈ x.tms.l, t.value.size ≤ 1000 := fun x hx => kLs_ok _ (by rw [← kRl_ls n]; exact List.mem_map_of_mem hx)
abbrev tA0 : Array Value := #[.int .i64 3, .string ⟨#[]⟩, .int .i64 1, .string ⟨#[98, 108, 111, 99, 107]⟩, .int .i64 2, .string ⟨#[]⟩, .int .i64 1, .string ⟨#[115, 100, 42]⟩, .int .i64 7, .string ⟨#[]⟩, .int .i64 4, .string ⟨#[116]⟩]
abbrev tA1 : Array Value := #[.int .i64 12, .string ⟨#[]⟩, .int .i64 1, .string ⟨#[120]⟩, .int .i64 3, .string ⟨#[]⟩, .int .i64 1, .string ⟨#[110, 101, 116]⟩, .int .i64 7, .string ⟨#[]⟩, .int .i64 4, .string ⟨#[116]⟩]
abbrev tA2 : Array Value := #[.int .i64 3, .string ⟨#[]⟩, .int .i64 1, .string ⟨#[110, 101, 116, 124, 117, 115, 98]⟩, .int .i64 7, .string ⟨#[]⟩, .int .i64 4, .string ⟨#[116]⟩]
abbrev tA3 : Array Value := #[.int .i64 7, .string ⟨#[]⟩, .int .i64 1, .string ⟨#[97]⟩, .int .i64 7, .string ⟨#[]⟩, .int .i64 4, .string ⟨#[116]⟩]
abbrev tR (n : Nat) : Array Value := #[.string ⟨#[]⟩, .int .i64 0, .slice (some ⟨n + 1, 0, none⟩) 3 3, .string ⟨#[]⟩, .int .i64 0, .slice (some ⟨n + 1 + 1, 0, none⟩) 3 3, .string ⟨#[]⟩, .int .i64 0, .slice (some ⟨n + 1 + 1 + 1, 0, none⟩) 2 2, .string ⟨#[]⟩, .int .i64 0, .slice (some ⟨n + 1 + 1 + 1 + 1, 0, none⟩) 2 2]
abbrev kW (w : World) : World := (((((w.alloc (.cells kT 43)).alloc (.cells tA0 43)).alloc (.cells tA1 43)).alloc (.cells tA2 43)).alloc (.cells tA3 43)).alloc (.cells (tR w.heap.size) 46)
theorem old_al (w : World) (o : Obj) {r : Nat} (h : r < w.heap.size) : (w.alloc o).heap[r]? = w.heap[r]? := (below_alloc w o).block r h
theorem size_al (w : World) (o : Obj) : (w.alloc o).heap.size = w.heap.size + 1 := by simp
theorem row_of_cells {W : World} {g : Nat} {T : TypeId} {C : Array Value} {k n : Nat} {xs : List Value} (h : W.heap[g]? = some (.cells C T (0, 0))) (hx : C.toList = xs) (hl : xs.length = n * k) : RowAt W W.heap.size (some ⟨g, 0, none⟩) k n xs :=
  ⟨hl, fun _ => ⟨g, 0, rfl, blk_lt' h, fun j u hu => by
    subst hx
    rw [Nat.zero_add]
    exact cellOf h (by rw [← Array.getElem?_toList]; exact hu)⟩⟩
theorem kW_row (w : World) : RowAt (kW w) (kW w).heap.size (some ⟨w.heap.size + 1 + 1 + 1 + 1 + 1, 0, none⟩) 3 4 (cellsOf encRl (kRl w.heap.size)) := by
  have h := heap_alloc_new ((((((w.alloc (.cells kT 43)).alloc (.cells tA0 43)).alloc (.cells tA1 43)).alloc (.cells tA2 43)).alloc (.cells tA3 43))) (.cells (tR w.heap.size) 46)
  simp only [size_al] at h
  exact row_of_cells h rfl rfl
theorem kW_in (w : World) : InAt 4 encTm Rl.tms (kW w) (kW w).heap.size (kRl w.heap.size) := by
  have a0 := heap_alloc_new (w.alloc (.cells kT 43)) (.cells tA0 43)
  have a1 := heap_alloc_new ((w.alloc (.cells kT 43)).alloc (.cells tA0 43)) (.cells tA1 43)
  have a2 := heap_alloc_new (((w.alloc (.cells kT 43)).alloc (.cells tA0 43)).alloc (.cells tA1 43)) (.cells tA2 43)
  have a3 := heap_alloc_new ((((w.alloc (.cells kT 43)).alloc (.cells tA0 43)).alloc (.cells tA1 43)).alloc (.cells tA2 43)) (.cells tA3 43)
  simp only [size_al] at a0 a1 a2 a3
  have b0 : (kW w).heap[w.heap.size + 1]? = some (.cells tA0 43 (0, 0)) := by unfold kW; rw [old_al _ _ (by simp), old_al _ _ (by simp), old_al _ _ (by simp), old_al _ _ (by simp)]; exact a0
  have b1 : (kW w).heap[w.heap.size + 1 + 1]? = some (.cells tA1 43 (0, 0)) := by unfold kW; rw [old_al _ _ (by simp), old_al _ _ (by simp), old_al _ _ (by simp)]; exact a1
  have b2 : (kW w).heap[w.heap.size + 1 + 1 + 1]? = some (.cells tA2 43 (0, 0)) := by unfold kW; rw [old_al _ _ (by simp), old_al _ _ (by simp)]; exact a2
  have b3 : (kW w).heap[w.heap.size + 1 + 1 + 1 + 1]? = some (.cells tA3 43 (0, 0)) := by unfold kW; rw [old_al _ _ (by simp)]; exact a3
  intro y hy
  rcases List.mem_cons.1 hy with rfl | hy
  · exact row_of_cells b0 rfl rfl
  rcases List.mem_cons.1 hy with rfl | hy
  · exact row_of_cells b1 rfl rfl
  rcases List.mem_cons.1 hy with rfl | hy
  · exact row_of_cells b2 rfl rfl
  obtain rfl := List.mem_singleton.1 hy
  exact row_of_cells b3 rfl rfl
theorem kNew_any (w : World) : Calls Try.prog 6 #[.slice (some ⟨w.heap.size + 1 + 1 + 1 + 1 + 1, 0, none⟩) 4 4] (kW w) (NewPost kLs (kW w)) := PNew_any (some ⟨w.heap.size + 1 + 1 + 1 + 1 + 1, 0, none⟩) 4 (kRl w.heap.size) (kW w) (by show 4 ≤ 1000; decide) (kRl_ok _) (kW_row w) (kW_in w)
theorem kW_below (w : World) : Below w.heap.size w (kW w) := bt (bt (bt (bt (bt (below_alloc _ _) (below_alloc _ _)) (below_alloc _ _)) (below_alloc _ _)) (below_alloc _ _)) (below_alloc _ _)
theorem kD1_ok : DvOk kD1 := ⟨by decide, by decide, by decide, (fun y hy => by cases hy), by decide⟩
theorem kD2_ok : DvOk kD2 := ⟨by decide, by decide, by decide, (fun y hy => by cases hy), by decide⟩
theorem dv_none (w : World) (x : Dv) (h : x.ats = ⟨none, 0, []⟩) : DvAt w w.heap.size x := by
  show RowAt _ _ x.ats.A 2 x.ats.l.length (cellsOf encAt x.ats.l)
  rw [h]
  exact ⟨rfl, fun h => absurd h (Nat.lt_irrefl 0)⟩
theorem kKeys_any (pb : Nat) (w : World) (hp : Prg w pb kLs) : Calls Try.prog 12 #[.pointer (some ⟨pb, 0, none⟩)] w fun e w' => ∃ A c, e = .returned (.slice A 1 c) ∧ RowAt w' w'.heap.size A 1 1 ([([98, 108, 111, 99, 107] : Str)].map strV) ∧ Below w.heap.size w w' := by
  refine (PKeys_any pb kLs w hp (by decide)).mono ?_
  rintro e w2 ⟨v, ss, rfl, hS, hrow, hb⟩
  rw [k_keys] at hS
  obtain rfl := List.perm_singleton.1 hS
  rw [List.mergeSort_singleton] at hrow
  obtain ⟨A, c, rfl⟩ := own_slice hrow
  exact ⟨A, c, rfl, RowAt.of_own hrow, hb⟩
set_option maxRecDepth 100000 in
set_option maxHeartbeats 8000000 in
theorem known_any (w : World) : Calls Try.prog 4 #[] w fun e w' => e = .returned (.bool true) ∧ Below w.heap.size w w' := by
  go_enter Try.func4, Try.ntmps4
  go_wp2_with fail
  refine (kNew_any w).mono ?_
  rintro e w1 ⟨pb, rfl, hP, hb1, _⟩
  have HP1 := Lib.hid hP
  have HB1 := Lib.hid (bt (kW_below w) hb1)
  clear hP hb1
  go_wp2_with fail
  refine (kKeys_any pb w1 HP1.out).mono ?_
  rintro e w2 ⟨A2, c2, rfl, hr2, hb2⟩
  have HR2 := Lib.hid hr2
  have HB2 := Lib.hid hb2
  clear hr2 hb2
  go_wp2_with fail
  refine (SameTexts_yes A2 _ c2 _ [[98, 108, 111, 99, 107]] _ (by decide) ((HR2.out.keep (below_alloc _ _)).up (below_alloc _ _).size) (row_of_cells (heap_alloc_new w2 _) rfl rfl)).mono ?_
  rintro e w3 ⟨rfl, hb3⟩
  have HB3 := Lib.hid (bt HB2.out (bt (below_alloc _ _) hb3))
  clear hb3
  go_wp2_with fail
  refine (PCand_any pb kLs kD1 w3 (HP1.out.keep HB3.out) kLs_lo kD1_ok (by decide) (dv_none _ _ rfl)).mono ?_
  rintro e w4 ⟨A4, c4, rfl, hr4, hb4⟩
  rw [k_c1] at hr4 ⊢
  have HR4 := Lib.hid hr4
  have HB4 := Lib.hid (bt HB3.out hb4)
  clear hr4 hb4
  go_wp2_with fail
  refine (SameInts_yes A4 _ c4 _ [0, 1, 3] _ (by decide) ((HR4.out.keep (below_alloc _ _)).up (below_alloc _ _).size) (row_of_cells (heap_alloc_new w4 _) rfl rfl)).mono ?_
  rintro e w5 ⟨rfl, hb5⟩
  have HB5 := Lib.hid (bt HB4.out (bt (below_alloc _ _) hb5))
  clear hb5
  go_wp2_with fail
  refine (PCand_any pb kLs kD2 w5 (HP1.out.keep HB5.out) kLs_lo kD2_ok (by decide) (dv_none _ _ rfl)).mono ?_
  rintro e w6 ⟨A6, c6, rfl, hr6, hb6⟩
  rw [k_c2] at hr6 ⊢
  have HR6 := Lib.hid hr6
  have HB6 := Lib.hid (bt HB5.out hb6)
  clear hr6 hb6
  go_wp2_with fail
  refine (SameInts_yes A6 _ c6 _ [1, 2, 3] _ (by decide) ((HR6.out.keep (below_alloc _ _)).up (below_alloc _ _).size) (row_of_cells (heap_alloc_new w6 _) rfl rfl)).mono ?_
  rintro e w7 ⟨rfl, hb7⟩
  have HB7 := Lib.hid (bt HB6.out (bt (below_alloc _ _) hb7))
  clear hb7
  go_wp2
  go_ret
  exact ⟨by first | rfl | simp, bt HB1.out HB7.out⟩
end Go.Proofs.Ytgdjknpdgajdgaa
