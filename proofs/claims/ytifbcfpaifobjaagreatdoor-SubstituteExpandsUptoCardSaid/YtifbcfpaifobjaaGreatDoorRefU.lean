/-
  What a piece of the result stands for, by the reference. (Printed by gen_rval.py.)
-/
import Derived.Test.YtifbcfpaifobjaaGreatDoorRefV
namespace Go.Proofs.YtifbcfpaifobjaaGreatDoor
open Go.RowKit
/-- The words of the result, as byte strings. -/
theorem RWords_at (s : ByteArray) (w : World) (hE : Env w) (hs : s.size ≤ 4000000) :
    Calls Tryz.prog 97 #[.string s] w fun e w' => ∃ (v : Value) (ps : List ByteArray), e = .returned v ∧ ps.map L = wordsS (L s) ∧ w'.ownsRow w.heap.size 9 1 v ps.length (ps.map Value.string) ∧ Below w.heap.size w w' :=
  (RWords_any s w hE hs).mono fun _ _ ⟨v, h1, h2, h3⟩ => ⟨v, _, h1, partsB_words s, h2, h3⟩
theorem selW_short {α : Type} (k : Nat) (more : Bool) (l : List α) (h : l.length < k) : selW k more l = [] := by
  unfold selW
  rw [List.drop_eq_nil_of_le (by omega)]
  split <;> rfl
theorem drop_take_one {α : Type} {l : List α} {j : Nat} {x : α} (h : l[j]? = some x) : (l.drop j).take 1 = [x] := by
  obtain ⟨hj, rfl⟩ := List.getElem?_eq_some_iff.1 h
  rw [List.drop_eq_getElem_cons hj]
  rfl
set_option maxRecDepth 100000 in
set_option maxHeartbeats 2000000 in
theorem rvWhole (p : Pc) (v : Vs) (w : World) (hk : p.kind = 9) (hw : p.word = 0) :
    Calls Tryz.prog 54 #[encP p, encVs v] w (ValPost v.result w) := by
  unfold encP encVs Lst.v
  rw [hk]
  go_enter Tryz.func54, Tryz.ntmps54
  rw [hw]
  go_wp2
  go_ret
  exact ⟨rfl, ((Below.refl _ _).alloc (Nat.le_refl _) _).alloc (by simp) _⟩
set_option maxRecDepth 100000 in
set_option maxHeartbeats 2000000 in
theorem rvWords (p : Pc) (v : Vs) (w : World) (hk : p.kind = 9) (m : Nat) (hw : p.word = m) (hm : 1 ≤ m) (hm2 : m ≤ 99) (hE : Env w) (hr : (v.result).size ≤ 4000000) :
    Calls Tryz.prog 54 #[encP p, encVs v] w (ValPost (bs (resultS m p.more (L v.result))) w) := by
  have hB : Below w.heap.size w ((w.alloc (boxP p)).alloc (boxV v)) := ((Below.refl _ _).alloc (Nat.le_refl _) _).alloc (by simp) _
  unfold boxP boxV at hB
  rw [hk] at hB
  have HG := Lib.hid (RWords_at v.result _ (hE.go hB) hr)
  have hres : resultS m p.more (L v.result) = Lib.join (selW m p.more (wordsS (L v.result))) [32] := by rw [resultS, if_neg (by omega)]
  have hwl := wordsS_len (L v.result)
  rw [len_L] at hwl
  generalize wordsS (L v.result) = ws at *
  rw [hres]
  obtain ⟨j, rfl⟩ : ∃ j, m = j + 1 := ⟨m - 1, by omega⟩
  have hw' : p.word = (j : Int) + 1 := by rw [hw]; push_cast; rfl
  clear hw
  rw [hw'] at HG hB
  have HB := Lib.hid hB
  clear hB hE hres
  generalize hmo : p.more = mo at *
  unfold encP encVs Lst.v
  rw [hk]
  go_enter Tryz.func54, Tryz.ntmps54
  rw [hw', hmo]
  clear hmo
  go_wp2_with fail
  refine HG.out.mono ?_
  rintro e w1 ⟨v1, ps, rfl, hps, hown, hb1⟩
  have hl : ws.length = ps.length := by rw [← hps, List.length_map]
  obtain ⟨A, c, rfl⟩ := own_slice hown
  obtain ⟨c2, c3⟩ : w1.cell? ⟨w.heap.size, 2, none⟩ = some (.int .i64 ((j : Int) + 1)) ∧ w1.cell? ⟨w.heap.size, 3, none⟩ = some (.bool mo) := by
    have hlt : w.heap.size < ((w.alloc (Obj.cells #[.int .i64 9, .string p.text, .int .i64 ((j : Int) + 1), .bool mo] 64)).alloc (boxV v)).heap.size := by simp; omega
    have hc : ∀ i, ((w.alloc (Obj.cells #[.int .i64 9, .string p.text, .int .i64 ((j : Int) + 1), .bool mo] 64)).alloc (boxV v)).cell? ⟨w.heap.size, i, none⟩ = #[Value.int .i64 9, .string p.text, .int .i64 ((j : Int) + 1), .bool mo][i]? := fun i => by
      rw [World.cell?_of_block (Below.heap_alloc _ _ _ (by simp))]
      exact cell_of_row _ _ i _ _ _ (heap_alloc_new w _)
    exact ⟨(hb1.cell (p := ⟨w.heap.size, 2, none⟩) hlt).trans (hc 2), (hb1.cell (p := ⟨w.heap.size, 3, none⟩) hlt).trans (hc 3)⟩
  by_cases hlt : ps.length < j + 1
  · have hsel : selW (j + 1) mo ws = [] := by
      have := selW_short (j + 1) mo ws (by omega)
      exact this
    have HSel := Lib.hid hsel
    have Hb1 := Lib.hid hb1
    clear hsel hb1 hps hown HG
    go_wp2
    go_ret
    refine ⟨by rw [HSel.out]; rfl, HB.out.trans (Hb1.out.mono HB.out.size)⟩
  · rcases hown.2 with ⟨_, h0⟩ | ⟨g, cap, cur, hA, hbg, hgg, hroom, _, _, _⟩
    · simp at h0; subst h0; simp at hlt
    · injection hA with hA hn hc
      subst hA hc
      have hc : ∀ (i : Nat) (y : ByteArray), ps[i]? = some y → w1.cell? ⟨g, i, none⟩ = some (.string y) := fun i y hy => by
        have := hown.cells (g := g) rfl i (.string y) (by rw [List.getElem?_map, hy]; rfl)
        have hadd : (⟨g, 0, none⟩ : Addr).add i = ⟨g, i, none⟩ := by unfold Addr.add; split <;> simp_all
        rw [hadd] at this
        exact this
      have hgl := blk_lt hgg
      have hnn : ps.length ≤ 4000001 := by omega
      cases mo with
      | false =>
        have hx : ps[j]? = some (ps.getD j ⟨#[]⟩) := by rw [List.getD, List.getElem?_eq_getElem (by omega)]; rfl
        have hcx := hc j _ hx
        have hsel : bs (Lib.join (selW (j + 1) false ws) [32]) = ps.getD j ⟨#[]⟩ := by
          rw [← hps, selW_map, selW, if_neg (by simp), Nat.add_sub_cancel, drop_take_one hx]
          rw [List.map_singleton, join_one]; exact bs_L _
        have HSel := Lib.hid hsel
        have Hb1 := Lib.hid hb1
        generalize ps.getD j ⟨#[]⟩ = x at *
        clear hsel hb1 hps hown HG hc hx
        go_wp2
        go_ret
        exact ⟨by rw [HSel.out]; rfl, HB.out.trans (Hb1.out.mono HB.out.size)⟩
      | true =>
        have hJ : Calls Tryz.prog 98 #[.slice (some ⟨g, j, none⟩) (ps.length - j) (c - j), .string ⟨#[32]⟩] w1 fun e w' => e = .returned (.string (bs (Lib.join (selW (j + 1) true ws) [32]))) ∧ Below w1.heap.size w1 w' := by
          have hml : (ps.drop j).map (·.data.toList) = selW (j + 1) true ws := by
            rw [← hps, selW_map, selW, if_pos rfl, Nat.add_sub_cancel]
          have hjl := join_len v.result.size (selW (j + 1) true ws) (fun x hx => hwl.2 x (selW_mem hx))
          have hsl := selW_len (j + 1) true ws
          have hmul : (selW (j + 1) true ws).length * (v.result.size + 1) ≤ 140737488355328 := Nat.le_trans (Nat.mul_le_mul (Nat.le_trans hsl (Nat.le_trans (by omega : ws.length ≤ 4000001) (Nat.le_refl _))) (Nat.succ_le_succ hr)) (by decide)
          have h := Tryz.strings_Join g j (c - j) (ps.drop j) ⟨#[32]⟩ w1 (fun i x hx => by
            rw [List.getElem?_drop] at hx
            exact hc _ _ hx) hgl (by rw [List.length_drop]; omega) (by rw [List.length_drop]; omega) (by rw [hml]; exact Nat.le_trans hjl hmul)
          rw [hml, List.length_drop] at h
          exact h
        have HJ := Lib.hid hJ
        have Hb1 := Lib.hid hb1
        clear hb1 hps hown HG hc hJ
        go_wp2_with (go_at_call 98; refine HJ.out.mono ?_; rintro e w2 ⟨rfl, hb2⟩)
        go_ret
        exact ⟨rfl, (HB.out.trans (Hb1.out.mono HB.out.size)).trans (hb2.mono (HB.out.trans (Hb1.out.mono HB.out.size)).size)⟩
/-- What a piece stands for. -/
theorem RValue_any (p : Pc) (v : Vs) (w : World) (hp : Wf p) (hE : Env w) (h : VsIn w w.heap.size v) (hv : v.kernel.size ≤ 9223372036854775807) (hr : v.result.size ≤ 4000000) :
    Calls Tryz.prog 54 #[encP p, encVs v] w (ValPost (valueS p v) w) := by
  obtain ⟨k, m, hk, h1, h2, hm, hm2⟩ := hp
  rcases k with _ | _ | _ | _ | _ | _ | _ | _ | _ | _ | _ | _ | k
  · omega
  · have e : valueS p v = p.text := by unfold valueS; rw [hk]; rfl
    rw [e]; exact rv1 p v w hk
  · have e : valueS p v = v.kernel := by unfold valueS; rw [hk]; rfl
    rw [e]; exact rv2 p v w hk
  · have e : valueS p v = bs (numS (L v.kernel)) := by unfold valueS; rw [hk]; rfl
    rw [e]; exact rv3 p v w hk hv
  · have e : valueS p v = v.devpath := by unfold valueS; rw [hk]; rfl
    rw [e]; exact rv4 p v w hk
  · have e : valueS p v = v.id := by unfold valueS; rw [hk]; rfl
    rw [e]; exact rv5 p v w hk
  · have e : valueS p v = v.driver := by unfold valueS; rw [hk]; rfl
    rw [e]; exact rv6 p v w hk
  · have e : valueS p v = firstV [v.attrs, v.above] (L p.text) := by unfold valueS; rw [hk]; rfl
    rw [e]; exact rv7 p v w hk h
  · have e : valueS p v = firstV [v.env] (L p.text) := by unfold valueS; rw [hk]; rfl
    rw [e]; exact rv8 p v w hk h
  · have e : valueS p v = bs (resultS m p.more (L v.result)) := by unfold valueS; rw [hk, hm]; rfl
    rw [e]
    by_cases h0 : m = 0
    · subst h0
      rw [show bs (resultS 0 p.more (L v.result)) = v.result from bs_L _]
      exact rvWhole p v w hk hm
    · exact rvWords p v w hk m hm (by omega) hm2 hE hr
  · have e : valueS p v = v.parent := by unfold valueS; rw [hk]; rfl
    rw [e]; exact rv10 p v w hk
  · have e : valueS p v = v.name := by unfold valueS; rw [hk]; rfl
    rw [e]; exact rv11 p v w hk
  · omega
end Go.Proofs.YtifbcfpaifobjaaGreatDoor
