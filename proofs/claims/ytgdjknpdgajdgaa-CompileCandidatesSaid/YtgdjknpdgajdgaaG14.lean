/-
  Contracts of Candidates' closures, of slices.IndexFunc and DeleteFunc at numbers, and of Candidates.
  Contract of slices.DeleteFunc at numbers, for Candidates' closure.
-/
import Derived.Test.YtgdjknpdgajdgaaG10
import Derived.Test.YtgdjknpdgajdgaaG12
import Derived.Lib.SliceRun
import Derived.Deep.Upon
namespace Go.Proofs.Ytgdjknpdgajdgaa
open Go.RowKit Go.Maps
theorem candS_not (l : List Tm) (d : Dv) : ((frontS l).any fun t => !devB t d) = !candS l d := by
  unfold candS
  rw [List.not_all_eq_any_not]
structure LsOk (ls : List (List Tm)) : Prop where
  len : ls.length ≤ 1000
  tms : ∀ l ∈ ls, l.length ≤ 1000 ∧ ∀ t ∈ l, t.value.size ≤ 1000
theorem Prg.parts {W : World} {pb : Nat} {ls : List (List Tm)} (h : Prg W pb ls) : ∃ (RV : Value) (FA : Option Addr) (fc : Nat) (mb : Nat) (G Lb : Value), W.heap[pb]? = some (.cells #[RV, .slice FA ls.length fc, .map (some mb), G, Lb] 60 (0, 0)) ∧
    (∀ k, (hk : k < ls.length) → ∃ g A c, FA = some ⟨g, 0, none⟩ ∧ g < W.heap.size ∧ W.cell? ⟨g, k, none⟩ = some (.slice A (frontS ls[k]).length c) ∧ RowAt W W.heap.size A 4 (frontS ls[k]).length (cellsOf encTm (frontS ls[k]))) := by
  obtain ⟨wb, RV, vs, F, G, Lb, rfl, h⟩ := h
  obtain ⟨FA, fc, rfl⟩ := own_slice h.fr.outer
  have hl := h.fr.len
  rw [List.length_map] at hl
  refine ⟨RV, FA, fc, wb.heap.size, G, Lb, by rw [← hl]; exact h.box, fun k hk => ?_⟩
  have hk2 : k < (ls.map frontS).length := by rw [List.length_map]; exact hk
  obtain ⟨g, cv, A, c, hv, hg, hc, hr⟩ := h.fr.altAt hk2
  injection hv with hv _ _
  rw [List.getElem_map] at hc hr
  exact ⟨g, A, c, hv, hg, hc, hr⟩
set_option maxRecDepth 100000 in
set_option maxHeartbeats 2000000 in
theorem Hit_any (k pb x y : Nat) (ls : List (List Tm)) (d : Dv) (w : World) (hp : Prg w pb ls) (hls : LsOk ls) (hk : k < ls.length) (hx : w.cell? ⟨x, 0, none⟩ = some (.pointer (some ⟨pb, 0, none⟩))) (hy : DvBox w y d) (hd : DvOk d) (ha : DvAt w w.heap.size d) :
    Calls Try.prog 27 #[.int .i64 k, .pointer (some ⟨x, 0, none⟩), .pointer (some ⟨y, 0, none⟩)] w fun e w' => e = .returned (.bool (!candS ls[k] d)) ∧ Below w.heap.size w w' := by
  obtain ⟨RV, FA, fc, mb, G, Lb, hbx, hfr⟩ := hp.parts
  obtain ⟨g, A, c, rfl, hgl, hcell, hrow⟩ := hfr k hk
  obtain ⟨hl1, hl2⟩ := hls.tms ls[k] (List.getElem_mem _)
  have hfl := frontS_len ls[k]
  have hCo := ContainsD_any A c (frontS ls[k]) (fun t => !devB t d) y w (by omega) hrow (fun t ht W hW => NotDev_any t d y W (by have := hl2 t (frontS_sub _ t ht); omega) hd ((ha.keep hW).up hW.size) (hy.keep hW))
  rw [candS_not] at hCo
  have HCo := Lib.hid hCo
  have p1 := cellOf (j := 1) hbx rfl
  have hltI : (k : Int) < (ls.length : Int) := by omega
  generalize candS ls[k] d = b at *
  generalize (frontS ls[k]).length = nf at *
  clear hbx hfr hl1 hl2 hfl hCo hp hy hd ha hrow
  go_enter Try.func27, Try.ntmps27
  go_wp2_with (go_at_call 20; refine HCo.out.mono ?_; rintro e w2 ⟨rfl, hb2⟩; have HB2 := Lib.hid hb2; clear hb2)
  go_ret
  exact ⟨rfl, HB2.out⟩
set_option maxRecDepth 100000 in
set_option maxHeartbeats 2000000 in
theorem IndexI_any (A : Option Addr) (c x y : Nat) (zs : List Int) (q : Int → Bool) (w0 w : World) (hn : zs.length ≤ 1000000) (h : IRow w w.heap.size A zs) (hb0 : Below w0.heap.size w0 w) (hq : ∀ z ∈ zs, ∀ W, Below w0.heap.size w0 W → Calls Try.prog 27 #[.int .i64 z, .pointer (some ⟨x, 0, none⟩), .pointer (some ⟨y, 0, none⟩)] W fun e w' => e = .returned (.bool (q z)) ∧ Below W.heap.size W w') :
    Calls Try.prog 41 #[.slice A zs.length c, .func (.func 27) #[] #[.pointer (some ⟨x, 0, none⟩), .pointer (some ⟨y, 0, none⟩)]] w fun e w' => e = .returned (.int .i64 (idxP q zs)) ∧ Below w.heap.size w w' := by
  have H := Lib.hid h
  have HQ := Lib.hid hq
  have HB0 := Lib.hid hb0
  clear h hq hb0
  generalize hN : zs.length = N at *
  have HN := Lib.hid hN
  clear hN
  go_enter Try.func41, Try.ntmps41
  go_wp2
  go_loopg [8] (N + 1) (fun gk s8 wr => ∃ k : Nat, s8 = .int .i64 k ∧ k + gk = N + 1 ∧ k ≤ N ∧ Hid (∀ j (h : j < zs.length), j < k → q zs[j] = false) ∧ Hid (Below w.heap.size w wr))
  case atStart => exact ⟨0, rfl, by omega, Nat.zero_le _, (fun j _ h => absurd h (Nat.not_lt_zero _)), Below.refl _ _⟩
  case round =>
    obtain ⟨k, rfl, hkg, hkN, hno, hB⟩ := hrel
    by_cases hlt : k < N
    · have hk' : k < zs.length := by rw [HN.out]; exact hlt
      obtain ⟨ba, off, rfl, c0⟩ := IRow.cell H.out hB.out hk'
      have hltI : (k : Int) < (N : Int) := by omega
      have HC := Lib.hid (HQ.out zs[k] (List.getElem_mem _) wr (bt HB0.out hB.out))
      have HHit := Lib.hid (fun (h : q zs[k] = true) => idxP_hit hno.out hk' h)
      have HNx : Hid (q zs[k] = false → ∀ j (h : j < zs.length), j < k + 1 → q zs[j] = false) := Lib.hid fun hne j h hj => by
        rcases Nat.lt_or_ge j k with h1 | h1
        · exact hno.out j h h1
        · obtain rfl : j = k := by omega
          exact hne
      generalize zs[k] = z at *
      generalize q z = b at *
      clear hk'
      cases b
      · have HA := Lib.hid (HNx.out rfl)
        go_wp2_with (go_at_call 27; refine HC.out.mono ?_; rintro e w2 ⟨rfl, hb2⟩)
        go_roundg (gk - 1)
        case measure => omega
        case rel => exact ⟨k + 1, by go_num, by omega, by omega, HA.out, bt hB.out hb2⟩
      · have HV := Lib.hid (HHit.out rfl)
        go_wp2_with (go_at_call 27; refine HC.out.mono ?_; rintro e w2 ⟨rfl, hb2⟩)
        go_ret
        rw [HV.out]
        exact ⟨rfl, bt hB.out hb2⟩
    · obtain rfl : k = N := by omega
      have HV := Lib.hid (idxP_miss (l := zs) (q := q) fun j h => hno.out j h (by rw [← HN.out]; exact h))
      go_wp2
      go_ret
      rw [HV.out]
      exact ⟨rfl, hB.out⟩
/-- The row while elements are struck. -/
structure DlSt (q : Int → Bool) (zs cur : List Int) (i j : Nat) : Prop where
  len : cur.length = zs.length
  lt : i < j
  le : j ≤ zs.length
  pre : cur.take i = (zs.take j).filter fun z => !q z
  post : cur.drop j = zs.drop j
theorem filter_take {q : Int → Bool} {zs : List Int} {j : Nat} (h : j < zs.length) : (zs.take (j + 1)).filter (fun z => !q z) = (zs.take j).filter (fun z => !q z) ++ if q zs[j] then [] else [zs[j]] := by
  rw [List.take_succ_eq_append_getElem h, List.filter_append]
  congr 1
  cases hq : q zs[j] <;> simp [hq]
theorem DlSt.start {q : Int → Bool} {zs : List Int} {k : Nat} (hno : ∀ j (h : j < zs.length), j < k → q zs[j] = false) (hk : k < zs.length) (h : q zs[k] = true) : DlSt q zs zs k (k + 1) := by
  refine ⟨rfl, Nat.lt_succ_self _, hk, ?_, rfl⟩
  rw [filter_take hk, h, if_pos rfl, List.append_nil, List.filter_eq_self.2]
  intro z hz
  obtain ⟨j, hj, rfl⟩ := List.getElem_of_mem hz
  rw [List.length_take] at hj
  rw [List.getElem_take, hno j (by omega) (by omega)]; rfl
theorem DlSt.skip {q : Int → Bool} {zs cur : List Int} {i j : Nat} (h : DlSt q zs cur i j) (hj : j < zs.length) (hq : q zs[j] = true) : DlSt q zs cur i (j + 1) :=
  ⟨h.len, by have := h.lt; omega, hj, by rw [filter_take hj, hq, if_pos rfl, List.append_nil]; exact h.pre, by rw [← List.drop_drop, h.post, List.drop_drop]⟩
theorem DlSt.put {q : Int → Bool} {zs cur : List Int} {i j : Nat} (h : DlSt q zs cur i j) (hj : j < zs.length) (hq : q zs[j] = false) : DlSt q zs (cur.set i zs[j]) (i + 1) (j + 1) := by
  have hl := h.len
  have hlt := h.lt
  refine ⟨by rw [List.length_set]; exact hl, by omega, hj, ?_, ?_⟩
  · rw [filter_take hj, hq, if_neg (by simp), ← h.pre, List.take_succ_eq_append_getElem (by rw [List.length_set]; omega), List.getElem_set_self, List.take_set_of_le (Nat.le_refl _)]
  · rw [List.drop_set_of_lt (by omega), ← List.drop_drop, h.post, List.drop_drop]
theorem DlSt.at_ {q : Int → Bool} {zs cur : List Int} {i j : Nat} (h : DlSt q zs cur i j) (hj : j < zs.length) : ∃ hc : j < cur.length, cur[j] = zs[j] := by
  have hl := h.len
  refine ⟨by omega, ?_⟩
  have h1 : (cur.drop j)[0]? = (zs.drop j)[0]? := by rw [h.post]
  rw [List.getElem?_drop, List.getElem?_drop, Nat.add_zero, List.getElem?_eq_getElem (by omega), List.getElem?_eq_getElem hj] at h1
  exact Option.some.inj h1
theorem DlSt.done {q : Int → Bool} {zs cur : List Int} {i : Nat} (h : DlSt q zs cur i zs.length) : cur.take i = zs.filter fun z => !q z := by
  have := h.pre
  rwa [List.take_length] at this
theorem setCells_size (b : Nat) : ∀ (vs : List Value) (o : Nat) (w : World), (w.setCells b o vs).heap.size = w.heap.size
  | [], _, _ => rfl
  | v :: r, o, w => by rw [World.setCells, setCells_size b r (o + 1)]; simp [World.setCell]
theorem setCells_tape (b : Nat) : ∀ (vs : List Value) (o : Nat) (w : World), (w.setCells b o vs).tape = w.tape
  | [], _, _ => rfl
  | v :: r, o, w => by rw [World.setCells, setCells_tape b r (o + 1)]; rfl
theorem grown_setCells (w : World) (b o : Nat) (vs : List Value) : w.grownBy (w.setCells b o vs) (some b) :=
  ⟨World.os_setCells w b o vs, setCells_tape b vs o w, World.output_setCells w b o vs, by rw [setCells_size]; exact Nat.le_refl _, fun k hk hne => World.heap_setCells_other w b o vs hk (fun e => hne (by rw [e]))⟩
def DelPost (m : List Int) (w0 : World) (e : Ending) (w' : World) : Prop := ∃ A c, e = .returned (.slice A m.length c) ∧ IRow w' w'.heap.size A m ∧ Below w0.heap.size w0 w'
theorem zeroInt (w : World) : (zeroValue 3).run Try.prog w = .ok (.int .i64 0) w := by kernel_rfl
end Go.Proofs.Ytgdjknpdgajdgaa
namespace Go.Proofs.Ytgdjknpdgajdgaa
open Go.RowKit Go.Maps
set_option maxRecDepth 100000 in
set_option maxHeartbeats 8000000 in
theorem Del_any (A : Option Addr) (c x y : Nat) (zs : List Int) (q : Int → Bool) (w0 w : World) (hn : zs.length ≤ 1000000) (hown : w.ownsRow w0.heap.size 3 1 (.slice A zs.length c) zs.length (iV zs)) (hc : zs.length ≤ c) (_hc2 : c ≤ 9223372036854775807) (hb0 : Below w0.heap.size w0 w)
    (hq : ∀ z ∈ zs, ∀ W, Below w0.heap.size w0 W → Calls Try.prog 27 #[.int .i64 z, .pointer (some ⟨x, 0, none⟩), .pointer (some ⟨y, 0, none⟩)] W fun e w' => e = .returned (.bool (q z)) ∧ Below W.heap.size W w') :
    Calls Try.prog 25 #[.slice A zs.length c, .func (.func 27) #[] #[.pointer (some ⟨x, 0, none⟩), .pointer (some ⟨y, 0, none⟩)]] w (DelPost (zs.filter fun z => !q z) w0) := by
  have HIx := Lib.hid (IndexI_any A c x y zs q w0 w hn (RowAt.of_own hown) hb0 hq)
  have HQ := Lib.hid hq
  have HO := Lib.hid hown
  have HB0 := Lib.hid hb0
  clear hq hown hb0
  by_cases hany : ∃ k, ∃ h : k < zs.length, q zs[k] = true ∧ ∀ j (h : j < zs.length), j < k → q zs[j] = false
  · obtain ⟨k0, hk0, hqk, hno⟩ := hany
    have e1 := idxP_hit hno hk0 hqk
    rw [e1] at HIx
    have HSt := Lib.hid (DlSt.start hno hk0 hqk)
    obtain ⟨g, cap, hv, hgb, hgl⟩ := HO.out.form (by omega)
    obtain ⟨rfl, rfl⟩ : A = some ⟨g, 0, none⟩ ∧ c = cap := by injection hv; exact ⟨by assumption, by assumption⟩
    have HEnd : Hid (∀ (cur : List Int) (i : Nat) (wr : World), DlSt q zs cur i zs.length → wr.ownsRow w0.heap.size 3 1 (.slice (some ⟨g, 0, none⟩) cur.length c) cur.length (iV cur) → Below w0.heap.size w0 wr → DelPost (zs.filter fun z => !q z) w0 (.returned (.slice (some ⟨g, 0, none⟩) i c)) (wr.setCells g i (List.replicate (zs.length - i) (.int .i64 0)))) := Lib.hid fun cur i wr h1 h2 h3 => by
      have hl := h1.len
      have hlt := h1.lt
      have hm := h1.done
      have hi : (zs.filter fun z => !q z).length = i := by rw [← hm, List.length_take]; omega
      refine ⟨some ⟨g, 0, none⟩, c, by rw [hi], ?_, h3.grown (grown_setCells wr g i _) h3.size (fun j e => by cases e; exact hgb)⟩
      refine ⟨by rw [iV_len]; omega, fun _ => ⟨g, 0, rfl, by rw [setCells_size]; exact (h2.lt g rfl).2, fun j u hu => ?_⟩⟩
      have hj : j < i := by
        have := (List.getElem?_eq_some_iff.1 hu).1
        rw [iV_len, hi] at this
        exact this
      rw [World.cell?_setCells_out g _ _ _ _ (fun _ _ => Or.inl (by simpa using hj)), Nat.zero_add, World.ownsRow.cellAt h2 j (by omega)]
      rw [← hm] at hu
      unfold iV at hu ⊢
      rw [List.map_take, List.getElem?_take_of_lt hj] at hu
      exact hu
    generalize hP : DelPost (zs.filter fun z => !q z) w0 = P at *
    have hne1 : ((k0 : Int) == -1) = false := beq_eq_false_iff_ne.2 (by omega)
    clear hP hv hno hqk e1
    obtain ⟨N, hN⟩ : ∃ N, zs.length = N := ⟨_, rfl⟩
    have HN := Lib.hid hN
    rw [hN] at hn hc hk0 HIx ⊢
    clear hN
    go_enter Try.func25, Try.ntmps25
    go_wp2_with (go_at_call 41; refine HIx.out.mono ?_; rintro e w2 ⟨rfl, hb2⟩; have HB2 := Lib.hid (HB0.out.trans (hb2.mono HB0.out.size)); have HO2 := Lib.hid (own_below2 HO.out hb2); clear hb2)
    go_loopg [5, 6, 7] N (fun gk s5 s6 s7 wr => ∃ (i j : Nat) (cur : List Int), s5 = .int .i64 i ∧ s6 = .int .i64 j ∧ j ≤ N ∧ i < j ∧ N - j ≤ gk ∧ Hid (cur.length = N) ∧ Hid (DlSt q zs cur i j) ∧ Hid (wr.ownsRow w0.heap.size 3 1 (.slice (some ⟨g, 0, none⟩) cur.length c) cur.length (iV cur)) ∧ Hid (Below w0.heap.size w0 wr))
    case atStart => exact ⟨k0, k0 + 1, zs, rfl, by go_num, by omega, by omega, by omega, HN.out, HSt.out, HO2.out, HB2.out⟩
    case round =>
      obtain ⟨i, j, cur, rfl, rfl, hjN, hij, hgg, hcl, hD, hO, hB⟩ := hrel
      obtain ⟨wo, rfl⟩ : ∃ wo : World, wo = wr := ⟨_, rfl⟩
      by_cases hlt : j < N
      · have hltI : (j : Int) < (N : Int) := by omega
        have hjz : j < zs.length := by rw [HN.out]; exact hlt
        obtain ⟨hcj, hce⟩ := hD.out.at_ hjz
        have c0 : wo.cell? ⟨g, j, none⟩ = some (.int .i64 cur[j]) := by
          rw [World.ownsRow.cellAt hO.out j (by omega)]; exact iV_get hcj
        rw [hce] at c0
        have HC := Lib.hid (HQ.out zs[j] (List.getElem_mem _) wo hB.out)
        have HSk := Lib.hid (fun h => hD.out.skip hjz h)
        have HPt := Lib.hid (fun h => hD.out.put hjz h)
        generalize zs[j] = z at *
        generalize q z = b at *
        clear hcj hce hjz
        cases b
        · have HD2 := Lib.hid (HPt.out rfl)
          have hiI : (i : Int) < (N : Int) := by omega
          go_wp2_with (go_at_call 27; refine HC.out.mono ?_; rintro e w3 ⟨rfl, hb3⟩; have HO3 := Lib.hid (own_below2 hO.out hb3); have HB3 := Lib.hid (bt hB.out hb3 : Below w0.heap.size w0 w3); (have hci : (w3.cell? ⟨g, i, none⟩).isSome = true := (by rw [World.ownsRow.cellAt HO3.out i (by have := hcl.out; omega), iV_get (by have := hcl.out; omega)]; rfl)); obtain ⟨uo, hui⟩ := Option.isSome_iff_exists.1 hci; (have f1 : w3.frozen? ⟨g, i, none⟩ = false := World.ownsRow.frozenAt HO3.out i); clear hb3 hci)
          go_roundg (gk - 1)
          case measure => omega
          case rel =>
            obtain ⟨r1, r2⟩ := World.ownsRow.stored HO3.out i (.int .i64 z)
            refine ⟨i + 1, j + 1, cur.set i z, by go_num, by go_num, by omega, by omega, by omega, by rw [List.length_set]; exact hcl.out, HD2.out, ?_, ?_⟩
            · rw [List.length_set, show iV (cur.set i z) = (iV cur).set i (.int .i64 z) from by unfold iV; rw [List.map_set]]; exact r1
            · exact HB3.out.grown r2 HB3.out.size (fun r e => by cases e; exact hgb)
        · have HD2 := Lib.hid (HSk.out rfl)
          go_wp2_with (go_at_call 27; refine HC.out.mono ?_; rintro e w3 ⟨rfl, hb3⟩; have HO3 := Lib.hid (own_below2 hO.out hb3); have HB3 := Lib.hid (bt hB.out hb3 : Below w0.heap.size w0 w3); clear hb3)
          go_roundg (gk - 1)
          case measure => omega
          case rel => exact ⟨i, j + 1, cur, rfl, by go_num, by omega, by omega, by omega, hcl.out, HD2.out, HO3.out, HB3.out⟩
      · obtain rfl : j = N := by omega
        have hcur := hcl.out
        have hcl2 : ∀ ty, (Builtin.clear_ #[22] ty #[.slice (some ⟨g, i, none⟩) (j - i) (c - i)]).run Try.prog wo = .ok (.tuple #[]) (wo.setCells g i (List.replicate (j - i) (.int .i64 0))) :=
          fun ty => Lib.run_clear_slice wo _ _ ty _ Try.underlying22 zeroInt rfl rfl g i _ _ (by omega) (fun t ht => by rw [World.ownsRow.cellAt hO.out (i + t) (by omega), iV_get (by omega)]; rfl) (fun t ht => World.ownsRow.frozenAt hO.out (i + t))
        have HE := Lib.hid (HEnd.out cur i wo (by rw [HN.out]; exact hD.out) hO.out hB.out)
        rw [HN.out] at HE
        clear hcur hcl hlt
        go_wp2
        exact HE.out
  · have hno : ∀ n j (h : j < zs.length), j < n → q zs[j] = false := by
      intro n
      induction n with
      | zero => intro j _ h; omega
      | succ n ih =>
        intro j hj hjn
        rcases Nat.lt_or_ge j n with h1 | h1
        · exact ih j hj h1
        · obtain rfl : j = n := by omega
          rw [Bool.eq_false_iff]
          exact fun e => hany ⟨j, hj, e, ih⟩
    have e1 := idxP_miss (l := zs) (q := q) fun j hj => hno (j + 1) j hj (Nat.lt_succ_self j)
    rw [e1] at HIx
    have hf : (zs.filter fun z => !q z) = zs := List.filter_eq_self.2 fun z hz => by
      obtain ⟨j, hj, rfl⟩ := List.getElem_of_mem hz
      rw [hno (j + 1) j hj (Nat.lt_succ_self j)]; rfl
    rw [hf]
    clear hany hno e1 hf
    unfold DelPost
    go_enter Try.func25, Try.ntmps25
    go_wp2_with (go_at_call 41; refine HIx.out.mono ?_; rintro e w2 ⟨rfl, hb2⟩; have HB2 := Lib.hid (HB0.out.trans (hb2.mono HB0.out.size)); have HO2 := Lib.hid (own_below2 HO.out hb2); clear hb2)
    go_ret
    exact ⟨A, c, rfl, RowAt.of_own HO2.out, HB2.out⟩
end Go.Proofs.Ytgdjknpdgajdgaa
