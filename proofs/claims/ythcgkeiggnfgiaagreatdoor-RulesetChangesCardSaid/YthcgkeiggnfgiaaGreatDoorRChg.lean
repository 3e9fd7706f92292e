/-
  Contract of the reference's Changed.
-/
import Derived.Test.YthcgkeiggnfgiaaGreatDoorG15
namespace Go.Proofs.YthcgkeiggnfgiaaGreatDoor
open Go.RowKit
/-- A list of texts that a call has made. -/
def OutT (w : World) (l : List Str) (v : Value) (wr : World) : Prop := wr.ownsRow w.heap.size 9 1 v l.length (l.map strV) ∧ Below w.heap.size w wr
theorem OutT.go {w wr w' : World} {l : List Str} {v : Value} (h : OutT w l v wr) (hb : Below wr.heap.size wr w') : OutT w l v w' := ⟨own_below2 h.1 hb, bt h.2 hb⟩
theorem OutT.start {w wr : World} (h : Below w.heap.size w wr) : OutT w [] (.slice none 0 0) wr := ⟨World.ownsRow_nil _ _ _ _, h⟩
theorem OutT.snoc {w wr w9 : World} {l : List Str} {v : Value} {y : Str} {o : Obj} {A : Option Addr} {c : Nat} (h : OutT w l v wr) (hown : w9.ownsRow w.heap.size 9 1 (.slice A (l.length + 1) c) (l.length + 1) (l.map strV ++ [strV y])) (hg : (wr.alloc o).grownBy w9 v.ownBlock) : OutT w (l ++ [y]) (.slice A (l.length + 1) c) w9 :=
  ⟨by rw [List.length_append, List.length_singleton, List.map_append]; exact hown, (bt h.2 (below_alloc _ _)).grown hg (by have := h.2.size; simp; omega) (fun j e => (h.1.lt j e).1)⟩
theorem difF_of {a b : List At} {n : Str} {x y : Option At} (hx : findF a n = x) (hy : findF b n = y) : difF a b n = decide (x.map (·.val) ≠ y.map (·.val)) := by
  unfold difF lookF; rw [hx, hy]
theorem val_ne (x y : ByteArray) : (x ≠ y) ↔ (x.toList == y.toList) = false := by
  constructor
  · intro h
    cases e : (x.toList == y.toList) with
    | false => rfl
    | true =>
      rw [tl, tl] at e
      have e2 : L x = L y := by simpa using e
      exact absurd (by rw [← bs_L x, ← bs_L y, e2]) h
  · intro h e
    rw [e] at h
    simp at h
set_option maxRecDepth 100000 in
set_option maxHeartbeats 4000000 in
theorem RChanged_any (A B : Option Addr) (ca cb : Nat) (a b : List At) (w : World) (ha : RowAt w w.heap.size A 2 a.length (cellsOf encAt a)) (hb : RowAt w w.heap.size B 2 b.length (cellsOf encAt b)) (hla : a.length ≤ 40000) (hlb : b.length ≤ 40000) (hca : a.length ≤ ca) (hcb : b.length ≤ cb) :
    Calls Tryz.prog 26 #[.slice A a.length ca, .slice B b.length cb] w (TextsPost (changedF a b) w) := by
  have HA := Lib.hid ha
  have HB := Lib.hid hb
  have HNm : Hid (∀ W, W.heap[w.heap.size]? = some (.cells #[.slice A a.length ca, .slice B b.length cb] 31 (0, 0)) → Below w.heap.size w W → Calls Tryz.prog 54 #[.slice (some ⟨w.heap.size, 0, none⟩) 2 2] W (TextsPost (namesS (a.map nm ++ b.map nm)) W)) := Lib.hid fun W hW hb0 => by
    have hd : DirsAt W (some ⟨w.heap.size, 0, none⟩) [⟨A, ca, a⟩, ⟨B, cb, b⟩] := by
      refine ⟨?_, fun d hd => ?_, fun d hd => ?_⟩
      · exact ⟨rfl, fun _ => ⟨w.heap.size, 0, rfl, blk_lt' hW, fun j u hu => by rw [Nat.zero_add, cell_of_row _ _ j _ _ _ hW]; simpa [Ls.v] using hu⟩⟩
      · rcases List.mem_cons.1 hd with rfl | hd
        · exact (ha.keep hb0).up hb0.size
        · obtain rfl := List.mem_singleton.1 hd
          exact (hb.keep hb0).up hb0.size
      · rcases List.mem_cons.1 hd with rfl | hd
        · exact hca
        · obtain rfl := List.mem_singleton.1 hd
          exact hcb
    have h := RNames_any (some ⟨w.heap.size, 0, none⟩) 2 _ W hd (by simp [bulk]; omega)
    have e : allN (lsOf [(⟨A, ca, a⟩ : Ls At), ⟨B, cb, b⟩]) = a.map nm ++ b.map nm := by simp [allN, lsOf]
    rw [e] at h
    exact h
  have HFa : Hid (∀ n W, Below w.heap.size w W → Calls Tryz.prog 55 #[.slice A a.length ca, .string n] W (FindPost (findF a (L n)) W)) := Lib.hid fun n W hW => RFind_any _ _ _ n W ((ha.keep hW).up hW.size) (by omega)
  have HFb : Hid (∀ n W, Below w.heap.size w W → Calls Tryz.prog 55 #[.slice B b.length cb, .string n] W (FindPost (findF b (L n)) W)) := Lib.hid fun n W hW => RFind_any _ _ _ n W ((hb.keep hW).up hW.size) (by omega)
  have hnl : (namesS (a.map nm ++ b.map nm)).length ≤ 80000 := by
    have := len_namesS (a.map nm ++ b.map nm)
    simp at this
    omega
  have HCh : Hid (changedF a b = (namesS (a.map nm ++ b.map nm)).filter (difF a b)) := Lib.hid rfl
  obtain ⟨i0, hi0, hz0, hz1, hz2⟩ := info_parts strInfo
  have Hi0 := Lib.hid hi0
  have Hz0 := Lib.hid hz0
  have Hz1 := Lib.hid hz1
  have Hz2 := Lib.hid hz2
  clear hi0 hz0 hz1 hz2 ha hb
  have HDf : Hid (∀ n x y, findF a n = x → findF b n = y → difF a b n = decide (x.map (·.val) ≠ y.map (·.val))) := Lib.hid fun n x y => difF_of
  go_enter Tryz.func26, Tryz.ntmps26
  go_wp2_with fail
  refine (HNm.out _ (heap_alloc_new w _) (below_alloc w _)).mono ?_
  rintro e w2 hps
  unfold TextsPost at hps
  generalize hns : namesS (a.map nm ++ b.map nm) = ns at *
  generalize hnn : ns.length = N at *
  have HN := Lib.hid hnn
  obtain ⟨A2, c2, rfl, hc2, hr2, hb2⟩ := hps
  have HR2 := Lib.hid hr2
  have HB2 := Lib.hid (bt (below_alloc w _) hb2)
  clear hns hnn hc2 hr2 hb2 HNm
  go_wp2
  go_loopg [6, 7, 8, 9, 10, 11] (N + 1) (fun gk s6 s7 _ _ _ _ wr => ∃ (k : Nat) (v : Value), v = s6 ∧ s7 = .int .i64 k ∧ k + gk = N + 1 ∧ k ≤ N ∧ Hid (OutT w2 ((ns.take k).filter (difF a b)) v wr))
  case atStart => exact ⟨0, _, rfl, rfl, by omega, Nat.zero_le _, OutT.start (Below.refl _ _)⟩
  case round =>
    obtain ⟨k, v, rfl, rfl, hkg, hkN, hO⟩ := hrel
    by_cases hlt : k < N
    · have hltI : (k : Int) < (N : Int) := by omega
      have hk' : k < ns.length := by rw [HN.out]; exact hlt
      have hrow2 := HR2.out
      rw [← HN.out] at hrow2
      obtain ⟨nb, noff, hA2, hnb, hnx⟩ := hrow2.text hk'
      have HFm : Hid ((ns.take (k + 1)).filter (difF a b) = (ns.take k).filter (difF a b) ++ (if difF a b ns[k] then [ns[k]] else [])) := Lib.hid (by rw [List.take_succ_eq_append_getElem hk', List.filter_append]; simp [List.filter_cons])
      generalize ns[k] = n at *
      subst hA2
      have hol : ((ns.take k).filter (difF a b)).length ≤ 80000 := by
        have h1 := List.length_filter_le (difF a b) (ns.take k)
        rw [List.length_take] at h1
        omega
      obtain ⟨ol, hoo⟩ : ∃ ol, (ns.take k).filter (difF a b) = ol := ⟨_, rfl⟩
      rw [hoo] at HFm hol hO
      have hfa := HFa.out (bs n)
      have hfb := HFb.out (bs n)
      rw [L_bs] at hfa hfb
      have HDn := Lib.hid (fun x y => HDf.out n x y)
      obtain ⟨fa, hfae⟩ : ∃ fa, findF a n = fa := ⟨_, rfl⟩
      obtain ⟨fb, hfbe⟩ : ∃ fb, findF b n = fb := ⟨_, rfl⟩
      have HD := Lib.hid (HDn.out fa fb hfae hfbe)
      rw [hfae] at hfa
      rw [hfbe] at hfb
      unfold FindPost foundV at hfa hfb
      have HFa1 := Lib.hid hfa
      have HFb1 := Lib.hid hfb
      have hn0 := hnx wr hO.out.2
      have HNx := Lib.hid hnx
      clear hoo hfae hfbe hfa hfb HDn hnx hrow2 hk'
      cases fa <;> cases fb
      --CASES
      case none.none =>
        dsimp only at HFa1 HFb1
        have HD1 : Hid (difF a b n = false) := Lib.hid (by rw [HD.out]; simp)
        clear HD
        have HF1 : Hid ((ns.take (k + 1)).filter (difF a b) = ol) := Lib.hid (by rw [HFm.out, HD1.out]; simp)
        clear HFm HD1
        go_wp2_with (first
            | (go_at_call_of 55 (Value.slice A a.length ca); refine (HFa1.out _ (bt HB2.out hO.out.2)).mono ?_; rintro e w3 ⟨rfl, hb3⟩; have HB3 := Lib.hid (bt hO.out.2 hb3); have hn3 := HNx.out w3 HB3.out; have hnb3 : nb < w3.heap.size := Nat.lt_of_lt_of_le hnb HB3.out.size)
            | (go_at_call_of 55 (Value.slice B b.length cb); refine (HFb1.out _ (bt HB2.out (bt HB3.out (below_alloc _ _)))).mono ?_; rintro e w4 ⟨rfl, hb4⟩; have HB4 := Lib.hid (bt HB3.out (bt (below_alloc _ _) hb4)); have hn4 := HNx.out w4 HB4.out; have hnb4 : nb < w4.heap.size := Nat.lt_of_lt_of_le hnb HB4.out.size; have hw34 : w3.heap.size < w4.heap.size := (by have := hb4.size; simp at this; omega); have hw24 := HB4.out.size; have hc4 : w4.cell? ⟨w3.heap.size, 1, none⟩ = some (.string ⟨#[]⟩) := (by rw [cell_of_row _ _ 1 _ _ _ ((hb4.block w3.heap.size (by simp)).trans (heap_alloc_new w3 _))]; rfl); have HO4 := Lib.hid (hO.out.go (bt hb3 (bt (below_alloc _ _) (bt hb4 (below_alloc w4 (.cells #[.string ⟨#[]⟩, .string ⟨#[]⟩] 34)))))); clear hb4 hb3)
            | (at_builtin; refine wpList_append_lies _ rfl _ _ _ (by rfl) w2.heap.size 9 i0 _ 1 16 Tryz.underlying45 Hi0.out Hz0.out Hz1.out Hz2.out rfl (by omega) v ol.length (ol.map strV) (by rfl) (HO4.out.1.alloc _) _ 1 1 [strV n] (by rfl) (by rfl) (by exact World.news_of_block (heap_alloc2_new w4 _ _)) (by simp [strV, Value.oneCell']) (by omega) (by unfold maxLen; omega) (by omega) (by simp; omega) _ rfl ?_; intro g2 cap w9 hown2 hgrow2 hat2 hlt2; have HO9 := Lib.hid (HO4.out.snoc hown2 hgrow2); clear hown2 hgrow2 hat2 hlt2))
        go_wp2
        go_roundg (gk - 1)
        case measure => omega
        case rel => exact ⟨k + 1, _, rfl, by go_num, by omega, by omega, by rw [HF1.out]; exact HO4.out⟩
      case none.some y =>
        dsimp only at HFa1 HFb1
        have HD1 : Hid (difF a b n = true) := Lib.hid (by rw [HD.out]; simp)
        clear HD
        have HF1 : Hid ((ns.take (k + 1)).filter (difF a b) = ol ++ [n]) := Lib.hid (by rw [HFm.out, HD1.out]; simp)
        clear HFm HD1
        go_wp2_with (first
            | (go_at_call_of 55 (Value.slice A a.length ca); refine (HFa1.out _ (bt HB2.out hO.out.2)).mono ?_; rintro e w3 ⟨rfl, hb3⟩; have HB3 := Lib.hid (bt hO.out.2 hb3); have hn3 := HNx.out w3 HB3.out; have hnb3 : nb < w3.heap.size := Nat.lt_of_lt_of_le hnb HB3.out.size)
            | (go_at_call_of 55 (Value.slice B b.length cb); refine (HFb1.out _ (bt HB2.out (bt HB3.out (below_alloc _ _)))).mono ?_; rintro e w4 ⟨rfl, hb4⟩; have HB4 := Lib.hid (bt HB3.out (bt (below_alloc _ _) hb4)); have hn4 := HNx.out w4 HB4.out; have hnb4 : nb < w4.heap.size := Nat.lt_of_lt_of_le hnb HB4.out.size; have hw34 : w3.heap.size < w4.heap.size := (by have := hb4.size; simp at this; omega); have hw24 := HB4.out.size; have hc4 : w4.cell? ⟨w3.heap.size, 1, none⟩ = some (.string ⟨#[]⟩) := (by rw [cell_of_row _ _ 1 _ _ _ ((hb4.block w3.heap.size (by simp)).trans (heap_alloc_new w3 _))]; rfl); have HO4 := Lib.hid (hO.out.go (bt hb3 (bt (below_alloc _ _) (bt hb4 (below_alloc w4 (.cells #[.string y.name, .string y.val] 34)))))); clear hb4 hb3)
            | (at_builtin; refine wpList_append_lies _ rfl _ _ _ (by rfl) w2.heap.size 9 i0 _ 1 16 Tryz.underlying45 Hi0.out Hz0.out Hz1.out Hz2.out rfl (by omega) v ol.length (ol.map strV) (by rfl) (HO4.out.1.alloc _) _ 1 1 [strV n] (by rfl) (by rfl) (by exact World.news_of_block (heap_alloc2_new w4 _ _)) (by simp [strV, Value.oneCell']) (by omega) (by unfold maxLen; omega) (by omega) (by simp; omega) _ rfl ?_; intro g2 cap w9 hown2 hgrow2 hat2 hlt2; have HO9 := Lib.hid (HO4.out.snoc hown2 hgrow2); clear hown2 hgrow2 hat2 hlt2))
        go_wp2
        go_roundg (gk - 1)
        case measure => omega
        case rel => exact ⟨k + 1, _, rfl, by go_num, by omega, by omega, by rw [HF1.out]; exact HO9.out⟩
      case some.none x =>
        dsimp only at HFa1 HFb1
        have HD1 : Hid (difF a b n = true) := Lib.hid (by rw [HD.out]; simp)
        clear HD
        have HF1 : Hid ((ns.take (k + 1)).filter (difF a b) = ol ++ [n]) := Lib.hid (by rw [HFm.out, HD1.out]; simp)
        clear HFm HD1
        go_wp2_with (first
            | (go_at_call_of 55 (Value.slice A a.length ca); refine (HFa1.out _ (bt HB2.out hO.out.2)).mono ?_; rintro e w3 ⟨rfl, hb3⟩; have HB3 := Lib.hid (bt hO.out.2 hb3); have hn3 := HNx.out w3 HB3.out; have hnb3 : nb < w3.heap.size := Nat.lt_of_lt_of_le hnb HB3.out.size)
            | (go_at_call_of 55 (Value.slice B b.length cb); refine (HFb1.out _ (bt HB2.out (bt HB3.out (below_alloc _ _)))).mono ?_; rintro e w4 ⟨rfl, hb4⟩; have HB4 := Lib.hid (bt HB3.out (bt (below_alloc _ _) hb4)); have hn4 := HNx.out w4 HB4.out; have hnb4 : nb < w4.heap.size := Nat.lt_of_lt_of_le hnb HB4.out.size; have hw34 : w3.heap.size < w4.heap.size := (by have := hb4.size; simp at this; omega); have hw24 := HB4.out.size; have hc4 : w4.cell? ⟨w3.heap.size, 1, none⟩ = some (.string x.val) := (by rw [cell_of_row _ _ 1 _ _ _ ((hb4.block w3.heap.size (by simp)).trans (heap_alloc_new w3 _))]; rfl); have HO4 := Lib.hid (hO.out.go (bt hb3 (bt (below_alloc _ _) (bt hb4 (below_alloc w4 (.cells #[.string ⟨#[]⟩, .string ⟨#[]⟩] 34)))))); clear hb4 hb3)
            | (at_builtin; refine wpList_append_lies _ rfl _ _ _ (by rfl) w2.heap.size 9 i0 _ 1 16 Tryz.underlying45 Hi0.out Hz0.out Hz1.out Hz2.out rfl (by omega) v ol.length (ol.map strV) (by rfl) (HO4.out.1.alloc _) _ 1 1 [strV n] (by rfl) (by rfl) (by exact World.news_of_block (heap_alloc2_new w4 _ _)) (by simp [strV, Value.oneCell']) (by omega) (by unfold maxLen; omega) (by omega) (by simp; omega) _ rfl ?_; intro g2 cap w9 hown2 hgrow2 hat2 hlt2; have HO9 := Lib.hid (HO4.out.snoc hown2 hgrow2); clear hown2 hgrow2 hat2 hlt2))
        go_wp2
        go_roundg (gk - 1)
        case measure => omega
        case rel => exact ⟨k + 1, _, rfl, by go_num, by omega, by omega, by rw [HF1.out]; exact HO9.out⟩
      case some.some x y =>
        dsimp only at HFa1 HFb1
        cases hq : (x.val.toList == y.val.toList)
        · have hqn : (x.val.toList != y.val.toList) = true := by simp only [bne, hq]; rfl
          have HD1 : Hid (difF a b n = true) := Lib.hid (by rw [HD.out]; simp; exact (val_ne _ _).2 hq)
          clear HD
          have HF1 : Hid ((ns.take (k + 1)).filter (difF a b) = ol ++ [n]) := Lib.hid (by rw [HFm.out, HD1.out]; simp)
          clear HFm HD1
          go_wp2_with (first
            | (go_at_call_of 55 (Value.slice A a.length ca); refine (HFa1.out _ (bt HB2.out hO.out.2)).mono ?_; rintro e w3 ⟨rfl, hb3⟩; have HB3 := Lib.hid (bt hO.out.2 hb3); have hn3 := HNx.out w3 HB3.out; have hnb3 : nb < w3.heap.size := Nat.lt_of_lt_of_le hnb HB3.out.size)
            | (go_at_call_of 55 (Value.slice B b.length cb); refine (HFb1.out _ (bt HB2.out (bt HB3.out (below_alloc _ _)))).mono ?_; rintro e w4 ⟨rfl, hb4⟩; have HB4 := Lib.hid (bt HB3.out (bt (below_alloc _ _) hb4)); have hn4 := HNx.out w4 HB4.out; have hnb4 : nb < w4.heap.size := Nat.lt_of_lt_of_le hnb HB4.out.size; have hw34 : w3.heap.size < w4.heap.size := (by have := hb4.size; simp at this; omega); have hw24 := HB4.out.size; have hc4 : w4.cell? ⟨w3.heap.size, 1, none⟩ = some (.string x.val) := (by rw [cell_of_row _ _ 1 _ _ _ ((hb4.block w3.heap.size (by simp)).trans (heap_alloc_new w3 _))]; rfl); have HO4 := Lib.hid (hO.out.go (bt hb3 (bt (below_alloc _ _) (bt hb4 (below_alloc w4 (.cells #[.string y.name, .string y.val] 34)))))); clear hb4 hb3)
            | (at_builtin; refine wpList_append_lies _ rfl _ _ _ (by rfl) w2.heap.size 9 i0 _ 1 16 Tryz.underlying45 Hi0.out Hz0.out Hz1.out Hz2.out rfl (by omega) v ol.length (ol.map strV) (by rfl) (HO4.out.1.alloc _) _ 1 1 [strV n] (by rfl) (by rfl) (by exact World.news_of_block (heap_alloc2_new w4 _ _)) (by simp [strV, Value.oneCell']) (by omega) (by unfold maxLen; omega) (by omega) (by simp; omega) _ rfl ?_; intro g2 cap w9 hown2 hgrow2 hat2 hlt2; have HO9 := Lib.hid (HO4.out.snoc hown2 hgrow2); clear hown2 hgrow2 hat2 hlt2))
          go_wp2
          go_roundg (gk - 1)
          case measure => omega
          case rel => exact ⟨k + 1, _, rfl, by go_num, by omega, by omega, by rw [HF1.out]; exact HO9.out⟩
        · have hqn : (x.val.toList != y.val.toList) = false := by simp only [bne, hq]; rfl
          have HD1 : Hid (difF a b n = false) := Lib.hid (by rw [HD.out]; simp; exact Decidable.not_not.1 (fun h => by rw [(val_ne _ _).1 h] at hq; cases hq))
          clear HD
          have HF1 : Hid ((ns.take (k + 1)).filter (difF a b) = ol) := Lib.hid (by rw [HFm.out, HD1.out]; simp)
          clear HFm HD1
          go_wp2_with (first
            | (go_at_call_of 55 (Value.slice A a.length ca); refine (HFa1.out _ (bt HB2.out hO.out.2)).mono ?_; rintro e w3 ⟨rfl, hb3⟩; have HB3 := Lib.hid (bt hO.out.2 hb3); have hn3 := HNx.out w3 HB3.out; have hnb3 : nb < w3.heap.size := Nat.lt_of_lt_of_le hnb HB3.out.size)
            | (go_at_call_of 55 (Value.slice B b.length cb); refine (HFb1.out _ (bt HB2.out (bt HB3.out (below_alloc _ _)))).mono ?_; rintro e w4 ⟨rfl, hb4⟩; have HB4 := Lib.hid (bt HB3.out (bt (below_alloc _ _) hb4)); have hn4 := HNx.out w4 HB4.out; have hnb4 : nb < w4.heap.size := Nat.lt_of_lt_of_le hnb HB4.out.size; have hw34 : w3.heap.size < w4.heap.size := (by have := hb4.size; simp at this; omega); have hw24 := HB4.out.size; have hc4 : w4.cell? ⟨w3.heap.size, 1, none⟩ = some (.string x.val) := (by rw [cell_of_row _ _ 1 _ _ _ ((hb4.block w3.heap.size (by simp)).trans (heap_alloc_new w3 _))]; rfl); have HO4 := Lib.hid (hO.out.go (bt hb3 (bt (below_alloc _ _) (bt hb4 (below_alloc w4 (.cells #[.string y.name, .string y.val] 34)))))); clear hb4 hb3)
            | (at_builtin; refine wpList_append_lies _ rfl _ _ _ (by rfl) w2.heap.size 9 i0 _ 1 16 Tryz.underlying45 Hi0.out Hz0.out Hz1.out Hz2.out rfl (by omega) v ol.length (ol.map strV) (by rfl) (HO4.out.1.alloc _) _ 1 1 [strV n] (by rfl) (by rfl) (by exact World.news_of_block (heap_alloc2_new w4 _ _)) (by simp [strV, Value.oneCell']) (by omega) (by unfold maxLen; omega) (by omega) (by simp; omega) _ rfl ?_; intro g2 cap w9 hown2 hgrow2 hat2 hlt2; have HO9 := Lib.hid (HO4.out.snoc hown2 hgrow2); clear hown2 hgrow2 hat2 hlt2))
          go_wp2
          go_roundg (gk - 1)
          case measure => omega
          case rel => exact ⟨k + 1, _, rfl, by go_num, by omega, by omega, by rw [HF1.out]; exact HO4.out⟩
    · obtain rfl : k = N := by omega
      have he : (ns.take k).filter (difF a b) = changedF a b := by rw [HCh.out, List.take_of_length_le (by rw [HN.out]; exact Nat.le_refl _)]
      go_wp2
      go_ret
      rw [← he]
      exact TextsPost.of_own hO.out.1 rfl rfl (bt HB2.out hO.out.2)
end Go.Proofs.YthcgkeiggnfgiaaGreatDoor
