/-
  The state of rules that a function makes beside the tape.
  Contract of coldplugworld's Rules: some rules that are linked.
-/
import Derived.Test.YtgdjknpdgajdgaaG12
import Derived.Test.YtgdjknpdgajdgaaG05
import Derived.Test.YtgdjknpdgajdgaaTerms
import Derived.Test.YtgdjknpdgajdgaaRLink
namespace Go.Proofs.Ytgdjknpdgajdgaa
open Go.RowKit
/-- Rules that a function makes beside the tape. -/
structure RlSt (w0 : World) (b n p d : Nat) (w : World) (v : Value) (rl : List Rl) (W : World) : Prop where
  nx : TNx w0 b n p d w W
  own : W.ownsRow w.heap.size 46 3 v rl.length (cellsOf encRl rl)
  inn : InOff 4 encTm Rl.tms W W.heap.size v.ownBlock rl
  inb : InOff 4 encTm Rl.tms W W.heap.size (some b) rl
  lo : w0.heap.size ≤ w.heap.size
section
variable {w0 w W W1 w9 : World} {b n p d d' : Nat} {v : Value} {rl : List Rl}
theorem RlSt.start (h : TSt w0 b n p d w) : RlSt w0 b n p d w (.slice none 0 0) [] w := ⟨TNx.refl h, World.ownsRow_nil _ _ _ _, InOff.nil, InOff.nil, h.size⟩
theorem RlSt.far (h : RlSt w0 b n p d w v rl W) : v.ownBlock ≠ some b := fun e => by
  have h1 := (h.own.lt b e).1
  have h2 := h.nx.st.lt
  have h3 := h.lo
  omega
theorem RlSt.go (h : RlSt w0 b n p d w v rl W) (hT : TNx w0 b n p d' W W1) : RlSt w0 b n p d' w v rl W1 := by
  have h4 := h.inb.grown (Nat.le_refl _) hT.gr
  have hs := hT.gr.size
  exact ⟨h.nx.trans hT, h.own.kept hT.gr (Or.inr h.far), (h.inn.with h4 (Nat.le_refl _)).up hs, h4.up hs, h.lo⟩
theorem RlSt.more (h : RlSt w0 b n p d w v rl W) (hd : d ≤ d') : RlSt w0 b n p d' w v rl W := ⟨h.nx.more hd, h.own, h.inn, h.inb, h.lo⟩
theorem RlSt.push {y : Rl} {g2 c : Nat} (h : RlSt w0 b n p d w v rl W) (hb : Below W.heap.size W W1) (hy : RowAt W W.heap.size y.tms.A 4 y.tms.l.length (cellsOf encTm y.tms.l)) (hyo : ∀ a, y.tms.A = some a → v.ownBlock ≠ some a.block ∧ a.block ≠ b)
    (hown : w9.ownsRow w.heap.size 46 3 (.slice (some ⟨g2, 0, none⟩) (rl.length + 1) c) (rl.length + 1) (cellsOf encRl rl ++ encRl y)) (hg : W1.grownBy w9 v.ownBlock) (hat : v.ownBlock = some g2 ∨ g2 = W1.heap.size) :
    RlSt w0 b n p d w (.slice (some ⟨g2, 0, none⟩) (rl.length + 1) c) (rl ++ [y]) w9 := by
  have h1 : InOff 4 encTm Rl.tms W W.heap.size v.ownBlock (rl ++ [y]) := h.inn.snoc ⟨hy, fun _ a e e2 => (hyo a e).1 e2.symm⟩
  have h2 : InOff 4 encTm Rl.tms W W.heap.size (some b) (rl ++ [y]) := h.inb.snoc ⟨hy, fun _ a e e2 => (hyo a e).2 (Option.some.inj e2)⟩
  have hs := hb.size
  have h4 := (h1.keep hb).moved (row' := some g2) hs hg (by
    rcases hat with e | e
    · exact Or.inl e.symm
    · right; intro g eg; injection eg with eg; omega)
  have hs9 := hg.size
  refine ⟨(h.nx.grownR (grown_below hb none) (fun _ e => by cases e)).grownR hg (fun j e => by have := (h.own.lt j e).1; have := h.lo; omega), own_snoc hown, h4.up (by omega), (h2.with h4 (Nat.le_refl _)).up (by omega), h.lo⟩
end
end Go.Proofs.Ytgdjknpdgajdgaa
namespace Go.Proofs.Ytgdjknpdgajdgaa
open Go.RowKit
theorem kept_six {rl rl2 : List Rl} (hz : ∀ x ∈ rl, 1 ≤ x.tms.l.length ∧ x.tms.l.length ≤ 6 ∧ ∀ t ∈ x.tms.l, TmSmall 60 t) (hp : rl2.map Rl.p = (linkF (rl.map Rl.p)).1) : ∀ x ∈ rl2, 1 ≤ x.tms.l.length ∧ x.tms.l.length ≤ 6 ∧ ∀ t ∈ x.tms.l, TmSmall 60 t := fun x hx => by
  obtain ⟨y, hy, he⟩ := List.mem_map.1 (linkF_sub _ x.p (hp ▸ List.mem_map_of_mem hx))
  have e : y.tms.l = x.tms.l := congrArg Rp.tms he
  rw [← e]
  exact hz y hy
theorem kept_len {rl rl2 : List Rl} (hp : rl2.map Rl.p = (linkF (rl.map Rl.p)).1) : rl2.length ≤ rl.length := by
  have h1 := linkF_len (rl.map Rl.p)
  have h2 := congrArg List.length hp
  rw [List.length_map] at h1 h2
  omega
theorem TNx.below5 {w0 w W W1 : World} {b n p d : Nat} (h : TNx w0 b n p d w W) (hb : Below W.heap.size W W1) : TNx w0 b n p d w W1 := h.grownR (grown_below hb none) (fun _ e => by cases e)
def SomeWRls (w0 : World) (b n p d : Nat) (w : World) (e : Ending) (w' : World) : Prop := ∃ A c rl, e = .returned (.slice A rl.length c) ∧ rl.length ≤ 12 ∧ (∀ x ∈ rl, 1 ≤ x.tms.l.length ∧ x.tms.l.length ≤ 6 ∧ ∀ t ∈ x.tms.l, TmSmall 60 t) ∧ RowOff w' w'.heap.size (some b) A 3 rl.length (cellsOf encRl rl) ∧ InOff 4 encTm Rl.tms w' w'.heap.size (some b) rl ∧ TNx w0 b n p d w w'
set_option maxRecDepth 100000 in
set_option maxHeartbeats 8000000 in
theorem Rules_any {w0 w : World} {b n p d : Nat} (h : TSt w0 b n p d w) {m : Nat} (hm : m ≤ 12) (h3 : p + d ≤ 50000) :
    Calls Try.prog 5 #[.pointer (some ⟨b, 0, none⟩), .int .i64 m] w (SomeWRls w0 b n p (d + 1300) w) := by
  have H := Lib.hid h
  have hlb := h.lt
  have hws := h.size
  clear h
  obtain ⟨i0, hi0, hz0, hz1, hz2⟩ := info_parts rlInfo
  have Hi0 := Lib.hid hi0
  have Hz0 := Lib.hid hz0
  have Hz1 := Lib.hid hz1
  have Hz2 := Lib.hid hz2
  clear hi0 hz0 hz1 hz2
  go_enter Try.func5, Try.ntmps5
  go_wp2_with fail
  (with_reducible refine (Next_t (n := n) (p := p) _ H.out (by omega) (by omega) (by omega)).mono ?_)
  rintro e w1 ⟨r, r0, r1, rfl, hT1⟩
  obtain ⟨rn, rfl⟩ := Int.eq_ofNat_of_zero_le r0
  have hrn : rn ≤ 12 := by omega
  have HT1 := Lib.hid ((RlSt.start H.out).go hT1)
  clear hT1 r0 r1
  go_wp2_with fail
  go_loopg [5, 6] 13 (fun gk s3 s4 wr => ∃ (k : Nat) (A : Option Addr) (c : Nat) (rl : List Rl) (D : Nat), s3 = .slice A rl.length c ∧ s4 = .int .i64 k ∧ k + 1 ≤ gk ∧ k ≤ 12 ∧ rl.length + k ≤ 12 ∧ D + 101 * k ≤ d + 1213 ∧ Hid (∀ x ∈ rl, 1 ≤ x.tms.l.length ∧ x.tms.l.length ≤ 6 ∧ ∀ t ∈ x.tms.l, TmSmall 60 t) ∧ Hid (RlSt w0 b n p D w (.slice A rl.length c) rl wr))
  case atStart => exact ⟨rn, none, 0, [], d + 1, rfl, rfl, by omega, hrn, by simp; omega, by omega, (fun x hx => by cases hx), HT1.out⟩
  case round =>
    obtain ⟨k, A, c, rl, D, rfl, rfl, hkg, hk7, hlk, hD, hZ, hR⟩ := hrel
    by_cases hk : 0 < k
    · have hkI : (0 : Int) < (k : Int) := by omega
      go_wp2_with fail
      (with_reducible refine (One_b (n := n) (p := p) 60 _ _ _ _ _ hR.out.nx.st (by decide) (by simp) (by decide) (by decide) (by simp) (by omega)).mono ?_)
      rintro e w2 ⟨y, hy, rfl, hT2⟩
      have HR2 := Lib.hid (hR.out.go hT2)
      clear hT2
      go_wp2_with fail
      (with_reducible refine (Terms_any (n := n) (p := p) HR2.out.nx.st (by omega)).mono ?_)
      rintro e w3 ⟨tv, l, rfl, hl1, hl6, hTT⟩
      obtain ⟨TA, tc, rfl⟩ := own_slice hTT.row.own
      have HR3 := Lib.hid (HR2.out.go hTT.row.nx)
      have HTr := Lib.hid (RowAt.of_own hTT.row.own)
      have HTo : Hid (∀ a, TA = some a → (Value.slice A rl.length c).ownBlock ≠ some a.block ∧ a.block ≠ b) := Lib.hid fun a ha => by
        have h1 := (hTT.row.own.lt a.block (by rw [ha]; rfl)).1
        have h2 := HR2.out.nx.gr.size
        exact ⟨fun e => by have := (HR2.out.own.lt _ e).2; omega, by omega⟩
      have HZ2 : Hid (∀ x ∈ rl ++ [(⟨y, (rl.length : Int) + 1, ⟨TA, tc, l⟩⟩ : Rl)], 1 ≤ x.tms.l.length ∧ x.tms.l.length ≤ 6 ∧ ∀ t ∈ x.tms.l, TmSmall 60 t) := Lib.hid fun x hx => by
        rcases List.mem_append.1 hx with hx | hx
        · exact hZ.out x hx
        · obtain rfl := List.mem_singleton.1 hx; exact ⟨hl1, hl6, hTT.small⟩
      have hw3 := HR3.out.nx.gr.size
      clear hTT
      go_wp2_with (at_builtin; go_loud (refine wpList_append_lies _ rfl _ _ _ (by rfl) w.heap.size 46 i0 _ 3 48 Try.underlying30 Hi0.out Hz0.out Hz1.out Hz2.out rfl (by omega) (.slice A rl.length c) rl.length (cellsOf encRl rl) (by rfl) (HR3.out.own.alloc _) _ 1 1 (encRl (⟨y, (rl.length : Int) + 1, ⟨TA, tc, l⟩⟩ : Rl)) (by rfl) (by rfl) (by exact World.news_of_block (heap_alloc_new _ _)) (encRl_one _) (by omega) (by unfold maxLen; omega) (by omega) (by simp; omega) _ rfl ?_; intro g2 cap w9 hown2 hgrow2 hat2 hlt2; have HR9 := Lib.hid (HR3.out.push (y := (⟨y, (rl.length : Int) + 1, ⟨TA, tc, l⟩⟩ : Rl)) (below_alloc _ _) HTr.out HTo.out hown2 hgrow2 hat2); clear hown2 hgrow2 hat2 hlt2))
      go_roundg (gk - 1)
      case measure => omega
      case rel => exact ⟨k - 1, _, _, rl ++ [(⟨y, (rl.length : Int) + 1, ⟨TA, tc, l⟩⟩ : Rl)], D + 101, by rw [List.length_append]; rfl, by rw [show ((k - 1 : Nat) : Int) = (k : Int) - 1 from by omega], by omega, by omega, by rw [List.length_append]; simp; omega, by omega, HZ2.out, by rw [List.length_append]; exact HR9.out⟩
    · obtain rfl : k = 0 := by omega
      have HL := Lib.hid (RLink_any A c rl wr (by omega) (fun x hx => by have := (hZ.out x hx).2.1; omega) (RowAt.of_own hR.out.own) (hR.out.inn.at_))
      have hmore := Lib.hid (hR.out.nx.more (by omega : D ≤ d + 1300))
      unfold LinkPost at HL
      go_wp2_with fail
      refine HL.out.mono ?_
      rintro e w5 ⟨A5, c5, A5f, c5f, rl5, fl5, rfl, hp5, hf5, hr5, hrf5, hi5, hb5, _, hfar, hT⟩
      have HZ5 := Lib.hid (kept_six hZ.out hp5)
      have hl5 := kept_len hp5
      have HS5 := Lib.hid (hmore.out.below5 hb5)
      have hbw : b < wr.heap.size := by have := hR.out.nx.gr.size; have := hR.out.lo; omega
      have HR5 : Hid (RowOff w5 w5.heap.size (some b) A5 3 rl5.length (cellsOf encRl rl5)) := Lib.hid ⟨hr5, fun _ a ha e => by have := hfar a ha; injection e with e; omega⟩
      have HI5 : Hid (InOff 4 encTm Rl.tms w5 w5.heap.size (some b) rl5) := Lib.hid fun y hy => ⟨hi5 y hy, fun _ a ha e => by
        obtain ⟨x, hx, hxa⟩ := hT y hy a ha
        exact (hR.out.inb x hx).off (by have := (hZ.out x hx).1; omega) a hxa e⟩
      clear hp5 hf5 hr5 hrf5 hi5 hb5 hfar hT hbw
      go_wp2
      go_ret
      exact ⟨A5, c5, rl5, rfl, by omega, HZ5.out, HR5.out, HI5.out, HS5.out⟩
end Go.Proofs.Ytgdjknpdgajdgaa
