/-
  Contract of coldplugworld's Device for an empty tree: some device of short texts.
-/
import Derived.Test.YtgdjknpdgajdgaaG18
import Derived.Test.YtgdjknpdgajdgaaRDevB
import Derived.Deep.RegionHeld3
namespace Go.Proofs.Ytgdjknpdgajdgaa
open Go.RowKit
abbrev dvZ : Array Value := #[.int .i64 0, .int .i64 0, .string ⟨#[]⟩, .string ⟨#[]⟩, .string ⟨#[]⟩, .string ⟨#[]⟩, .string ⟨#[]⟩, .int .i64 0, .int .i64 0, .slice none 0 0]
theorem dvSize : (Try.prog.info? 25).map (·.size) = some 10 := by kernel_rfl
/-- A device under way, beside the tape. -/
structure DvS (w0 : World) (b n p d : Nat) (w : World) (R : Nat) (v : Value) (l : List At) (B : Nat) (cs : Array Value) (W : World) : Prop where
  row : ARow w0 b n p d w v l W
  bx : W.heap[B]? = some (.cells cs 25 (0, 0))
  rs : W.heap[R]? = some (.cells dvZ 25 (0, 0))
  nB : v.ownBlock ≠ some B
  lB : w.heap.size ≤ B
  lR : R < w.heap.size
  nR : R ≠ b
section
variable {w0 w W W1 : World} {b n p d d' B R : Nat} {v v' : Value} {l m : List At} {cs : Array Value}
theorem DvS.bne (h : DvS w0 b n p d w R v l B cs W) : b < w.heap.size := by have := h.row.nx.st.lt; have := h.row.lo; omega
theorem DvS.go (h : DvS w0 b n p d w R v l B cs W) (hT : TNx w0 b n p d' W W1) : DvS w0 b n p d' w R v l B cs W1 := by
  have hb := h.bne
  have hl := h.lB
  exact ⟨h.row.go hT, hT.blk h.bx (by omega), hT.blk h.rs h.nR, h.nB, hl, h.lR, h.nR⟩
theorem DvS.set (h : DvS w0 b n p d w R v l B cs W) (i : Nat) (u : Value) : DvS w0 b n p d w R v l B (cs.setIfInBounds i u) (W.setCell ⟨B, i, none⟩ u) := by
  have hl := h.lB
  have hr := h.lR
  have hw := h.row.lo
  exact ⟨⟨h.row.nx.grownR (grown_set W B i u) (fun j e => by injection e with e; omega), h.row.own.kept (grown_set W B i u) (Or.inr h.nB), hw⟩, by rw [heap_setCell_same _ _ _ _ _ _ h.bx], (heap_setCell_other W ⟨B, i, none⟩ _ u (by show _ ≠ B; omega)).trans h.rs, h.nB, hl, hr, h.nR⟩
theorem DvS.below (h : DvS w0 b n p d w R v l B cs W) (hb : Below W.heap.size W W1) : DvS w0 b n p d w R v l B cs W1 :=
  ⟨h.row.below hb, (hb.block _ (blk_lt' h.bx)).trans h.bx, (hb.block _ (blk_lt' h.rs)).trans h.rs, h.nB, h.lB, h.lR, h.nR⟩
theorem DvS.attrs (h : DvS w0 b n p d w R v l B cs W) (hown : W1.ownsRow W.heap.size 87 2 v' m.length (cellsOf encAt m)) (hb : Below W.heap.size W W1) : DvS w0 b n p d w R v' m B cs W1 :=
  ⟨ARow.set h.row hown hb, (hb.block _ (blk_lt' h.bx)).trans h.bx, (hb.block _ (blk_lt' h.rs)).trans h.rs, fun e => by have h1 := (hown.lt B e).1; have := blk_lt' h.bx; omega, h.lB, h.lR, h.nR⟩
theorem DvS.start (h : ARow w0 b n p d w v l W) (hr : W.heap[R]? = some (.cells dvZ 25 (0, 0))) (hR : R < w.heap.size) (hb : R ≠ b) (cs : Array Value) : DvS w0 b n p d w R v l W.heap.size cs (W.alloc (.cells cs 25)) :=
  ⟨h.alloc _, heap_alloc_new _ _, (heap_alloc_old _ _ (blk_lt' hr)).trans hr, fun e => by have := (h.own.lt _ e).2; omega, h.nx.gr.size, hR, hb⟩
theorem DvS.more (h : DvS w0 b n p d w R v l B cs W) (hd : d ≤ d') : DvS w0 b n p d' w R v l B cs W := ⟨h.row.more hd, h.bx, h.rs, h.nB, h.lB, h.lR, h.nR⟩
/-- The cells of the box. -/
theorem DvS.cl (h : DvS w0 b n p d w R v l B cs W) {j : Nat} {u : Value} (hj : cs[j]? = some u) : W.cell? ⟨B, j, none⟩ = some u := cellOf h.bx hj
theorem DvS.fz (h : DvS w0 b n p d w R v l B cs W) (j : Nat) : W.frozen? ⟨B, j, none⟩ = false := frozen_of_row _ _ _ _ _ h.bx
end
/-- A device of short texts. -/
structure DvSm (x : Dv) : Prop where
  og : x.og.size ≤ 200
  sb : x.sb.size ≤ 200
  dr : x.dr.size ≤ 200
  ats : ∀ y ∈ x.ats.l, y.val.size ≤ 200
  len : x.ats.l.length ≤ 4
theorem DvSm.ok {x : Dv} (h : DvSm x) : DvOk x := ⟨by have := h.og; omega, by have := h.sb; omega, by have := h.dr; omega, fun y hy => by have := h.ats y hy; omega, by have := h.len; omega⟩
def SomeDv (w0 : World) (b n p d : Nat) (w : World) (e : Ending) (w' : World) : Prop := ∃ x : Dv, DvSm x ∧ e = .returned (dvV x) ∧ DvAt w' w'.heap.size x ∧ TNx w0 b n p d w w' ∧ ∀ a, x.ats.A = some a → w.heap.size ≤ a.block
def contA : Array Value := #[.string ⟨#[]⟩, .string ⟨#[102, 115, 58, 117, 49, 58, 114, 111, 111, 116]⟩, .string ⟨#[102, 115, 58, 117, 50, 58]⟩, .string ⟨#[114, 97, 105, 100, 58, 114, 49, 58, 49, 47, 50, 47, 49, 40, 102, 115, 58, 117, 51, 58, 100, 97, 116, 97, 41]⟩, .string ⟨#[114, 97, 105, 100, 58, 114, 49, 58, 50, 47, 50, 47, 49, 40, 102, 115, 58, 117, 51, 58, 100, 97, 116, 97, 41]⟩, .string ⟨#[99, 114, 121, 112, 116, 58, 99, 49, 40, 102, 115, 58, 117, 52, 58, 41]⟩, .string ⟨#[112, 118, 58, 103, 49, 58, 49, 47, 49, 40, 102, 115, 58, 117, 53, 58, 44, 41]⟩, .string ⟨#[116, 97, 98, 108, 101, 58, 116, 49, 40, 102, 115, 58, 117, 54, 58, 98, 111, 111, 116, 44, 114, 97, 105, 100, 58, 114, 49, 58, 50, 47, 50, 47, 49, 40, 102, 115, 58, 117, 51, 58, 100, 97, 116, 97, 41, 41]⟩, .string ⟨#[98, 97, 100, 40]⟩]
theorem contA_str : strCells 60 contA = true := by decide
set_option maxRecDepth 100000 in
theorem Contents_any (w : World) : Calls Try.prog 24 #[] w fun e w' => e = .returned (.slice (some ⟨w.heap.size, 0, none⟩) 9 9) ∧ w' = w.alloc (.cells contA 9) := by
  go_enter Try.func24, Try.ntmps24
  go_wp2
  go_ret
  exact ⟨rfl, rfl⟩
theorem strTwo {s : ByteArray} (h : s.size ≤ 60) : strCells 60 #[.string s, .string s, .string ⟨#[108, 97, 110, 48]⟩, .string ⟨#[101, 116, 104, 49]⟩] = true := by simp [strCells, h]; decide
theorem contA_sz : contA.size = 9 := rfl
theorem sz60 {s : ByteArray} (h : s.size ≤ 60) : s.size ≤ 200 := by omega
theorem le41 {A B : Type} {l : List A} {m : List B} (h : m.length ≤ l.length + 1) (h1 : l.length ≤ 3) : m.length ≤ 4 := by omega
theorem le4 {A : Type} {l : List A} (h : l.length ≤ 3) : l.length ≤ 4 := by omega
/-- The device as it is handed back. -/
theorem dev_end {w0 w wS W : World} {b n p d D B R : Nat} {VA : Option Addr} {vc : Nat} {l : List At} {x : Dv} (h : DvS w0 b n p d wS R (.slice VA l.length vc) l B (encDv x).toArray W) (hx : x.ats = ⟨VA, vc, l⟩) (hsm : DvSm x) (hb : Below w.heap.size w wS) (hR : w.heap.size ≤ R) (hw : w0.heap.size ≤ w.heap.size) (hd : d ≤ D) : ∃ y : Dv, DvSm y ∧ Ending.returned (dvV x) = .returned (dvV y) ∧ DvAt (W.setRow R (encDv x).toArray) (W.setRow R (encDv x).toArray).heap.size y ∧ TNx w0 b n p D w (W.setRow R (encDv x).toArray) ∧ (∀ a, y.ats.A = some a → w.heap.size ≤ a.block) := by
  have hlR := h.lR
  refine ⟨x, hsm, rfl, ?_, ?_, fun a ha => ?_⟩
  · have h1 : (W.setRow R (encDv x).toArray).ownsRow wS.heap.size 87 2 (.slice VA l.length vc) l.length (cellsOf encAt l) := h.row.own.kept (grown_setRow W R _) (by
      cases hv : (Value.slice VA l.length vc).ownBlock with
      | none => exact Or.inl rfl
      | some g => right; intro e; have := (h.row.own.lt g hv).1; injection e with e; omega)
    have h2 := RowAt.of_own h1
    show RowAt _ _ x.ats.A 2 x.ats.l.length (cellsOf encAt x.ats.l)
    rw [hx]
    exact h2
  · exact ((TNx.of_below h.row.nx hb).more hd).setRow hR hw _
  · rw [hx] at ha
    have h3 := (h.row.own.lt a.block (by rw [show VA = some a from ha]; rfl)).1
    have h4 := hb.size
    omega
set_option maxRecDepth 100000 in
set_option maxHeartbeats 8000000 in
theorem Device_any {w0 w : World} {b n p d : Nat} (h : TSt w0 b n p d w) (h3 : p + d ≤ 80000) :
    Calls Try.prog 7 #[.pointer (some ⟨b, 0, none⟩), .agg #[.slice none 0 0]] w (SomeDv w0 b n p (d + 40) w) := by
  have H := Lib.hid h
  have hlb := h.lt
  have hws := h.size
  clear h
  obtain ⟨w1, hw1⟩ : ∃ w1, (w.alloc (.cells #[.slice none 0 0] 37)).alloc (.cells dvZ 25) = w1 := ⟨_, rfl⟩
  have hrs : w1.heap[w.heap.size + 1]? = some (.cells dvZ 25 (0, 0)) := by rw [← hw1]; have := heap_alloc_new (w.alloc (.cells #[.slice none 0 0] 37)) (.cells dvZ 25); simpa using this
  have htr : w1.heap[w.heap.size]? = some (.cells #[.slice none 0 0] 37 (0, 0)) := by rw [← hw1, heap_alloc_old _ _ (by simp)]; exact heap_alloc_new _ _
  have hb1 : Below w.heap.size w w1 := by rw [← hw1]; exact bt (below_alloc _ _) (below_alloc _ _)
  have hs1 : w1.heap.size = w.heap.size + 2 := by rw [← hw1]; simp
  have HU1 : Hid (TNx w0 b n p d w1 w1) := Lib.hid (TNx.refl (H.out.below hb1))
  have HRs := Lib.hid hrs
  have HTr := Lib.hid htr
  have HB1 := Lib.hid hb1
  have HW1 := Lib.hid hw1
  have HEnd := Lib.hid (fun (B : Nat) (VA : Option Addr) (vc : Nat) (l : List At) (x : Dv) (W : World) (D : Nat) (h : DvS w0 b n p D w1 (w.heap.size + 1) (.slice VA l.length vc) l B (encDv x).toArray W) (hx : x.ats = ⟨VA, vc, l⟩) (hsm : DvSm x) (hd : D ≤ d + 40) => dev_end (w := w) h hx hsm hb1 (Nat.le_succ _) hws hd)
  clear hw1 hrs htr hb1
  unfold SomeDv
  go_enter Try.func7, Try.ntmps7
  go_upto_region 1 with fail
  rw [HW1.out]
  go_wp2_with fail
  (with_reducible refine (One_b (n := n) (p := p) 60 _ _ _ _ _ HU1.out.st (by decide) (by simp) (by decide) (by decide) (by first | (simp; done) | omega) (by omega)).mono ?_)
  rintro e w2 ⟨s1, hs1, rfl, hT⟩
  have HU2 := Lib.hid (HU1.out.trans hT)
  clear hT
  go_wp2_with fail
  (with_reducible refine (Next_t (n := n) (p := p) _ HU2.out.st (by omega) (by omega) (by omega)).mono ?_)
  rintro e w3 ⟨r, r0, r1, rfl, hT⟩
  have HU3 := Lib.hid (HU2.out.trans hT)
  clear hT
  go_wp2_with fail
  (with_reducible refine (One_b (n := n) (p := p) 60 _ _ _ _ _ HU3.out.st (by decide) (by simp) (by decide) (by decide) (by first | (simp; done) | omega) (by omega)).mono ?_)
  rintro e w4 ⟨s2, hs2, rfl, hT⟩
  have HU4 := Lib.hid (HU3.out.trans hT)
  clear hT
  go_wp2_with fail
  (with_reducible refine (One_b (n := n) (p := p) 60 _ _ _ _ _ HU4.out.st (by decide) (by simp) (by decide) (by decide) (by first | (simp; done) | omega) (by omega)).mono ?_)
  rintro e w5 ⟨s3, hs3, rfl, hT⟩
  have HU5 := Lib.hid (HU4.out.trans hT)
  clear hT
  go_wp2_with fail
  (with_reducible refine (Attrs_any (n := n) (p := p) HU5.out.st (by omega)).mono ?_)
  rintro e w6 ⟨v, l, rfl, hll, hlz, hAR⟩
  obtain ⟨VA, vc, rfl⟩ := own_slice hAR.own
  have hU6 := HU5.out.trans hAR.nx
  have hA6 : ARow w0 b n p (d + 1 + 1 + 1 + 1 + 10) w1 (.slice VA l.length vc) l w6 := ⟨hU6, own_base hAR.own HU5.out.gr.size, by omega⟩
  have hS7 := DvS.start hA6 (hU6.blk HRs.out (by omega)) (by omega) (by omega : w.heap.size + 1 ≠ b) #[.int .i64 1, .int .i64 0, .string ⟨#[]⟩, .string ⟨#[]⟩, .string s1, .string s2, .string s3, .int .i64 (1 + r), .int .i64 0, .slice VA l.length vc]
  have htr7 : (w6.alloc (.cells #[.int .i64 1, .int .i64 0, .string ⟨#[]⟩, .string ⟨#[]⟩, .string s1, .string s2, .string s3, .int .i64 (1 + r), .int .i64 0, .slice VA l.length vc] 25)).heap[w.heap.size]? = some (.cells #[.slice none 0 0] 37 (0, 0)) := (heap_alloc_old _ _ (blk_lt' (hU6.blk HTr.out (by omega)))).trans (hU6.blk HTr.out (by omega))
  have HTr7 := Lib.hid htr7
  have HZl := Lib.hid hlz
  have HS7 := Lib.hid hS7
  clear hAR hU6 hA6 hS7 htr7 hlz
  go_upto_region 2 with fail
  obtain ⟨w7, hw7⟩ : ∃ w7, w6.alloc (.cells #[.int .i64 1, .int .i64 0, .string ⟨#[]⟩, .string ⟨#[]⟩, .string s1, .string s2, .string s3, .int .i64 (1 + r), .int .i64 0, .slice VA l.length vc] 25) = w7 := ⟨_, rfl⟩
  rw [hw7] at HS7 HTr7 ⊢
  clear hw7
  generalize w6.heap.size = B at *
  have t0 := cellOf (j := 0) HTr7.out rfl
  have k7 := HS7.out.cl (j := 7) rfl
  go_wp2_with fail
  go_loopg [6] 1 (fun gk s6 wr => s6 = .int .i64 0 ∧ w7 = wr)
  case atStart => exact ⟨rfl, rfl⟩
  case round =>
  obtain ⟨rfl, rfl⟩ := hrel
  have hr : r = 0 ∨ r = 1 ∨ r = 2 ∨ r = 3 := by omega
  clear r0 r1
  rcases hr with rfl | rfl | rfl | rfl
  · skip
    have z3 := HS7.out.fz 3
    have z2 := HS7.out.fz 2
    have q3 := HS7.out.cl (j := 3) rfl
    have q2 := HS7.out.cl (j := 2) rfl
    go_wp2_with fail
    (with_reducible refine (One_b (n := n) (p := p) 60 _ _ _ _ _ HS7.out.row.nx.st (by decide) (by simp) (by decide) (by decide) (by first | (simp; done) | omega) (by omega)).mono ?_)
    rintro e w8 ⟨s4, hs4, rfl, hT⟩
    have HS8 := Lib.hid (HS7.out.go hT)
    have HS9 := Lib.hid ((HS8.out.set 3 (.string s4)).set 2 (.string s4))
    clear hT q3 q2 z3 z2 k7 t0
    have q0 := HS8.out.cl (j := 0) rfl
    have q1 := HS8.out.cl (j := 1) rfl
    have q2 := HS8.out.cl (j := 2) rfl
    have q3 := HS8.out.cl (j := 3) rfl
    have q4 := HS8.out.cl (j := 4) rfl
    have q5 := HS8.out.cl (j := 5) rfl
    have q6 := HS8.out.cl (j := 6) rfl
    have q7 := HS8.out.cl (j := 7) rfl
    have q8 := HS8.out.cl (j := 8) rfl
    have q9 := HS8.out.cl (j := 9) rfl
    have z3 := HS8.out.fz 3
    have z2 := HS8.out.fz 2
    go_wp2_with (refine wpList_store_row rfl 25 _ _ rfl _ _ rfl rfl _ _ HS9.out.rs (by exact dvSize) rfl (by simp [Value.oneCell']) ?_)
    all_goals
      refine post_cellrow rfl (by rfl) HS9.out.rs Try.underlying25 rfl (by exact dvSize) (by rfl) ?_
      exact HEnd.out B VA vc l ⟨1, 0, s4, s4, s1, s2, s3, 1, 0, ⟨VA, vc, l⟩⟩ _ _ HS9.out rfl ⟨sz60 hs4, sz60 hs1, sz60 hs2, HZl.out, le4 hll⟩ (by omega)
  · skip
    have HS7b := Lib.hid (HS7.out.set 4 (.string ⟨#[98, 108, 111, 99, 107]⟩))
    have q4 := HS7.out.cl (j := 4) rfl
    have z4 := HS7.out.fz 4
    go_wp2_with fail
    (with_reducible refine (One_b (n := n) (p := p) 60 _ _ _ _ _ HS7b.out.row.nx.st (by decide) (by simp) (by decide) (by decide) (by first | (simp; done) | omega) (by omega)).mono ?_)
    rintro e w8 ⟨s4, hs4, rfl, hT⟩
    have HS8 := Lib.hid (HS7b.out.go hT)
    have HSa := Lib.hid (HS8.out.set 3 (.string s4))
    clear hT k7 t0 q4 z4
    have q3 := HS8.out.cl (j := 3) rfl
    have z3 := HS8.out.fz 3
    go_wp2_with fail
    (with_reducible refine (Next_t (n := n) (p := p) _ HSa.out.row.nx.st (by omega) (by omega) (by omega)).mono ?_)
    rintro e w9 ⟨r9, _, _, rfl, hT⟩
    have HSb := Lib.hid (HSa.out.go hT)
    have HSc := Lib.hid (HSb.out.set 8 (.int .i64 (1 + r9)))
    clear hT q3 z3
    have q8 := HSb.out.cl (j := 8) rfl
    have z8 := HSb.out.fz 8
    go_upto_region 20 with fail
    obtain ⟨wa, hwa⟩ : ∃ wa, w9.setCell ⟨B, 8, none⟩ (.int .i64 (1 + r9)) = wa := ⟨_, rfl⟩
    rw [hwa] at HSc ⊢
    have HWa := Lib.hid hwa
    have q9 := HSc.out.cl (j := 9) rfl
    clear hwa q8 z8
    have hwd : ∃ wd, wa.drew = wd := ⟨_, rfl⟩
    obtain ⟨wd, hwd⟩ := hwd
    have HWd := Lib.hid hwd
    have HSd := Lib.hid (by rw [← hwd]; exact HSc.out.below (Below.refl _ _).drew : DvS w0 b n p _ w1 (w.heap.size + 1) (.slice VA l.length vc) l B #[.int .i64 1, .int .i64 0, .string ⟨#[]⟩, .string s4, .string ⟨#[98, 108, 111, 99, 107]⟩, .string s2, .string s3, .int .i64 2, .int .i64 (1 + r9), .slice VA l.length vc] wd)
    have hgb : wd.heap.size ≠ b := by have := HSd.out.bne; have := HSd.out.lB; have := blk_lt' HSd.out.bx; omega
    clear hwd
    go_region_with (first
      | (go_at_call 24; go_loud (rw [HWd.out]); refine (Contents_any _).mono ?_; rintro e wc ⟨rfl, rfl⟩; have HSe := Lib.hid (HSd.out.below (below_alloc _ (.cells contA 9))); have q9e := HSe.out.cl (j := 9) rfl)
      | (go_at_call 14; go_loud ((with_reducible refine (One_k (n := n) (p := p) 60 contA 9 _ _ _ HSe.out.row.nx.st (heap_alloc_new wd _) contA_str contA_sz (by decide) (by decide) hgb (by omega)).mono ?_)); rintro e wf ⟨s5, hs5, rfl, hT⟩; have HSf := Lib.hid (HSe.out.go hT); have q9f := HSf.out.cl (j := 9) rfl; clear hT)
      | (go_at_call 23; go_loud (refine (RSet_at VA vc l ⟨#[99, 111, 110, 116, 101, 110, 116]⟩ s5 wf (by omega) (RowAt.of_own HSf.out.row.own)).mono ?_); rintro e wg ⟨v6, m, rfl, hown6, hml, hat6, hb6⟩; obtain ⟨MA, mc, rfl⟩ := own_slice hown6; have HSg := Lib.hid (HSf.out.below hb6); have HSh := Lib.hid (HSf.out.attrs hown6 hb6); have HZm := Lib.hid (ats_small HZl.out (y := ⟨⟨#[99, 111, 110, 116, 101, 110, 116]⟩, s5⟩) (by show s5.size ≤ 200; omega) hat6); clear hown6 hb6 hat6; have z9 := HSh.out.fz 9; have y9 := HSh.out.cl (j := 9) rfl))
    all_goals
      have HS9 := Lib.hid ((HSh.out.set 9 (.slice MA m.length mc)).set 2 (.string s4))
      have q0 := HSh.out.cl (j := 0) rfl
      have q1 := HSh.out.cl (j := 1) rfl
      have q2 := HSh.out.cl (j := 2) rfl
      have q3 := HSh.out.cl (j := 3) rfl
      have q4 := HSh.out.cl (j := 4) rfl
      have q5 := HSh.out.cl (j := 5) rfl
      have q6 := HSh.out.cl (j := 6) rfl
      have q7 := HSh.out.cl (j := 7) rfl
      have q8 := HSh.out.cl (j := 8) rfl
      have z2 := HSh.out.fz 2
      go_wp2_with (refine wpList_store_row rfl 25 _ _ rfl _ _ rfl rfl _ _ HS9.out.rs (by exact dvSize) rfl (by simp [Value.oneCell']) ?_)
    all_goals
      refine post_cellrow rfl (by rfl) HS9.out.rs Try.underlying25 rfl (by exact dvSize) (by rfl) ?_
      exact HEnd.out B MA mc m ⟨1, 0, s4, s4, (⟨#[98, 108, 111, 99, 107]⟩ : ByteArray), s2, s3, 2, (1 + r9), ⟨MA, mc, m⟩⟩ _ _ HS9.out rfl ⟨sz60 hs4, (by decide : ByteArray.size (⟨#[98, 108, 111, 99, 107]⟩ : ByteArray) ≤ 200), sz60 hs2, HZm.out, le41 hml hll⟩ (by omega)
  · skip
    go_wp2_with fail
    (with_reducible refine (One_b (n := n) (p := p) 60 _ _ _ _ _ HS7.out.row.nx.st (by decide) (by simp) (by decide) (by decide) (by first | (simp; done) | omega) (by omega)).mono ?_)
    rintro e w8 ⟨s4, hs4, rfl, hT⟩
    have HS8 := Lib.hid (HS7.out.go hT)
    have HSa := Lib.hid (HS8.out.set 3 (.string s4))
    clear hT k7 t0
    have q3 := HS8.out.cl (j := 3) rfl
    have z3 := HS8.out.fz 3
    go_wp2_with fail
    (with_reducible refine (Next_t (n := n) (p := p) _ HSa.out.row.nx.st (by omega) (by omega) (by omega)).mono ?_)
    rintro e w9 ⟨r9, _, _, rfl, hT⟩
    have HSb := Lib.hid (HSa.out.go hT)
    have HS9 := Lib.hid ((HSb.out.set 8 (.int .i64 (1 + r9))).set 2 (.string s4))
    clear hT q3 z3
    have q0 := HSb.out.cl (j := 0) rfl
    have q1 := HSb.out.cl (j := 1) rfl
    have q2 := HSb.out.cl (j := 2) rfl
    have q3 := HSb.out.cl (j := 3) rfl
    have q4 := HSb.out.cl (j := 4) rfl
    have q5 := HSb.out.cl (j := 5) rfl
    have q6 := HSb.out.cl (j := 6) rfl
    have q7 := HSb.out.cl (j := 7) rfl
    have q8 := HSb.out.cl (j := 8) rfl
    have q9 := HSb.out.cl (j := 9) rfl
    have z8 := HSb.out.fz 8
    have z2 := HSb.out.fz 2
    go_wp2_with (refine wpList_store_row rfl 25 _ _ rfl _ _ rfl rfl _ _ HS9.out.rs (by exact dvSize) rfl (by simp [Value.oneCell']) ?_)
    all_goals
      refine post_cellrow rfl (by rfl) HS9.out.rs Try.underlying25 rfl (by exact dvSize) (by rfl) ?_
      exact HEnd.out B VA vc l ⟨1, 0, s4, s4, s1, s2, s3, 3, (1 + r9), ⟨VA, vc, l⟩⟩ _ _ HS9.out rfl ⟨sz60 hs4, sz60 hs1, sz60 hs2, HZl.out, le4 hll⟩ (by omega)
  · skip
    have HS7b := Lib.hid (HS7.out.set 4 (.string ⟨#[110, 101, 116]⟩))
    have q4 := HS7.out.cl (j := 4) rfl
    have z4 := HS7.out.fz 4
    go_wp2_with fail
    (with_reducible refine (One_b (n := n) (p := p) 60 _ _ _ _ _ HS7b.out.row.nx.st (by decide) (by simp) (by decide) (by decide) (by first | (simp; done) | omega) (by omega)).mono ?_)
    rintro e w8 ⟨s4, hs4, rfl, hT⟩
    have HS8 := Lib.hid (HS7b.out.go hT)
    have HSa := Lib.hid (HS8.out.set 3 (.string s4))
    clear hT k7 t0 q4 z4
    have q3 := HS8.out.cl (j := 3) rfl
    have z3 := HS8.out.fz 3
    go_wp2_with fail
    (with_reducible refine (One_b (n := n) (p := p) 60 _ _ _ _ _ HSa.out.row.nx.st (strTwo hs4) (by simp) (by decide) (by decide) (by first | (simp; done) | omega) (by omega)).mono ?_)
    rintro e w9 ⟨s5, hs5, rfl, hT⟩
    have HSb := Lib.hid (HSa.out.go hT)
    have HS9 := Lib.hid (HSb.out.set 2 (.string s5))
    clear hT q3 z3
    have q0 := HSb.out.cl (j := 0) rfl
    have q1 := HSb.out.cl (j := 1) rfl
    have q2 := HSb.out.cl (j := 2) rfl
    have q3 := HSb.out.cl (j := 3) rfl
    have q4 := HSb.out.cl (j := 4) rfl
    have q5 := HSb.out.cl (j := 5) rfl
    have q6 := HSb.out.cl (j := 6) rfl
    have q7 := HSb.out.cl (j := 7) rfl
    have q8 := HSb.out.cl (j := 8) rfl
    have q9 := HSb.out.cl (j := 9) rfl
    have z2 := HSb.out.fz 2
    go_wp2_with (refine wpList_store_row rfl 25 _ _ rfl _ _ rfl rfl _ _ HS9.out.rs (by exact dvSize) rfl (by simp [Value.oneCell']) ?_)
    all_goals
      refine post_cellrow rfl (by rfl) HS9.out.rs Try.underlying25 rfl (by exact dvSize) (by rfl) ?_
      exact HEnd.out B VA vc l ⟨1, 0, s5, s4, (⟨#[110, 101, 116]⟩ : ByteArray), s2, s3, 4, 0, ⟨VA, vc, l⟩⟩ _ _ HS9.out rfl ⟨sz60 hs4, (by decide : ByteArray.size (⟨#[110, 101, 116]⟩ : ByteArray) ≤ 200), sz60 hs2, HZl.out, le4 hll⟩ (by omega)
end Go.Proofs.Ytgdjknpdgajdgaa
