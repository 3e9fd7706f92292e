/-
  The rules and the faults of a list of files, in plain words; no program in sight.
  Rules and faults under way: lists joined to them.
  A file that is one line again and again, in plain words; no program in sight.
  Contract of the program's Load.
  Contract of the reference's Load. (Printed by gen_load.py.)
-/
import Derived.Test.YtibflgfhjfcifaaGreatDoorG41
import Derived.Test.YtibflgfhjfcifaaGreatDoorG39
import Derived.Test.YtibflgfhjfcifaaGreatDoorG20
import Derived.Test.YtibflgfhjfcifaaGreatDoorG40
import Derived.Deep.RegionHeld3
namespace Go.Proofs.YtibflgfhjfcifaaGreatDoor
open Go.RowKit
def allR (fs : List At) : List Rp := fs.flatMap fun f => scrR f.name (linesS f.val)
def allF (fs : List At) : List Fl := fs.flatMap fun f => scrF f.name (linesS f.val)
def overF (rs : List Rp) : List Fl := rs.map fun x => ⟨x.file, x.line, 170⟩
def loadR (fs : List At) : List Rp := (linkF ((allR fs).take 512)).1
def loadF (fs : List At) : List Fl := allF fs ++ overF ((allR fs).drop 512) ++ (linkF ((allR fs).take 512)).2
theorem allR_snoc (fs : List At) (x : At) : allR (fs ++ [x]) = allR fs ++ scrR x.name (linesS x.val) := by simp [allR]
theorem allF_snoc (fs : List At) (x : At) : allF (fs ++ [x]) = allF fs ++ scrF x.name (linesS x.val) := by simp [allF]
theorem take_snocF {α : Type} {fs : List α} {k : Nat} (hk : k < fs.length) : fs.take (k + 1) = fs.take k ++ [fs[k]] := List.take_succ_eq_append_getElem hk
theorem scrR_good (f : ByteArray) (ls : List Ln) : ∀ p ∈ scrR f ls, checkE p.tms = 0 := by
 intro p hp
 unfold scrR at hp
 obtain ⟨x, _, hx⟩ := List.mem_flatMap.1 hp
 unfold oneR at hx
 cases h : parseL (L x.text) with
 | error n => rw [h] at hx; cases hx
 | ok l =>
   rw [h] at hx
   obtain rfl := List.mem_singleton.1 hx
   exact (parse_good h).1
theorem allR_good (fs : List At) : ∀ p ∈ allR fs, checkE p.tms = 0 := by
 intro p hp
 obtain ⟨f, _, h⟩ := List.mem_flatMap.1 hp
 exact scrR_good _ _ p h
theorem loadR_good (fs : List At) : ∀ p ∈ loadR fs, checkE p.tms = 0 := fun p hp => allR_good fs p (List.mem_of_mem_take (linkF_sub _ p hp))
theorem loadR_again (fs : List At) : linkF (loadR fs) = (loadR fs, []) := linkF_again _
theorem load_len (fs : List At) : (loadR fs).length + (loadF fs).length = (allR fs).length + (allF fs).length := by
 have h := linkF_len ((allR fs).take 512)
 unfold loadR loadF overF
 rw [List.length_append, List.length_append, List.length_map, List.length_drop]
 rw [List.length_take] at h
 omega
theorem linesS_len3 {s : ByteArray} (hs : s.size ≤ 1000000) : (linesS s).length ≤ s.size + 2 := by
 have hp : ∀ i, ((physL s).getD i ⟨#[]⟩).size ≤ 1000000 := fun i => by
  rcases Nat.lt_or_ge i (physL s).length with h | h
  · rw [getD_at h]; exact Nat.le_trans (physL_sizes s _ (List.getElem_mem _)) hs
  · rw [List.getD, List.getElem?_eq_none h]; exact Nat.zero_le _
 have hl := physL_len s
 obtain ⟨_, h2⟩ := linesF_len hp ((physL s).length + 1) 0 [] (fun x hx => by cases hx)
 unfold linesS
 simp at h2
 omega
theorem all_len {fs : List At} (h : ∀ x ∈ fs, x.val.size ≤ 10000) : (allR fs).length ≤ fs.length * 10002 ∧ (allF fs).length ≤ fs.length * 10002 := by
 induction fs with
 | nil => exact ⟨Nat.zero_le _, Nat.zero_le _⟩
 | cons x r ih =>
   obtain ⟨h1, h2⟩ := ih fun y hy => h y (List.mem_cons_of_mem _ hy)
   have hx := h x (List.mem_cons_self ..)
   have h3 := linesS_len3 (s := x.val) (by omega)
   have h4 := scrR_len x.name (linesS x.val)
   have h5 := scrF_len x.name (linesS x.val)
   rw [show allR (x :: r) = scrR x.name (linesS x.val) ++ allR r from rfl, show allF (x :: r) = scrF x.name (linesS x.val) ++ allF r from rfl, List.length_append, List.length_append, List.length_cons, Nat.add_mul]
   omega
theorem overF_snoc (rs : List Rp) (x : Rp) : overF (rs ++ [x]) = overF rs ++ [⟨x.file, x.line, 170⟩] := by simp [overF]
end Go.Proofs.YtibflgfhjfcifaaGreatDoor
namespace Go.Proofs.YtibflgfhjfcifaaGreatDoor
open Go.RowKit
theorem cells_join {α : Type} (enc : α → List Value) (l m : List α) : cellsOf enc l ++ cellsOf enc m = cellsOf enc (l ++ m) := by simp [cellsOf]
theorem own_join {α : Type} {enc : α → List Value} {W : World} {base k : Nat} {e : TypeId} {v : Value} {l m : List α} (h : W.ownsRow base e k v (l.length + m.length) (cellsOf enc l ++ cellsOf enc m)) :
 W.ownsRow base e k v (l ++ m).length (cellsOf enc (l ++ m)) := by
 rw [cells_join] at h
 rw [List.length_append]; exact h
section
variable {w W W1 w9 : World} {rl ys : List Rl} {fl zs : List Fl} {vr vf v9 : Value}
theorem ScrSt.joinR (h : ScrSt w rl vr fl vf W) (hb : Below W.heap.size W W1) (hy : InAt 4 encTm Rl.tms W W.heap.size ys) (hyr : ∀ y ∈ ys, ∀ a, y.tms.A = some a → w.heap.size ≤ a.block ∧ vr.ownBlock ≠ some a.block ∧ vf.ownBlock ≠ some a.block)
 (hown : w9.ownsRow w.heap.size 39 3 v9 (rl.length + ys.length) (cellsOf encRl rl ++ cellsOf encRl ys)) (hg : W1.grownBy w9 vr.ownBlock) (hat : v9.ownBlock = vr.ownBlock ∨ v9.ownBlock = some W1.heap.size) :
 ScrSt w (rl ++ ys) v9 fl vf w9 := by
 have h1 : InOff 4 encTm Rl.tms W W.heap.size vr.ownBlock (rl ++ ys) := fun y hm => by
  rcases List.mem_append.1 hm with hm | hm
  · exact h.ir y hm
  · exact ⟨hy y hm, fun _ a e e2 => (hyr y hm a e).2.1 e2.symm⟩
 have h2 : InOff 4 encTm Rl.tms W W.heap.size vf.ownBlock (rl ++ ys) := fun y hm => by
  rcases List.mem_append.1 hm with hm | hm
  · exact h.fr y hm
  · exact ⟨hy y hm, fun _ a e e2 => (hyr y hm a e).2.2 e2.symm⟩
 have h3 := h1.keep hb
 have hs := hb.size
 have h4 := h3.moved (row' := v9.ownBlock) hs hg (by
  rcases hat with e | e
  · exact Or.inl e
  · right; intro g eg; rw [e] at eg; injection eg with eg; omega)
 have hs9 := hg.size
 refine ⟨own_join hown, own_apart (own_below2 h.f hb) hg (fun g e => h.ap g e), h4.up (by omega), (h2.with h4 (Nat.le_refl _)).up (by omega), fun g e => ?_, (bt h.low hb).grown hg (bt h.low hb).size (fun j e => (h.r.lt j e).1), fun z hz a e => by
  rcases List.mem_append.1 hz with hz | hz
  · exact h.ge z hz a e
  · exact (hyr z hz a e).1⟩
 rcases hat with e2 | e2
 · exact h.ap g (by rw [← e2]; exact e)
 · intro e3
   have := (h.f.lt g e3).2
   rw [e2] at e
   injection e with e
   omega
theorem ScrSt.joinF (h : ScrSt w rl vr fl vf W) (hb : Below W.heap.size W W1)
 (hown : w9.ownsRow w.heap.size 55 3 v9 (fl.length + zs.length) (cellsOf encFl fl ++ cellsOf encFl zs)) (hg : W1.grownBy w9 vf.ownBlock) (hat : v9.ownBlock = vf.ownBlock ∨ v9.ownBlock = some W1.heap.size) :
 ScrSt w rl vr (fl ++ zs) v9 w9 := by
 have h3 := h.fr.keep hb
 have hs := hb.size
 have h4 := h3.moved (row' := v9.ownBlock) hs hg (by
  rcases hat with e | e
  · exact Or.inl e
  · right; intro g eg; rw [e] at eg; injection eg with eg; omega)
 have hs9 := hg.size
 refine ⟨own_apart (own_below2 h.r hb) hg (fun g e e2 => h.ap g e2 e), own_join hown, (h.ir.with h4 (Nat.le_refl _)).up (by omega), h4.up (by omega), fun g e e2 => ?_, (bt h.low hb).grown hg (bt h.low hb).size (fun j e => (h.f.lt j e).1), h.ge⟩
 rcases hat with e3 | e3
 · exact h.ap g e (by rw [← e3]; exact e2)
 · have := (h.r.lt g e).2
   rw [e3] at e2
   injection e2 with e2
   omega
theorem scr_apart {w0 : World} {rl2 : List Rl} {fl2 : List Fl} {vr2 vf2 : Value} (h : ScrSt w rl vr fl vf w0) (h2 : ScrSt w0 rl2 vr2 fl2 vf2 W) :
 (∀ y ∈ rl2, ∀ a, y.tms.A = some a → w.heap.size ≤ a.block ∧ vr.ownBlock ≠ some a.block ∧ vf.ownBlock ≠ some a.block) ∧ (∀ a b, vf2.ownBlock = some a → vr.ownBlock = some b → a ≠ b) := by
 constructor
 · intro y hy a ha
   have h3 := h2.ge y hy a ha
   have h4 := h.low.size
   exact ⟨by omega, fun e => by have := (h.r.lt _ e).2; omega, fun e => by have := (h.f.lt _ e).2; omega⟩
 · intro a b ha hb
   have := (h2.f.lt a ha).1
   have := (h.r.lt b hb).2
   omega
end
theorem RowAt.apart {W W' : World} {base k n : Nat} {A : Option Addr} {c : Nat} {T : TypeId} {xs : List Value} {row : Option Nat} (h : W.ownsRow base T k (.slice A n c) n xs) (hg : W.grownBy W' row) (hr : ∀ a b, (Value.slice A n c).ownBlock = some a → row = some b → a ≠ b) : RowAt W' W'.heap.size A k n xs :=
 ((RowAt.of_own h).other (Nat.le_refl _) hg (fun r e a ea => by subst ea; exact hr a.block r rfl e)).up hg.size
theorem allR_take {fs : List At} {k : Nat} (hk : k < fs.length) : allR (fs.take (k + 1)) = allR (fs.take k) ++ scrR fs[k].name (linesS fs[k].val) := by
 rw [take_snocF hk, allR_snoc]
theorem allF_take {fs : List At} {k : Nat} (hk : k < fs.length) : allF (fs.take (k + 1)) = allF (fs.take k) ++ scrF fs[k].name (linesS fs[k].val) := by
 rw [take_snocF hk, allF_snoc]
def LoadPost (fs : List At) (w : World) (e : Ending) (w' : World) : Prop := ∃ Ar cr Af cf rl fl, e = .returned (.tuple #[.slice Ar rl.length cr, .slice Af fl.length cf]) ∧ rl.map Rl.p = loadR fs ∧ fl = loadF fs ∧ RowAt w' w'.heap.size Ar 3 rl.length (cellsOf encRl rl) ∧ RowAt w' w'.heap.size Af 3 fl.length (cellsOf encFl fl) ∧ InAt 4 encTm Rl.tms w' w'.heap.size rl ∧ Below w.heap.size w w'
theorem scr_out {w w' : World} {e : Ending} {R : List Rp} {F : List Fl} (h : ∃ vr vf rl fl, e = .returned (.tuple #[vr, vf]) ∧ rl.map Rl.p = R ∧ fl = F ∧ ScrSt w rl vr fl vf w') :
 ∃ A c A' c' rl fl, e = .returned (.tuple #[.slice A rl.length c, .slice A' fl.length c']) ∧ rl.map Rl.p = R ∧ fl = F ∧ RowAt w' w'.heap.size A 3 rl.length (cellsOf encRl rl) ∧ RowAt w' w'.heap.size A' 3 fl.length (cellsOf encFl fl) ∧ InAt 4 encTm Rl.tms w' w'.heap.size rl ∧ Below w.heap.size w w' := by
 obtain ⟨vr, vf, rl, fl, rfl, h1, h2, hS⟩ := h
 obtain ⟨A, c, rfl⟩ := own_slice hS.r
 obtain ⟨A', c', rfl⟩ := own_slice hS.f
 exact ⟨A, c, A', c', rl, fl, rfl, h1, h2, RowAt.of_own hS.r, RowAt.of_own hS.f, hS.ir.at_, hS.low⟩
theorem good_tms {R : List Rp} (hg : ∀ p ∈ R, checkE p.tms = 0) {rl : List Rl} (h : rl.map Rl.p = R) : ∀ x ∈ rl, 1 ≤ x.tms.l.length ∧ x.tms.l.length ≤ 1000 ∧ ∀ t ∈ x.tms.l, t.value.size ≤ 1000 := fun x hx => by
 have h1 : Rl.p x ∈ R := by rw [← h]; exact List.mem_map_of_mem hx
 have h2 : checkE x.tms.l = 0 := hg _ h1
 obtain ⟨h3, h4, _⟩ := checkE_ok h2
 exact ⟨h3, by omega, fun t ht => by have := (right_of h2 t ht).value; omega⟩
theorem all_tms {fs : List At} {rl : List Rl} (h : rl.map Rl.p = allR fs) : ∀ x ∈ rl, 1 ≤ x.tms.l.length ∧ x.tms.l.length ≤ 1000 ∧ ∀ t ∈ x.tms.l, t.value.size ≤ 1000 := good_tms (allR_good fs) h
end Go.Proofs.YtibflgfhjfcifaaGreatDoor
namespace Go.Proofs.YtibflgfhjfcifaaGreatDoor
open Go.RowKit
def tagS : Str := [84, 65, 71, 43, 61, 34, 97, 34]
def tagT : Str := [84, 65, 71, 43, 61, 34, 97, 34, 10]
def repS : Nat → Str
 | 0 => []
 | n + 1 => tagT ++ repS n
def tagTm : Tm := ⟨7, ⟨#[]⟩, 4, ⟨#[97]⟩⟩
theorem tagToks : toksS tagS = .ok [⟨⟨#[84, 65, 71]⟩, ⟨#[]⟩, ⟨#[43, 61]⟩, ⟨#[97]⟩⟩] := by kernel_rfl
theorem tagParse : parseL tagS = .ok [tagTm] := by
 rw [parseL, tagToks]
 show (if checkE [tagTm] = 0 then Except.ok [tagTm] else .error (checkE [tagTm])) = _
 rw [show checkE [tagTm] = 0 from by kernel_rfl]
 rfl
theorem index_tag (t : Str) : Lib.index (tagT ++ t) [10] = 8 := by
 simp [tagT, Lib.index, List.isPrefixOf]
theorem indexB_tag (t : Str) : Lib.indexB (bs (tagT ++ t)) ⟨#[10]⟩ = ((8 : Nat) : Int) := by
 show Lib.index (L (bs (tagT ++ t))) [10] = _
 rw [L_bs, index_tag]; rfl
theorem cut_head (t : Str) : (bs (tagT ++ t)).extract 0 (8 + 0) = bs tagS := L_inj (by
 rw [L_extract, L_bs, L_bs, List.drop_zero]; simp [tagT, tagS])
theorem cut_tail (t : Str) : (bs (tagT ++ t)).extract (8 + (⟨#[10]⟩ : ByteArray).size) (bs (tagT ++ t)).size = bs t := L_inj (by
 rw [L_extract, size_bs, L_bs, L_bs, show (⟨#[10]⟩ : ByteArray).size = 1 from rfl, List.take_length]; rfl)
theorem indexB_nil : Lib.indexB (bs []) ⟨#[10]⟩ = -1 := by
 show Lib.index (L (bs [])) [10] = _
 rw [L_bs]; rfl
theorem count_rep : ∀ n, Lib.countB (bs (repS n)) ⟨#[10]⟩ = n
 | 0 => Lib.countB_miss _ _ indexB_nil
 | n + 1 => by
   rw [repS, Lib.countB_hit _ _ 8 (by show 1 ≤ 1; omega) (indexB_tag _), cut_tail, count_rep n]; omega
theorem split_rep : ∀ n, Lib.splitB ⟨#[10]⟩ 0 n (bs (repS n)) = List.replicate n (bs tagS) ++ [bs []]
 | 0 => rfl
 | n + 1 => by
   rw [repS, Lib.splitB_hit _ _ _ _ 8 (indexB_tag _), cut_head, cut_tail, split_rep n]; rfl
theorem phys_rep (n : Nat) : physL (bs (repS n)) = List.replicate n (bs tagS) := by
 have hs : splitL (bs (repS n)) = List.replicate n (bs tagS) ++ [bs []] := by unfold splitL; rw [count_rep, split_rep]
 unfold physL
 rw [hs, if_pos (by simp [bs])]
 simp
theorem log_rep {n i : Nat} (hi : i < n) : logF (List.replicate n (bs tagS)) (List.replicate n (bs tagS)).length i (L ((List.replicate n (bs tagS)).getD i ⟨#[]⟩)) = (tagS, i) := by
 have hg : (List.replicate n (bs tagS)).getD i ⟨#[]⟩ = bs tagS := by rw [getD_at (by simpa using hi)]; simp
 rw [hg, L_bs, List.length_replicate]
 obtain ⟨m, rfl⟩ : ∃ m, n = m + 1 := ⟨n - 1, by omega⟩
 rw [logF, hg, L_bs, if_neg (by decide)]
theorem lines_rep (n : Nat) : ∀ (f i : Nat) (acc : List Ln), n ≤ i + f → linesF (List.replicate n (bs tagS)) (f + 1) i acc = acc ++ (List.range' i (n - i)).map (fun (j : Nat) => (⟨(j : Int) + 1, bs tagS⟩ : Ln))
 | 0, i, acc, h => by
   rw [linesF, if_neg (by simp; omega), show n - i = 0 by omega]; simp
 | f + 1, i, acc, h => by
   by_cases hi : i < n
   · rw [linesF, if_pos (by simpa using hi), log_rep hi]
     dsimp only
     rw [if_neg (by decide), lines_rep n f (i + 1) _ (by omega), show n - i = (n - (i + 1)) + 1 by omega, List.range'_succ]
     simp
   · rw [linesF, if_neg (by simpa using hi), show n - i = 0 by omega]; simp
theorem linesS_rep (n : Nat) : linesS (bs (repS n)) = (List.range n).map (fun (j : Nat) => (⟨(j : Int) + 1, bs tagS⟩ : Ln)) := by
 unfold linesS
 rw [phys_rep, lines_rep n _ 0 [] (by simp), List.range_eq_range']
 simp
def repR (f : ByteArray) (n : Nat) : List Rp := (List.range n).map fun (j : Nat) => ⟨f, (j : Int) + 1, [tagTm]⟩
theorem scr_rep (f : ByteArray) (n : Nat) : scrR f (linesS (bs (repS n))) = repR f n ∧ scrF f (linesS (bs (repS n))) = [] := by
 rw [linesS_rep]
 have h1 : ∀ j : Int, oneR f (⟨j, bs tagS⟩ : Ln) = [⟨f, j, [tagTm]⟩] := fun j => by unfold oneR; rw [L_bs, tagParse]
 have h2 : ∀ j : Int, oneF f (⟨j, bs tagS⟩ : Ln) = [] := fun j => by unfold oneF; rw [L_bs, tagParse]
 constructor
 · unfold scrR repR
   rw [List.flatMap_map]
   simp only [h1]
   induction (List.range n) with
   | nil => rfl
   | cons a r ih => rw [List.flatMap_cons, ih]; rfl
 · unfold scrF
   rw [List.flatMap_map]
   simp only [h2]
   induction (List.range n) with
   | nil => rfl
   | cons a r ih => rw [List.flatMap_cons, ih]; rfl
theorem all_rep (f : ByteArray) (n : Nat) : allR [⟨f, bs (repS n)⟩] = repR f n ∧ allF [⟨f, bs (repS n)⟩] = [] := by
 obtain ⟨h1, h2⟩ := scr_rep f n
 constructor
 · simp [allR, h1]
 · simp [allF, h2]
theorem repR_reach (f : ByteArray) (l : List Nat) : ReachL (l.map fun (j : Nat) => (⟨f, (j : Int) + 1, [tagTm]⟩ : Rp)) := by
 induction l with
 | nil => exact trivial
 | cons a r ih => exact ⟨rfl, ih⟩
theorem load_rep (f : ByteArray) (n : Nat) : loadR [⟨f, bs (repS n)⟩] = (repR f n).take 512 ∧ loadF [⟨f, bs (repS n)⟩] = overF ((repR f n).drop 512) := by
 obtain ⟨h1, h2⟩ := all_rep f n
 have hl : linkF ((repR f n).take 512) = ((repR f n).take 512, []) := linkF_of_reachL (by
  unfold repR
  rw [← List.map_take]
  exact repR_reach _ _)
 unfold loadR loadF
 rw [h1, h2, hl]
 simp
theorem repR_len (f : ByteArray) (n : Nat) : (repR f n).length = n := by simp [repR]
theorem over_at (f : ByteArray) {n i : Nat} (h : i < (overF ((repR f n).drop 512)).length) : (overF ((repR f n).drop 512))[i] = ⟨f, ((512 + i : Nat) : Int) + 1, 170⟩ := by
 simp [overF, repR]
theorem over_len (f : ByteArray) (n : Nat) : (overF ((repR f n).drop 512)).length = n - 512 := by simp [overF, repR]
end Go.Proofs.YtibflgfhjfcifaaGreatDoor
namespace Go.Proofs.YtibflgfhjfcifaaGreatDoor
open Go.RowKit
theorem row_take {W : World} {base c : Nat} {A : Option Addr} {T : TypeId} {rl : List Rl} (h : W.ownsRow base T 3 (.slice A rl.length c) rl.length (cellsOf encRl rl)) (k : Nat) : RowAt W W.heap.size A 3 (rl.take k).length (cellsOf encRl (rl.take k)) := by
 have h1 := RowAt.of_own h
 by_cases hk : k ≤ rl.length
 · have h2 := h1.head hk
   rw [cellsOf_take encRl 3 encRl_len] at h2
   rw [List.length_take, Nat.min_eq_left hk]
   exact h2
 · rw [List.take_of_length_le (by omega)]
   exact h1
theorem load_head {fs : List At} {rl : List Rl} (h : rl.map Rl.p = allR fs) (k : Nat) : (rl.take k).map Rl.p = (allR fs).take k := by rw [← h, List.map_take]
theorem load_end {fs : List At} {w W W5 W6 : World} {rl rl5 : List Rl} {fl fl5 : List Fl} {vr v6 : Value} {Af Ar5 : Option Addr} {cf cr5 : Nat}
 (hS : ScrSt w rl vr fl (.slice Af fl.length cf) W) (hb5 : Below W.heap.size W W5) (hp : rl5.map Rl.p = loadR fs)
 (hr5 : RowAt W5 W5.heap.size Ar5 3 rl5.length (cellsOf encRl rl5)) (hi5 : InAt 4 encTm Rl.tms W5 W5.heap.size rl5) (ha5 : ∀ a, Ar5 = some a → W.heap.size ≤ a.block)
 (ht5 : ∀ y ∈ rl5, ∀ a, y.tms.A = some a → (Value.slice Af fl.length cf).ownBlock ≠ some a.block)
 (hown : W6.ownsRow w.heap.size 55 3 v6 (fl.length + fl5.length) (cellsOf encFl fl ++ cellsOf encFl fl5)) (hg : W5.grownBy W6 (Value.slice Af fl.length cf).ownBlock) (hf : fl ++ fl5 = loadF fs) :
 LoadPost fs w (.returned (.tuple #[.slice Ar5 rl5.length cr5, v6])) W6 := by
 have hs5 := hb5.size
 have hs6 := hg.size
 have ho := own_join hown
 obtain ⟨A6, c6, rfl⟩ := own_slice ho
 refine ⟨Ar5, cr5, A6, c6, rl5, fl ++ fl5, rfl, hp, hf, ?_, RowAt.of_own ho, fun y hy => ?_, (bt hS.low hb5).grown hg (bt hS.low hb5).size (fun j e => (hS.f.lt j e).1)⟩
 · refine (hr5.other (Nat.le_refl _) hg (fun r e a ea e2 => ?_)).up hs6
   have h1 := ha5 a ea
   have h2 := (hS.f.lt r e).2
   omega
 · exact ((hi5 y hy).other (Nat.le_refl _) hg (fun r e a ea e2 => ht5 y hy a ea (by rw [e2]; exact e))).up hs6
theorem fl_snoc {fs : List At} {k : Nat} {rl : List Rl} (h : rl.map Rl.p = allR fs) (hk : 512 + k < rl.length) : overF (((allR fs).drop 512).take (k + 1)) = overF (((allR fs).drop 512).take k) ++ [⟨rl[512 + k].file, rl[512 + k].line, 170⟩] := by
 have hl : 512 + k < (allR fs).length := by rw [← h]; simpa using hk
 have hd : k < ((allR fs).drop 512).length := by rw [List.length_drop]; omega
 rw [List.take_succ_eq_append_getElem hd, overF_snoc]
 have e : ((allR fs).drop 512)[k] = Rl.p rl[512 + k] := by
  rw [List.getElem_drop]
  have : (rl.map Rl.p)[512 + k]? = (allR fs)[512 + k]? := by rw [h]
  rw [List.getElem?_map, List.getElem?_eq_getElem hk, List.getElem?_eq_getElem hl] at this
  exact (Option.some.inj this).symm
 rw [e]; rfl
set_option maxRecDepth 100000 in
set_option maxHeartbeats 8000000 in
theorem PLoad_any (A : Option Addr) (c : Nat) (fs : List At) (w : World) (hE : Env w) (hl : fs.length ≤ 100) (hz : ∀ x ∈ fs, x.val.size ≤ 10000) (h : RowAt w w.heap.size A 2 fs.length (cellsOf encAt fs)) :
 Calls Tryz.prog 18 #[.slice A fs.length c] w (LoadPost fs w) := by
 have HE := Lib.hid (fun (W : World) (hW : Below w.heap.size w W) => hE.go hW)
 have HZ := Lib.hid hz
 have H := Lib.hid h
 have HAl := Lib.hid (fun (k : Nat) => all_len (fs := fs.take k) (fun x hx => hz x (List.mem_of_mem_take hx)))
 obtain ⟨i0, hi0, hz0, hz1, hz2⟩ := info_parts rlInfo
 have Hi0 := Lib.hid hi0
 have Hz0 := Lib.hid hz0
 have Hz1 := Lib.hid hz1
 have Hz2 := Lib.hid hz2
 obtain ⟨j0, hj0, hy0, hy1, hy2⟩ := info_parts flInfo
 have Hj0 := Lib.hid hj0
 have Hy0 := Lib.hid hy0
 have Hy1 := Lib.hid hy1
 have Hy2 := Lib.hid hy2
 clear hi0 hz0 hz1 hz2 hj0 hy0 hy1 hy2 hE hz h
 obtain ⟨N, hN⟩ : ∃ N, fs.length = N := ⟨_, rfl⟩
 have HN := Lib.hid hN
 rw [hN] at hl ⊢
 clear hN
 go_enter Tryz.func18, Tryz.ntmps18
 go_wp2_with fail
 go_loopg [4, 5, 16] (N + 1) (fun gk s4 s5 s16 wr => ∃ (k : Nat) (rl : List Rl) (fl : List Fl) (Ar : Option Addr) (cr : Nat) (Af : Option Addr) (cf : Nat), s4 = .slice Ar rl.length cr ∧ s5 = .slice Af fl.length cf ∧ s16 = .int .i64 k ∧ k + gk = N + 1 ∧ k ≤ N ∧ rl.length ≤ 1000200 ∧ fl.length ≤ 1000200 ∧ Hid (ScrSt w rl (.slice Ar rl.length cr) fl (.slice Af fl.length cf) wr) ∧ Hid (rl.map Rl.p = allR (fs.take k)) ∧ Hid (fl = allF (fs.take k)))
 case atStart => exact ⟨0, [], [], none, 0, none, 0, rfl, rfl, rfl, by omega, Nat.zero_le _, by simp, by simp, ScrSt.start _, rfl, rfl⟩
 case round =>
  obtain ⟨k, rl, fl, Ar, cr, Af, cf, rfl, rfl, rfl, hkg, hkN, hrl, hfl, hSc, hRe, hFe⟩ := hrel
  by_cases hlt : k < N
  · have hltI : (k : Int) < (N : Int) := by omega
    have hk : k < fs.length := by rw [HN.out]; exact hlt
    have hx : fs[k]? = some fs[k] := List.getElem?_eq_getElem hk
    have hR2 := allR_take hk
    have hF2 := allF_take hk
    have hvz := HZ.out fs[k] (List.getElem_mem _)
    have hrow := H.out
    obtain ⟨ba, off, rfl, hba, hcc⟩ := hrow.fileX hx
    obtain ⟨c0, c1⟩ := hcc wr hSc.out.low
    obtain ⟨hA1, hA2⟩ := HAl.out (k + 1)
    rw [hR2, ← hRe.out] at hA1
    rw [hF2, ← hFe.out] at hA2
    rw [← hRe.out] at hR2
    rw [← hFe.out] at hF2
    have hk1 : (fs.take (k + 1)).length ≤ 100 := by rw [List.length_take]; omega
    generalize fs[k] = x at *
    obtain ⟨xn, xt⟩ := x
    dsimp only at c0 c1 hvz hR2 hF2 hA1 hA2
    have HR2 := Lib.hid hR2
    have HF2 := Lib.hid hF2
    have HPs := Lib.hid (PScript_any xn xt (wr.alloc (.cells #[.string xn, .string xt] 42)) (HE.out _ (bt hSc.out.low (below_alloc wr _))) (by omega))
    have HA : Hid (∀ rl2 : List Rl, rl2.map Rl.p = scrR xn (linesS xt) → rl.length + rl2.length ≤ 1000200) := Lib.hid fun rl2 e => by
     have := congrArg List.length e
     rw [List.length_map] at this
     rw [List.length_append, List.length_map] at hA1
     omega
    have HA' : Hid (fl.length + (scrF xn (linesS xt)).length ≤ 1000200) := Lib.hid (by rw [List.length_append] at hA2; omega)
    unfold ScrPost at HPs
    clear hx hrow hcc hR2 hF2 hRe hFe hk hk1 hvz hA1 hA2
    go_wp2_with (first
     | (go_at_call 22; refine HPs.out.mono ?_; rintro e wq ⟨vr2, vf2, rl2, fl2, rfl, hp2, hf2, hS2⟩; obtain ⟨A2, c2, rfl⟩ := own_slice hS2.r; obtain ⟨A2f, c2f, rfl⟩ := own_slice hS2.f; have hq1 := HA.out rl2 hp2; have hq2 := HA'.out; rw [← hf2] at hq2; have hwq := hS2.low.size; have HSq := Lib.hid (hSc.out.go (bt (below_alloc wr _) hS2.low)); have hap := scr_apart (hSc.out.go (below_alloc wr _)) hS2; have HAp := Lib.hid hap; have HS2 := Lib.hid hS2; have HP2 := Lib.hid hp2; have HF3 := Lib.hid hf2; have hwz := HSq.out.low.size; clear hS2 hap hp2 hf2)
     | (at_builtin; go_loud (refine wpList_append_row rfl (.tmp 25) (.tmp 26) 23 rfl w.heap.size 39 i0 _ 3 48 Tryz.underlying23 Hi0.out Hz0.out Hz1.out Hz2.out rfl (by omega) (.slice Ar rl.length cr) rl.length (cellsOf encRl rl) (by rfl) HSq.out.r A2 rl2.length c2 _ (cellsOf encRl rl2) (by rfl) (RowAt.of_own HS2.out.r) (cells_oneR rl2) (by unfold maxLen; omega) (by omega) (by omega) ?_; intro v8 w8 hown8 hg8 hat8 hnn8; have HRw8 := Lib.hid (RowAt.apart HS2.out.f hg8 HAp.out.2); have HJ8 := Lib.hid (HSq.out.joinR (Below.refl _ _) HS2.out.ir.at_ HAp.out.1 hown8 hg8 hat8); obtain ⟨A8, c8, rfl⟩ := own_slice hown8; have hw8 := HJ8.out.low.size; clear hown8 hg8 hat8 hnn8))
     | (at_builtin; go_loud (refine wpList_append_row rfl (.tmp 28) (.tmp 29) 28 rfl w.heap.size 55 j0 _ 3 32 Tryz.underlying28 Hj0.out Hy0.out Hy1.out Hy2.out rfl (by omega) (.slice Af fl.length cf) fl.length (cellsOf encFl fl) (by rfl) HJ8.out.f A2f fl2.length c2f _ (cellsOf encFl fl2) (by rfl) HRw8.out (cells_oneF fl2) (by unfold maxLen; omega) (by omega) (by omega) ?_; intro v9 w9 hown9 hg9 hat9 hnn9; have HJ9 := Lib.hid (HJ8.out.joinF (Below.refl _ _) hown9 hg9 hat9); obtain ⟨A9, c9, rfl⟩ := own_slice hown9; clear hown9 hg9 hat9 hnn9)))
    go_roundg (gk - 1)
    case measure => omega
    case rel => exact ⟨k + 1, rl ++ rl2, fl ++ fl2, A8, c8, A9, c9, by rw [List.length_append], by rw [List.length_append], by go_num, by omega, by omega, by rw [List.length_append]; omega, by rw [List.length_append]; omega, by rw [List.length_append, List.length_append]; exact HJ9.out, by rw [List.map_append, HP2.out]; exact HR2.out.symm, by rw [HF3.out]; exact HF2.out.symm⟩
  · obtain rfl : k = N := by omega
    have hkl : fs.take k = fs := List.take_of_length_le (by rw [HN.out]; exact Nat.le_refl _)
    have HRe : Hid (rl.map Rl.p = allR fs) := Lib.hid (by rw [hRe.out, hkl])
    have HFe : Hid (fl = allF fs) := Lib.hid (by rw [hFe.out, hkl])
    have hcap := cap_of hSc.out.r
    clear hRe hFe hkl
    have HSc := Lib.hid hSc.out
    have hwz := hSc.out.low.size
    have HF0 := HFe
    clear HFe hSc hlt hkg
    by_cases h512 : rl.length ≤ 512
    · have h512I : (rl.length : Int) ≤ 512 := by omega
      have htk : rl.take 512 = rl := List.take_of_length_le h512
      have HFe : Hid (fl = allF fs ++ overF ((allR fs).drop 512)) := Lib.hid (by
       have : (allR fs).length ≤ 512 := by rw [← HRe.out, List.length_map]; exact h512
       rw [HF0.out, List.drop_of_length_le this]; simp [overF])
      have HS := Lib.hid HSc.out
      have HLk := Lib.hid (PLink_any Ar cr (rl.take 512) wr (by rw [List.length_take]; omega) (fun x hx => all_tms HRe.out x (List.mem_of_mem_take hx)) (row_take HS.out.r 512) (InAt.sub HS.out.ir.at_ (fun y hy => List.mem_of_mem_take hy)))
      rw [htk] at HLk
      rw [show (rl.map Rl.p) = (rl.take 512).map Rl.p from by rw [htk]] at HLk
      unfold LinkPost at HLk
      have hmin : min (rl.length : Int) 512 = (rl.length : Int) := by omega
      clear htk
      have hcr : cr = rl.length ∨ ¬ cr = rl.length := by omega
      rcases hcr with rfl | hcr
      all_goals
       go_wp2_with fail
       go_loopg [5, 39] 1 (fun gk s5 s39 wx => s5 = .slice Af fl.length cf ∧ s39 = .int .i64 0 ∧ gk = 1 ∧ wr = wx)
       case atStart => exact ⟨rfl, rfl, rfl, rfl⟩
       case round =>
        obtain ⟨rfl, rfl, rfl, rfl⟩ := hrel
        go_wp2_with (first
         | (go_at_call 9; refine HLk.out.mono ?_; rintro e w5 ⟨A5, c5, A5f, c5f, rl5, fl5, rfl, hp5, hf5, hr5, hrf5, hi5, hb5, _, ha5, ht5⟩; rw [load_head HRe.out 512] at hp5 hf5; have hz5 := congrArg List.length hf5; have HB5 := Lib.hid hb5; have HP5 := Lib.hid hp5; have HF5 := Lib.hid hf5; have HR5 := Lib.hid hr5; have HRf5 := Lib.hid hrf5; have HI5 := Lib.hid hi5; have HA5 := Lib.hid ha5; have HT5 := Lib.hid ht5; have hs5 := hb5.size; have hq5 : fl5.length ≤ 512 := (by have h1 := linkF_len ((allR fs).take 512); rw [List.length_take] at h1; omega); clear hp5 hf5 hr5 hrf5 hi5 hb5 ha5 ht5 hz5)
         | (at_builtin; go_loud (refine wpList_append_row rfl (.tmp 60) (.tmp 61) 28 rfl w.heap.size 55 j0 _ 3 32 Tryz.underlying28 Hj0.out Hy0.out Hy1.out Hy2.out rfl (by omega) (.slice Af fl.length cf) fl.length (cellsOf encFl fl) (by rfl) (own_below2 HS.out.f HB5.out) A5f fl5.length c5f _ (cellsOf encFl fl5) (by rfl) HRf5.out (cells_oneF fl5) (by unfold maxLen; omega) (by omega) (by omega) ?_; intro v6 w6 hown6 hg6 _ _; have HE6 := Lib.hid (load_end (cr5 := c5) HS.out HB5.out HP5.out HR5.out HI5.out HA5.out (fun y hy a e e2 => by have h1 : wr.heap.size ≤ a.block := HT5.out y hy a e; have h2 := (HS.out.f.lt _ e2).2; omega) hown6 hg6 (by rw [HFe.out, HF5.out]; rfl)); clear hown6 hg6)))
        go_ret2
        exact HE6.out
    · have h512I : (512 : Int) < (rl.length : Int) := by omega
      obtain ⟨g, cap, hv, hg1, hg2⟩ := HSc.out.r.form (by omega)
      obtain ⟨rfl, rfl⟩ : Ar = some ⟨g, 0, none⟩ ∧ cr = cap := by injection hv with h1 _ h2; exact ⟨h1, h2⟩
      have hcr : ¬ cr = 512 := by omega
      have hmin : min (rl.length : Int) 512 = 512 := by omega
      clear hv
      go_wp2_with fail
      go_loopg [5, 39] (rl.length - 512 + 1) (fun gk s5 s39 wr => ∃ (k : Nat) (fl : List Fl) (Af : Option Addr) (cf : Nat), s5 = .slice Af fl.length cf ∧ s39 = .int .i64 k ∧ k + gk = rl.length - 512 + 1 ∧ k ≤ rl.length - 512 ∧ fl.length ≤ 1000200 + k ∧ Hid (ScrSt w rl (.slice (some ⟨g, 0, none⟩) rl.length cr) fl (.slice Af fl.length cf) wr) ∧ Hid (fl = allF fs ++ overF (((allR fs).drop 512).take k)))
      case atStart => exact ⟨0, fl, Af, cf, rfl, rfl, by omega, by omega, by omega, HSc.out, by show fl = _; rw [HF0.out]; simp [overF]⟩
      case round =>
       obtain ⟨k, fl, Af, cf, rfl, rfl, hkg, hkN, hfl, hSx, hFx⟩ := hrel
       have hwr := hSx.out.low.size
       by_cases hlt : k < rl.length - 512
       · have hltI : (k : Int) < ((rl.length - 512 : Nat) : Int) := by omega
         have hlt2 : 512 + k < rl.length := by omega
         obtain ⟨ba, off, hA, d0, d1, d2⟩ := (RowAt.of_own hSx.out.r).three encRl_len (Below.refl _ _) hlt2 _ _ _ rfl
         obtain ⟨rfl, rfl⟩ : g = ba ∧ 0 = off := by injection hA with hA; injection hA with h1 h2; exact ⟨h1, h2⟩
         have hF2 := fl_snoc HRe.out hlt2
         rw [show 0 + (512 + k) * 3 = 1536 + k * 3 by omega] at d0 d1 d2
         generalize rl[512 + k] = x at *
         obtain ⟨xf, xl, xA, xc, xt⟩ := x
         dsimp only at d0 d1 d2 hF2
         have HF2 := Lib.hid hF2
         have HSb := Lib.hid (hSx.out.go (below_alloc wr (.cells #[.string xf, .int .i64 xl, .slice xA xt.length xc] 39)))
         clear hA hF2
         go_wp2_with (at_builtin; go_loud (refine wpList_append_lies _ rfl _ _ _ (by rfl) w.heap.size 55 j0 _ 3 32 Tryz.underlying28 Hj0.out Hy0.out Hy1.out Hy2.out rfl (by omega) (.slice Af fl.length cf) fl.length (cellsOf encFl fl) (by rfl) (HSb.out.f.alloc _) _ 1 1 (encFl (⟨xf, xl, 170⟩ : Fl)) (by rfl) (by rfl) (by exact World.news_of_block (new_at (by simp))) (encFl_one _) (by omega) (by unfold maxLen; omega) (by omega) (by simp; omega) _ rfl ?_; intro g2 cap2 w9 hown2 hgrow2 hat2 hlt2; have HS9 := Lib.hid (HSb.out.pushF (y := (⟨xf, xl, 170⟩ : Fl)) (below_alloc _ _) hown2 hgrow2 hat2); clear hown2 hgrow2 hat2 hlt2))
         go_roundg (gk - 1)
         case measure => omega
         case rel => exact ⟨k + 1, fl ++ [(⟨xf, xl, 170⟩ : Fl)], _, _, by rw [List.length_append]; rfl, by go_num, by omega, by omega, by rw [List.length_append]; simp; omega, by rw [List.length_append]; exact HS9.out, by show fl ++ _ = _; rw [HF2.out, hFx.out, List.append_assoc]⟩
       · obtain rfl : k = rl.length - 512 := by omega
         have HFe : Hid (fl = allF fs ++ overF ((allR fs).drop 512)) := Lib.hid (by
          rw [hFx.out, List.take_of_length_le]
          rw [List.length_drop, ← HRe.out, List.length_map]
          exact Nat.le_refl _)
         have HS := Lib.hid hSx.out
         obtain ⟨Ar, hAr⟩ : ∃ Ar : Option Addr, some ⟨g, 0, none⟩ = Ar := ⟨_, rfl⟩
         rw [hAr] at HS
         have HLk := Lib.hid (PLink_any Ar cr (rl.take 512) wr (by rw [List.length_take]; omega) (fun x hx => all_tms HRe.out x (List.mem_of_mem_take hx)) (row_take HS.out.r 512) (InAt.sub HS.out.ir.at_ (fun y hy => List.mem_of_mem_take hy)))
         rw [show (rl.take 512).length = 512 from by rw [List.length_take]; omega] at HLk
         unfold LinkPost at HLk
         subst hAr
         clear hSx hFx hlt hkg
         go_wp2_with (first
          | (go_at_call 9; refine HLk.out.mono ?_; rintro e w5 ⟨A5, c5, A5f, c5f, rl5, fl5, rfl, hp5, hf5, hr5, hrf5, hi5, hb5, _, ha5, ht5⟩; rw [load_head HRe.out 512] at hp5 hf5; have hz5 := congrArg List.length hf5; have HB5 := Lib.hid hb5; have HP5 := Lib.hid hp5; have HF5 := Lib.hid hf5; have HR5 := Lib.hid hr5; have HRf5 := Lib.hid hrf5; have HI5 := Lib.hid hi5; have HA5 := Lib.hid ha5; have HT5 := Lib.hid ht5; have hs5 := hb5.size; have hq5 : fl5.length ≤ 512 := (by have h1 := linkF_len ((allR fs).take 512); rw [List.length_take] at h1; omega); clear hp5 hf5 hr5 hrf5 hi5 hb5 ha5 ht5 hz5)
          | (at_builtin; go_loud (refine wpList_append_row rfl (.tmp 60) (.tmp 61) 28 rfl w.heap.size 55 j0 _ 3 32 Tryz.underlying28 Hj0.out Hy0.out Hy1.out Hy2.out rfl (by omega) (.slice Af fl.length cf) fl.length (cellsOf encFl fl) (by rfl) (own_below2 HS.out.f HB5.out) A5f fl5.length c5f _ (cellsOf encFl fl5) (by rfl) HRf5.out (cells_oneF fl5) (by unfold maxLen; omega) (by omega) (by omega) ?_; intro v6 w6 hown6 hg6 _ _; have HE6 := Lib.hid (load_end (cr5 := c5) HS.out HB5.out HP5.out HR5.out HI5.out HA5.out (fun y hy a e e2 => by have h1 : wr.heap.size ≤ a.block := HT5.out y hy a e; have h2 := (HS.out.f.lt _ e2).2; omega) hown6 hg6 (by rw [HFe.out, HF5.out]; rfl)); clear hown6 hg6)))
         go_ret2
         exact HE6.out
end Go.Proofs.YtibflgfhjfcifaaGreatDoor
namespace Go.Proofs.YtibflgfhjfcifaaGreatDoor
open Go.RowKit
theorem fl_snoc2 {fs : List At} {m : Nat} {rl : List Rl} (h : rl.map Rl.p = allR fs) (hm : 512 ≤ m) (hk : m < rl.length) : overF (((allR fs).drop 512).take (m + 1 - 512)) = overF (((allR fs).drop 512).take (m - 512)) ++ [⟨rl[m].file, rl[m].line, 170⟩] := by
 obtain ⟨k, rfl⟩ : ∃ k, m = 512 + k := ⟨m - 512, by omega⟩
 rw [show 512 + k + 1 - 512 = k + 1 by omega, show 512 + k - 512 = k by omega]
 exact fl_snoc h hk
set_option maxRecDepth 100000 in
set_option maxHeartbeats 8000000 in
theorem RLoad_any (A : Option Addr) (c : Nat) (fs : List At) (w : World) (hE : Env0 w) (hl : fs.length ≤ 100) (hz : ∀ x ∈ fs, x.val.size ≤ 10000) (h : RowAt w w.heap.size A 2 fs.length (cellsOf encAt fs)) :
 Calls Tryz.prog 19 #[.slice A fs.length c] w (LoadPost fs w) := by
 have HE := Lib.hid (fun (W : World) (hW : Below w.heap.size w W) => hE.go hW)
 have HZ := Lib.hid hz
 have H := Lib.hid h
 have HAl := Lib.hid (fun (k : Nat) => all_len (fs := fs.take k) (fun x hx => hz x (List.mem_of_mem_take hx)))
 obtain ⟨i0, hi0, hz0, hz1, hz2⟩ := info_parts rlInfo
 have Hi0 := Lib.hid hi0
 have Hz0 := Lib.hid hz0
 have Hz1 := Lib.hid hz1
 have Hz2 := Lib.hid hz2
 obtain ⟨j0, hj0, hy0, hy1, hy2⟩ := info_parts flInfo
 have Hj0 := Lib.hid hj0
 have Hy0 := Lib.hid hy0
 have Hy1 := Lib.hid hy1
 have Hy2 := Lib.hid hy2
 clear hi0 hz0 hz1 hz2 hj0 hy0 hy1 hy2 hE hz h
 obtain ⟨N, hN⟩ : ∃ N, fs.length = N := ⟨_, rfl⟩
 have HN := Lib.hid hN
 rw [hN] at hl ⊢
 clear hN
 go_enter Tryz.func19, Tryz.ntmps19
 go_wp2_with fail
 go_loopg [4, 5, 6] (N + 1) (fun gk s4 s5 s6 wr => ∃ (k : Nat) (rl : List Rl) (fl : List Fl) (Ar : Option Addr) (cr : Nat) (Af : Option Addr) (cf : Nat), s4 = .slice Ar rl.length cr ∧ s5 = .slice Af fl.length cf ∧ s6 = .int .i64 k ∧ k + gk = N + 1 ∧ k ≤ N ∧ rl.length ≤ 1000200 ∧ fl.length ≤ 1000200 ∧ Hid (ScrSt w rl (.slice Ar rl.length cr) fl (.slice Af fl.length cf) wr) ∧ Hid (rl.map Rl.p = allR (fs.take k)) ∧ Hid (fl = allF (fs.take k)))
 case atStart => exact ⟨0, [], [], none, 0, none, 0, rfl, rfl, rfl, by omega, Nat.zero_le _, by simp, by simp, ScrSt.start _, rfl, rfl⟩
 case round =>
  obtain ⟨k, rl, fl, Ar, cr, Af, cf, rfl, rfl, rfl, hkg, hkN, hrl, hfl, hSc, hRe, hFe⟩ := hrel
  by_cases hlt : k < N
  · have hltI : (k : Int) < (N : Int) := by omega
    have hk : k < fs.length := by rw [HN.out]; exact hlt
    have hx : fs[k]? = some fs[k] := List.getElem?_eq_getElem hk
    have hR2 := allR_take hk
    have hF2 := allF_take hk
    have hvz := HZ.out fs[k] (List.getElem_mem _)
    have hrow := H.out
    obtain ⟨ba, off, rfl, hba, hcc⟩ := hrow.fileX hx
    obtain ⟨c0, c1⟩ := hcc wr hSc.out.low
    obtain ⟨hA1, hA2⟩ := HAl.out (k + 1)
    rw [hR2, ← hRe.out] at hA1
    rw [hF2, ← hFe.out] at hA2
    rw [← hRe.out] at hR2
    rw [← hFe.out] at hF2
    have hk1 : (fs.take (k + 1)).length ≤ 100 := by rw [List.length_take]; omega
    generalize fs[k] = x at *
    obtain ⟨xn, xt⟩ := x
    dsimp only at c0 c1 hvz hR2 hF2 hA1 hA2
    have HR2 := Lib.hid hR2
    have HF2 := Lib.hid hF2
    have HPs := Lib.hid (RScript_any xn xt wr (HE.out _ hSc.out.low) (by omega))
    have HA : Hid (∀ rl2 : List Rl, rl2.map Rl.p = scrR xn (linesS xt) → rl.length + rl2.length ≤ 1000200) := Lib.hid fun rl2 e => by
     have := congrArg List.length e
     rw [List.length_map] at this
     rw [List.length_append, List.length_map] at hA1
     omega
    have HA' : Hid (fl.length + (scrF xn (linesS xt)).length ≤ 1000200) := Lib.hid (by rw [List.length_append] at hA2; omega)
    unfold ScrPost at HPs
    clear hx hrow hcc hR2 hF2 hRe hFe hk hk1 hvz hA1 hA2
    go_wp2_with (first
     | (go_at_call 40; refine HPs.out.mono ?_; rintro e wq ⟨vr2, vf2, rl2, fl2, rfl, hp2, hf2, hS2⟩; obtain ⟨A2, c2, rfl⟩ := own_slice hS2.r; obtain ⟨A2f, c2f, rfl⟩ := own_slice hS2.f; have hq1 := HA.out rl2 hp2; have hq2 := HA'.out; rw [← hf2] at hq2; have hwq := hS2.low.size; have HSq := Lib.hid (hSc.out.go hS2.low); have hap := scr_apart hSc.out hS2; have HAp := Lib.hid hap; have HS2 := Lib.hid hS2; have HP2 := Lib.hid hp2; have HF3 := Lib.hid hf2; have hwz := HSq.out.low.size; clear hS2 hap hp2 hf2)
     | (at_builtin; go_loud (refine wpList_append_row rfl (.tmp 26) (.tmp 27) 23 rfl w.heap.size 39 i0 _ 3 48 Tryz.underlying23 Hi0.out Hz0.out Hz1.out Hz2.out rfl (by omega) (.slice Ar rl.length cr) rl.length (cellsOf encRl rl) (by rfl) HSq.out.r A2 rl2.length c2 _ (cellsOf encRl rl2) (by rfl) (RowAt.of_own HS2.out.r) (cells_oneR rl2) (by unfold maxLen; omega) (by omega) (by omega) ?_; intro v8 w8 hown8 hg8 hat8 hnn8; have HRw8 := Lib.hid (RowAt.apart HS2.out.f hg8 HAp.out.2); have HJ8 := Lib.hid (HSq.out.joinR (Below.refl _ _) HS2.out.ir.at_ HAp.out.1 hown8 hg8 hat8); obtain ⟨A8, c8, rfl⟩ := own_slice hown8; have hw8 := HJ8.out.low.size; clear hown8 hg8 hat8 hnn8))
     | (at_builtin; go_loud (refine wpList_append_row rfl (.tmp 29) (.tmp 30) 28 rfl w.heap.size 55 j0 _ 3 32 Tryz.underlying28 Hj0.out Hy0.out Hy1.out Hy2.out rfl (by omega) (.slice Af fl.length cf) fl.length (cellsOf encFl fl) (by rfl) HJ8.out.f A2f fl2.length c2f _ (cellsOf encFl fl2) (by rfl) HRw8.out (cells_oneF fl2) (by unfold maxLen; omega) (by omega) (by omega) ?_; intro v9 w9 hown9 hg9 hat9 hnn9; have HJ9 := Lib.hid (HJ8.out.joinF (Below.refl _ _) hown9 hg9 hat9); obtain ⟨A9, c9, rfl⟩ := own_slice hown9; clear hown9 hg9 hat9 hnn9)))
    go_roundg (gk - 1)
    case measure => omega
    case rel => exact ⟨k + 1, rl ++ rl2, fl ++ fl2, A8, c8, A9, c9, by rw [List.length_append], by rw [List.length_append], by go_num, by omega, by omega, by rw [List.length_append]; omega, by rw [List.length_append]; omega, by rw [List.length_append, List.length_append]; exact HJ9.out, by rw [List.map_append, HP2.out]; exact HR2.out.symm, by rw [HF3.out]; exact HF2.out.symm⟩
  · obtain rfl : k = N := by omega
    have hkl : fs.take k = fs := List.take_of_length_le (by rw [HN.out]; exact Nat.le_refl _)
    have HRe : Hid (rl.map Rl.p = allR fs) := Lib.hid (by rw [hRe.out, hkl])
    have HFe : Hid (fl = allF fs) := Lib.hid (by rw [hFe.out, hkl])
    have hcap := cap_of hSc.out.r
    clear hRe hFe hkl
    have HSc := Lib.hid hSc.out
    have hwz := hSc.out.low.size
    have HF0 := HFe
    clear HFe hSc hlt hkg
    by_cases h512 : rl.length ≤ 512
    · have h512I : ¬ (512 : Int) < (rl.length : Int) := by omega
      have htk : rl.take 512 = rl := List.take_of_length_le h512
      have HFe : Hid (fl = allF fs ++ overF ((allR fs).drop 512)) := Lib.hid (by
       have : (allR fs).length ≤ 512 := by rw [← HRe.out, List.length_map]; exact h512
       rw [HF0.out, List.drop_of_length_le this]; simp [overF])
      have HS := Lib.hid HSc.out
      have HLk := Lib.hid (RLink_any Ar cr (rl.take 512) wr (by rw [List.length_take]; omega) (fun x hx => (all_tms HRe.out x (List.mem_of_mem_take hx)).2.1) (row_take HS.out.r 512) (InAt.sub HS.out.ir.at_ (fun y hy => List.mem_of_mem_take hy)))
      rw [htk] at HLk
      rw [show (rl.map Rl.p) = (rl.take 512).map Rl.p from by rw [htk]] at HLk
      unfold LinkPost at HLk
      clear htk
      have hcr : cr = rl.length ∨ ¬ cr = rl.length := by omega
      rcases hcr with rfl | hcr
      all_goals
       go_wp2_with fail
       go_loopg [5, 9] 1 (fun gk s5 s9 wx => s5 = .slice Af fl.length cf ∧ s9 = .int .i64 512 ∧ gk = 1 ∧ wr = wx)
       case atStart => exact ⟨rfl, rfl, rfl, rfl⟩
       case round =>
        obtain ⟨rfl, rfl, rfl, rfl⟩ := hrel
        go_wp2_with (first
         | (go_at_call 10; refine HLk.out.mono ?_; rintro e w5 ⟨A5, c5, A5f, c5f, rl5, fl5, rfl, hp5, hf5, hr5, hrf5, hi5, hb5, _, ha5, ht5⟩; rw [load_head HRe.out 512] at hp5 hf5; have hz5 := congrArg List.length hf5; have HB5 := Lib.hid hb5; have HP5 := Lib.hid hp5; have HF5 := Lib.hid hf5; have HR5 := Lib.hid hr5; have HRf5 := Lib.hid hrf5; have HI5 := Lib.hid hi5; have HA5 := Lib.hid ha5; have HT5 := Lib.hid ht5; have hs5 := hb5.size; have hq5 : fl5.length ≤ 512 := (by have h1 := linkF_len ((allR fs).take 512); rw [List.length_take] at h1; omega); clear hp5 hf5 hr5 hrf5 hi5 hb5 ha5 ht5 hz5)
         | (at_builtin; go_loud (refine wpList_append_row rfl (.tmp 63) (.tmp 64) 28 rfl w.heap.size 55 j0 _ 3 32 Tryz.underlying28 Hj0.out Hy0.out Hy1.out Hy2.out rfl (by omega) (.slice Af fl.length cf) fl.length (cellsOf encFl fl) (by rfl) (own_below2 HS.out.f HB5.out) A5f fl5.length c5f _ (cellsOf encFl fl5) (by rfl) HRf5.out (cells_oneF fl5) (by unfold maxLen; omega) (by omega) (by omega) ?_; intro v6 w6 hown6 hg6 _ _; have HE6 := Lib.hid (load_end (cr5 := c5) HS.out HB5.out HP5.out HR5.out HI5.out HA5.out (fun y hy a e e2 => by obtain ⟨x, hx, ex⟩ := HT5.out y hy a e; have hx2 : x ∈ rl := (by first | exact hx | exact List.mem_of_mem_take hx); exact (HS.out.fr x hx2).off (all_tms HRe.out x hx2).1 a ex e2.symm) hown6 hg6 (by rw [HFe.out, HF5.out]; rfl)); clear hown6 hg6)))
        go_ret2
        exact HE6.out
    · have h512I : (512 : Int) < (rl.length : Int) := by omega
      obtain ⟨g, cap, hv, hg1, hg2⟩ := HSc.out.r.form (by omega)
      obtain ⟨rfl, rfl⟩ : Ar = some ⟨g, 0, none⟩ ∧ cr = cap := by injection hv with h1 _ h2; exact ⟨h1, h2⟩
      clear hv
      go_wp2_with fail
      go_loopg [5, 9] (rl.length - 512 + 1) (fun gk s5 s9 wr => ∃ (m : Nat) (fl : List Fl) (Af : Option Addr) (cf : Nat), s5 = .slice Af fl.length cf ∧ s9 = .int .i64 (m : Int) ∧ m + gk = rl.length + 1 ∧ 512 ≤ m ∧ m ≤ rl.length ∧ fl.length ≤ 1000200 + m ∧ Hid (ScrSt w rl (.slice (some ⟨g, 0, none⟩) rl.length cr) fl (.slice Af fl.length cf) wr) ∧ Hid (fl = allF fs ++ overF (((allR fs).drop 512).take (m - 512))))
      case atStart => exact ⟨512, fl, Af, cf, rfl, rfl, by omega, by omega, by omega, by omega, HSc.out, by show fl = _; rw [HF0.out]; simp [overF]⟩
      case round =>
       obtain ⟨m, fl, Af, cf, rfl, rfl, hkg, hm5, hkN, hfl, hSx, hFx⟩ := hrel
       have hwr := hSx.out.low.size
       by_cases hlt : m < rl.length
       · have hltI : (m : Int) < (rl.length : Int) := by omega
         have hlt2 := hlt
         have HQ0 : Hid (∀ W' : World, W'.ownsRow w.heap.size 39 3 (.slice (some ⟨g, 0, none⟩) rl.length cr) rl.length (cellsOf encRl rl) → W'.cell? ⟨g, m * 3, none⟩ = some (.string rl[m].file) ∧ W'.cell? ⟨g, m * 3 + 1, none⟩ = some (.int .i64 rl[m].line)) := Lib.hid fun W' ho => by
          obtain ⟨ba, off, hA, d0, d1, d2⟩ := (RowAt.of_own ho).three encRl_len (Below.refl _ _) hlt2 _ _ _ rfl
          obtain ⟨rfl, rfl⟩ : g = ba ∧ 0 = off := by injection hA with hA; injection hA with h1 h2; exact ⟨h1, h2⟩
          rw [Nat.zero_add] at d0 d1
          exact ⟨d0, d1⟩
         have hF2 := fl_snoc2 HRe.out hm5 hlt2
         generalize rl[m].file = xf at *
         generalize rl[m].line = xl at *
         have HF2 := Lib.hid hF2
         have HQc := HQ0
         have HQ : Hid (∀ W', Below wr.heap.size wr W' → W'.cell? ⟨g, m * 3, none⟩ = some (.string xf) ∧ W'.cell? ⟨g, m * 3 + 1, none⟩ = some (.int .i64 xl)) := Lib.hid fun W' hb => HQc.out W' (own_below2 hSx.out.r hb)
         clear hF2 HQ0
         go_wp2_with fail
         refine wp_region_held_drew (S := fun W' => W'.cell? ⟨g, m * 3, none⟩ = some (.string xf) ∧ W'.cell? ⟨g, m * 3 + 1, none⟩ = some (.int .i64 xl)) (by kernel_rfl) ?_ (fun hHeld => ?_)
         · exact HQ.out _ (by go_grown)
         refine wpAnyH_take (i := 0) (v := ?_) (by simp only [List.getElem?_toArray, List.getElem?_cons_zero]; rfl) (by kernel_rfl) (by kernel_rfl) (by kernel_rfl) (by exact fun _ _ _ h => h) (Or.inl ⟨by rfl, ?_⟩) (by assumption) ?_
         rotate_left
         · intro w hSw
           go_simp
           try with_reducible rfl
         try simp only [Act.put, List.setIfInBounds_toArray, List.set_cons_zero, List.set_cons_succ]
         refine wpAnyH_take (i := 1) (v := ?_) (by simp only [List.getElem?_toArray, List.getElem?_cons_succ, List.getElem?_cons_zero]; rfl) (by kernel_rfl) (by kernel_rfl) (by kernel_rfl) (by exact fun _ _ _ h => h) (Or.inl ⟨by rfl, ?_⟩) (by assumption) ?_
         rotate_left
         · intro w hSw
           go_simp
           try with_reducible rfl
         try simp only [Act.put, List.setIfInBounds_toArray, List.set_cons_zero, List.set_cons_succ]
         refine wpAnyH_take (i := 2) (v := ?_) (by simp only [List.getElem?_toArray, List.getElem?_cons_succ, List.getElem?_cons_zero]; rfl) (by kernel_rfl) (by kernel_rfl) (by kernel_rfl) (by exact fun _ _ _ h => h) (Or.inl ⟨by rfl, ?_⟩) (by assumption) ?_
         rotate_left
         · intro w hSw
           go_simp
           try with_reducible rfl
         try simp only [Act.put, List.setIfInBounds_toArray, List.set_cons_zero, List.set_cons_succ]
         refine wpAnyH_take (i := 3) (v := ?_) (by simp only [List.getElem?_toArray, List.getElem?_cons_succ, List.getElem?_cons_zero]; rfl) (by kernel_rfl) (by kernel_rfl) (by kernel_rfl) (by exact fun _ _ _ h => h) (Or.inl ⟨by rfl, ?_⟩) (by assumption) ?_
         rotate_left
         · intro w hSw
           go_simp
           try with_reducible rfl
         try simp only [Act.put, List.setIfInBounds_toArray, List.set_cons_zero, List.set_cons_succ]
         refine wpAnyH_take (i := 4) (v := ?_) (by simp only [List.getElem?_toArray, List.getElem?_cons_succ, List.getElem?_cons_zero]; rfl) (by kernel_rfl) (by kernel_rfl) (by kernel_rfl) (by exact fun _ _ _ h => h) (Or.inl ⟨by rfl, ?_⟩) (by assumption) ?_
         rotate_left
         · intro w hSw
           go_simp
           try with_reducible rfl
         try simp only [Act.put, List.setIfInBounds_toArray, List.set_cons_zero, List.set_cons_succ]
         refine wpAnyH_take (i := 5) (v := ?_) (by simp only [List.getElem?_toArray, List.getElem?_cons_succ, List.getElem?_cons_zero]; rfl) (by kernel_rfl) (by kernel_rfl) (by kernel_rfl) (by exact fun _ _ _ h => h) (Or.inl ⟨by rfl, ?_⟩) (by assumption) ?_
         rotate_left
         · intro w hSw
           go_simp
           try with_reducible rfl
         try simp only [Act.put, List.setIfInBounds_toArray, List.set_cons_zero, List.set_cons_succ]
         refine wpAnyH_take (i := 6) (v := ?_) (by simp only [List.getElem?_toArray, List.getElem?_cons_succ, List.getElem?_cons_zero]; rfl) (by kernel_rfl) (by kernel_rfl) (by kernel_rfl) (by exact fun _ _ _ h => h) (Or.inl ⟨by rfl, ?_⟩) (by assumption) ?_
         rotate_left
         · intro w hSw
           go_simp
           try with_reducible rfl
         try simp only [Act.put, List.setIfInBounds_toArray, List.set_cons_zero, List.set_cons_succ]
         refine wpAnyH_take (i := 7) (v := ?_) (by simp only [List.getElem?_toArray, List.getElem?_cons_succ, List.getElem?_cons_zero]; rfl) (by kernel_rfl) (by kernel_rfl) (by kernel_rfl) (by exact fun _ _ _ h => h) (Or.inl ⟨by rfl, ?_⟩) (by assumption) ?_
         rotate_left
         · intro w hSw
           go_simp
           try with_reducible rfl
         try simp only [Act.put, List.setIfInBounds_toArray, List.set_cons_zero, List.set_cons_succ]
         refine wpAnyH_take (i := 8) (v := ?_) (by simp only [List.getElem?_toArray, List.getElem?_cons_succ, List.getElem?_cons_zero]; rfl) (by kernel_rfl) (by kernel_rfl) (by kernel_rfl) (by exact fun _ _ _ h => h) (Or.inl ⟨by rfl, ?_⟩) (by assumption) ?_
         rotate_left
         · intro w hSw
           go_simp
           try with_reducible rfl
         try simp only [Act.put, List.setIfInBounds_toArray, List.set_cons_zero, List.set_cons_succ]
         refine wpAnyH_take (i := 9) (v := ?_) (by simp only [List.getElem?_toArray, List.getElem?_cons_succ, List.getElem?_cons_zero]; rfl) (by kernel_rfl) (by kernel_rfl) (by kernel_rfl) (by exact fun _ _ _ h => h) (Or.inl ⟨by rfl, ?_⟩) (by assumption) ?_
         rotate_left
         · intro w hSw
           go_simp
           try with_reducible rfl
         try simp only [Act.put, List.setIfInBounds_toArray, List.set_cons_zero, List.set_cons_succ]
         refine wpAnyH_take (i := 10) (v := ?_) (by simp only [List.getElem?_toArray, List.getElem?_cons_succ, List.getElem?_cons_zero]; rfl) (by kernel_rfl) (by kernel_rfl) (by kernel_rfl) (by exact fun _ _ _ h => h) (Or.inl ⟨by rfl, ?_⟩) (by assumption) ?_
         rotate_left
         · intro w hSw
           go_simp
           try with_reducible rfl
         try simp only [Act.put, List.setIfInBounds_toArray, List.set_cons_zero, List.set_cons_succ]
         refine wpAnyH_take (i := 11) (v := ?_) (by simp only [List.getElem?_toArray, List.getElem?_cons_succ, List.getElem?_cons_zero]; rfl) (by kernel_rfl) (by kernel_rfl) (by kernel_rfl) (by exact fun _ _ _ h => h) (Or.inl ⟨by rfl, ?_⟩) (by assumption) ?_
         rotate_left
         · intro w hSw
           go_simp
           try with_reducible rfl
         try simp only [Act.put, List.setIfInBounds_toArray, List.set_cons_zero, List.set_cons_succ]
         refine wpAnyH_ready (rs := [12]) (by kernel_rfl) (by simp) ?_
         refine AllReadyH.cons (by simp only [List.getElem?_toArray, List.getElem?_cons_succ, List.getElem?_cons_zero]; rfl) (fun K hK => ?_) AllReadyH.nil
         go_simp
         refine hK.out _ _ (by first | exact HQ9.out | exact HQ.out _ (by go_grown)) (fun hHeld => ?_)
         clear hK K
         try simp only [Act.put, List.setIfInBounds_toArray, List.set_cons_zero, List.set_cons_succ]
         refine wpAnyH_ready (rs := [13]) (by kernel_rfl) (by simp) ?_
         refine AllReadyH.cons (by simp only [List.getElem?_toArray, List.getElem?_cons_succ, List.getElem?_cons_zero]; rfl) (fun K hK => ?_) AllReadyH.nil
         refine step_append_lies _ (by rfl) _ _ _ (by rfl) w.heap.size 55 j0 _ 3 32 Tryz.underlying28 Hj0.out Hy0.out Hy1.out Hy2.out rfl (by omega) (.slice Af fl.length cf) fl.length (cellsOf encFl fl) (by rfl) (own_below2 hSx.out.f (by go_grown)) _ 1 1 (encFl (⟨xf, xl, 170⟩ : Fl)) (by rfl) (by rfl) (by first | exact World.news_of_block (heap_alloc_new _ _) | exact World.news_of_block (B := wr.heap.size) (heap_alloc_new wr _)) (encFl_one _) (by omega) (by unfold maxLen; omega) (by omega) (by simp; omega) _ rfl ?_
         intro g2 cap2 w9 hown2 hgrow2 hat2 hlt2
         have HS9 := Lib.hid (hSx.out.pushF (y := (⟨xf, xl, 170⟩ : Fl)) (by go_grown) hown2 hgrow2 hat2)
         have HQ9 : Hid (w9.cell? ⟨g, m * 3, none⟩ = some (.string xf) ∧ w9.cell? ⟨g, m * 3 + 1, none⟩ = some (.int .i64 xl)) := Lib.hid (HQc.out w9 HS9.out.r)
         clear hown2 hgrow2 hat2 hlt2
         refine hK.out _ _ (by first | exact HQ9.out | exact HQ.out _ (by go_grown)) (fun hHeld => ?_)
         clear hK K
         try simp only [Act.put, List.setIfInBounds_toArray, List.set_cons_zero, List.set_cons_succ]
         refine wpAnyH_take (i := 14) (v := ?_) (by simp only [List.getElem?_toArray, List.getElem?_cons_succ, List.getElem?_cons_zero]; rfl) (by kernel_rfl) (by kernel_rfl) (by kernel_rfl) (by exact fun _ _ _ h => h) (Or.inl ⟨by rfl, ?_⟩) (by assumption) ?_
         rotate_left
         · intro w hSw
           go_simp
           try with_reducible rfl
         try simp only [Act.put, List.setIfInBounds_toArray, List.set_cons_zero, List.set_cons_succ]
         refine wpAnyH_done (by kernel_rfl) ?_ _
         go_wp2
         go_roundg (gk - 1)
         case measure => omega
         case rel => exact ⟨m + 1, fl ++ [(⟨xf, xl, 170⟩ : Fl)], _, _, by rw [List.length_append]; rfl, by go_num, by omega, by omega, by omega, by rw [List.length_append]; simp; omega, by rw [List.length_append]; exact HS9.out, by show fl ++ _ = _; rw [HF2.out, hFx.out, List.append_assoc]⟩
       · obtain rfl : m = rl.length := by omega
         have HFe : Hid (fl = allF fs ++ overF ((allR fs).drop 512)) := Lib.hid (by
          rw [hFx.out, List.take_of_length_le]
          rw [List.length_drop, ← HRe.out, List.length_map]
          exact Nat.le_refl _)
         have HS := Lib.hid hSx.out
         obtain ⟨Ar, hAr⟩ : ∃ Ar : Option Addr, some ⟨g, 0, none⟩ = Ar := ⟨_, rfl⟩
         rw [hAr] at HS
         have HLk := Lib.hid (RLink_any Ar cr (rl.take 512) wr (by rw [List.length_take]; omega) (fun x hx => (all_tms HRe.out x (List.mem_of_mem_take hx)).2.1) (row_take HS.out.r 512) (InAt.sub HS.out.ir.at_ (fun y hy => List.mem_of_mem_take hy)))
         rw [show (rl.take 512).length = 512 from by rw [List.length_take]; omega] at HLk
         unfold LinkPost at HLk
         subst hAr
         clear hSx hFx hlt hkg
         go_wp2_with (first
          | (go_at_call 10; refine HLk.out.mono ?_; rintro e w5 ⟨A5, c5, A5f, c5f, rl5, fl5, rfl, hp5, hf5, hr5, hrf5, hi5, hb5, _, ha5, ht5⟩; rw [load_head HRe.out 512] at hp5 hf5; have hz5 := congrArg List.length hf5; have HB5 := Lib.hid hb5; have HP5 := Lib.hid hp5; have HF5 := Lib.hid hf5; have HR5 := Lib.hid hr5; have HRf5 := Lib.hid hrf5; have HI5 := Lib.hid hi5; have HA5 := Lib.hid ha5; have HT5 := Lib.hid ht5; have hs5 := hb5.size; have hq5 : fl5.length ≤ 512 := (by have h1 := linkF_len ((allR fs).take 512); rw [List.length_take] at h1; omega); clear hp5 hf5 hr5 hrf5 hi5 hb5 ha5 ht5 hz5)
          | (at_builtin; go_loud (refine wpList_append_row rfl (.tmp 63) (.tmp 64) 28 rfl w.heap.size 55 j0 _ 3 32 Tryz.underlying28 Hj0.out Hy0.out Hy1.out Hy2.out rfl (by omega) (.slice Af fl.length cf) fl.length (cellsOf encFl fl) (by rfl) (own_below2 HS.out.f HB5.out) A5f fl5.length c5f _ (cellsOf encFl fl5) (by rfl) HRf5.out (cells_oneF fl5) (by unfold maxLen; omega) (by omega) (by omega) ?_; intro v6 w6 hown6 hg6 _ _; have HE6 := Lib.hid (load_end (cr5 := c5) HS.out HB5.out HP5.out HR5.out HI5.out HA5.out (fun y hy a e e2 => by obtain ⟨x, hx, ex⟩ := HT5.out y hy a e; have hx2 : x ∈ rl := (by first | exact hx | exact List.mem_of_mem_take hx); exact (HS.out.fr x hx2).off (all_tms HRe.out x hx2).1 a ex e2.symm) hown6 hg6 (by rw [HFe.out, HF5.out]; rfl)); clear hown6 hg6)))
         go_ret2
         exact HE6.out
end Go.Proofs.YtibflgfhjfcifaaGreatDoor
