/-
  Contract of coldplugworld's Text: some short text.
  Directories of files, in plain words: which names there are, what is wrong, which files count, what has changed; no program in sight.
  Directories of files as they lie in memory: a row of slices, each slice a row of files.
  A law at the append of a row that may be empty to a row of the call's own. Over any program.
-/
import Derived.Test.YtibflgfhjfcifaaGreatDoorG06
import Derived.Test.YtibflgfhjfcifaaGreatDoorG19
import Derived.Test.YtibflgfhjfcifaaGreatDoorG08
import Derived.Test.YtibflgfhjfcifaaGreatDoorG00
import Derived.Laws.AppendOwnNone
import Derived.Deep.AppendLies
namespace Go.Proofs.YtibflgfhjfcifaaGreatDoor
open Go.RowKit
theorem Env0.nx {w0 w w' : World} {b n p d : Nat} (h : Env0 w) (hT : TNx w0 b n p d w w') (hb : nG ≤ b) : Env0 w' := by
 have h1 := h.size
 refine h.keep (B := nG) ⟨hT.gr.os, hT.gr.tape, hT.gr.output, hT.gr.size, fun k hk => hT.gr.block k (by omega) (fun e => ?_)⟩ (Nat.le_refl _)
 have := Option.some.inj e
 omega
theorem TNx.belowR {w0 W W1 W2 : World} {b n p d : Nat} (h : TNx w0 b n p d W W1) (hb : Below W1.heap.size W1 W2) : TNx w0 b n p d W W2 := h.grownR (grown_below hb none) (fun _ e => by cases e)
theorem fmtS_len (l : List Tk) : (fmtS l).1.length ≤ 1024 := by
 unfold fmtS
 split
 · split
   · exact Nat.zero_le _
   · dsimp only; omega
 · exact Nat.zero_le _
theorem formatE_len (l : List Tm) : (formatE l).1.length ≤ 1024 := by
 unfold formatE
 split
 · exact fmtS_len _
 · exact Nat.zero_le _
set_option maxRecDepth 100000 in
set_option maxHeartbeats 8000000 in
theorem WText_any {w0 w : World} {b n p d : Nat} (h : TSt w0 b n p d w) (hE : Env0 w) (hb : nG ≤ b) (h3 : p + d ≤ 80000) :
 Calls Tryz.prog 39 #[.pointer (some ⟨b, 0, none⟩), .int .i64 4] w (SomeStr (·.size ≤ 6000) (TNx w0 b n p (d + 500) w)) := by
 have H := Lib.hid h
 have HE := Lib.hid hE
 clear h hE
 go_enter Tryz.func39, Tryz.ntmps39
 go_wp2_with fail
 (with_reducible refine (Next_t (n := n) (p := p) _ H.out (by omega) (by omega) (by omega)).mono ?_)
 rintro e w1 ⟨r, r0, r1, rfl, hT1⟩
 obtain ⟨rn, rfl⟩ := Int.eq_ofNat_of_zero_le r0
 have hrn : rn ≤ 4 := by omega
 have HT1 := Lib.hid hT1
 clear hT1 r0 r1
 clear H
 go_wp2
 go_loopg [5, 6] 5 (fun gk s5 s6 wr => ∃ (k : Nat) (s : ByteArray) (D : Nat), s5 = .string s ∧ s6 = .int .i64 k ∧ k + 1 ≤ gk ∧ k ≤ 4 ∧ s.size + 1100 * k ≤ 4400 ∧ D + 111 * k ≤ d + 445 ∧ Hid (TNx w0 b n p D w wr))
 case atStart => exact ⟨rn, ⟨#[]⟩, d + 1, rfl, rfl, by omega, hrn, by show 0 + 1100 * rn ≤ 4400; omega, by omega, HT1.out⟩
 case round =>
  obtain ⟨k, s, D, rfl, rfl, hkg, hk4, hsz, hD, hT⟩ := hrel
  by_cases hk : 0 < k
  · have hkI : (0 : Int) < (k : Int) := by omega
    go_wp2_with fail
    (with_reducible refine (Terms_any (n := n) (p := p) hT.out.st (by omega)).mono ?_)
    rintro e w2 ⟨v, l, rfl, hl1, hl6, hTT⟩
    obtain ⟨A, c, rfl⟩ := own_slice hTT.row.own
    have HT2 := Lib.hid (hT.out.trans hTT.row.nx)
    have HF := Lib.hid (RFormat_any A c l w2 (HE.out.nx HT2.out hb) (RowAt.of_own hTT.row.own) (by omega) (fun t ht => (hTT.small t ht).ok (by omega)))
    unfold FormatPost at HF
    have hfl := formatE_len l
    generalize (formatE l).1 = ft at *
    generalize (formatE l).2 = fe at *
    clear hTT
    go_wp2_with fail
    refine HF.out.mono ?_
    rintro e w3 ⟨rfl, hb3⟩
    have HT3 := Lib.hid (HT2.out.belowR hb3)
    clear hb3 HF
    go_wp2_with fail
    (with_reducible refine (Next_t (n := n) (p := p) _ HT3.out.st (by omega) (by omega) (by omega)).mono ?_)
    rintro e w4 ⟨r2, r0, r1, rfl, hT4⟩
    have HT4 := Lib.hid (HT3.out.trans hT4)
    clear hT4
    have hfz : (bs ft).size ≤ 1024 := by rw [size_bs]; exact hfl
    generalize bs ft = x at *
    have q1 : (9223372036854775807 < 2 + x.size) = False := by simp; omega
    have q2 : (9223372036854775807 < x.size + 2) = False := by simp; omega
    have q3 : (9223372036854775807 < x.size + 1) = False := by simp; omega
    have q4 : (9223372036854775807 < s.size + (x.size + 1)) = False := by simp; omega
    have q5 : (9223372036854775807 < 2 + x.size + 1) = False := by simp; omega
    have q6 : (9223372036854775807 < x.size + 2 + 1) = False := by simp; omega
    have q7 : (9223372036854775807 < s.size + (2 + x.size + 1)) = False := by simp; omega
    have q8 : (9223372036854775807 < s.size + (x.size + 2 + 1)) = False := by simp; omega
    by_cases h0 : r2 = 0
    · subst h0
      go_wp2
      go_roundg (gk - 1)
      case measure => omega
      case rel => exact ⟨k - 1, _, D + 101, rfl, by rw [show ((k - 1 : Nat) : Int) = (k : Int) - 1 from by omega], by omega, by omega, by simp only [ByteArray.size_append]; show s.size + (2 + x.size + 1) + 1100 * (k - 1) ≤ 4400; omega, by omega, HT4.out⟩
    have e0 : (r2 == 0) = false := by simp [h0]
    by_cases h1 : r2 = 1
    · subst h1
      go_wp2
      go_roundg (gk - 1)
      case measure => omega
      case rel => exact ⟨k - 1, _, D + 101, rfl, by rw [show ((k - 1 : Nat) : Int) = (k : Int) - 1 from by omega], by omega, by omega, by simp only [ByteArray.size_append]; show s.size + (x.size + 2 + 1) + 1100 * (k - 1) ≤ 4400; omega, by omega, HT4.out⟩
    have e1 : (r2 == 1) = false := by simp [h1]
    clear h0 h1
    go_wp2
    go_roundg (gk - 1)
    case measure => omega
    case rel => exact ⟨k - 1, _, D + 101, rfl, by rw [show ((k - 1 : Nat) : Int) = (k : Int) - 1 from by omega], by omega, by omega, by simp only [ByteArray.size_append]; show s.size + (x.size + 1) + 1100 * (k - 1) ≤ 4400; omega, by omega, HT4.out⟩
  · obtain rfl : k = 0 := by omega
    go_wp2
    go_ret
    exact ⟨s, by omega, rfl, hT.out.more (by omega)⟩
end Go.Proofs.YtibflgfhjfcifaaGreatDoor
namespace Go.Proofs.YtibflgfhjfcifaaGreatDoor
open Go.RowKit
theorem bless : ∀ x y : Str, Op.bytesLess x y = decide (x < y)
 | [], [] => by simp [Op.bytesLess]
 | [], _ :: _ => by simp [Op.bytesLess]
 | _ :: _, [] => by simp [Op.bytesLess]
 | a :: x, b :: y => by
   rw [Op.bytesLess, bless x y]
   simp only [List.cons_lt_cons_iff]
   by_cases h1 : a < b <;> by_cases h2 : a = b <;> by_cases h3 : x < y <;> simp [h1, h2, h3]
theorem slt_irr (x : Str) : ¬ x < x := List.lt_irrefl x
theorem slt_tr {x y z : Str} (h : x < y) (k : y < z) : x < z := List.lt_trans h k
theorem slt_tri {x y : Str} (h : ¬ x < y) (k : x ≠ y) : y < x := by
 rcases List.le_total x y with h1 | h1
 · exact absurd (Decidable.byContradiction fun h2 => k (List.le_antisymm h1 h2)) h
 · exact Decidable.byContradiction fun h2 => k (List.le_antisymm h2 h1)
def putS : List Str → Str → List Str
 | [], s => [s]
 | x :: r, s => if x < s then x :: putS r s else if x = s then x :: r else s :: x :: r
theorem mem_putS (l : List Str) (s y : Str) : y ∈ putS l s ↔ y ∈ l ∨ y = s := by
 induction l with
 | nil => simp [putS]
 | cons x r ih =>
   rw [putS]
   split
   · rw [List.mem_cons, ih, List.mem_cons, or_assoc]
   · split
     · rename_i _ e
       subst e
       simp only [List.mem_cons]
       constructor
       · exact fun h => Or.inl h
       · rintro (h | h)
         · exact h
         · exact Or.inl h
     · simp only [List.mem_cons]
       constructor
       · rintro (h | h | h) <;> simp [h]
       · rintro ((h | h) | h) <;> simp [h]
theorem len_putS (l : List Str) (s : Str) : (putS l s).length ≤ l.length + 1 := by
 induction l with
 | nil => simp [putS]
 | cons x r ih =>
   rw [putS]
   split
   · simp only [List.length_cons]; omega
   · split <;> simp
theorem asc_putS {l : List Str} (h : l.Pairwise (· < ·)) (s : Str) : (putS l s).Pairwise (· < ·) := by
 induction l with
 | nil => simp [putS]
 | cons x r ih =>
   rw [List.pairwise_cons] at h
   rw [putS]
   split
   · rename_i hx
     refine List.pairwise_cons.2 ⟨fun y hy => ?_, ih h.2⟩
     rcases (mem_putS r s y).1 hy with hy | rfl
     · exact h.1 y hy
     · exact hx
   · split
     · exact List.pairwise_cons.2 h
     · rename_i h1 h2
       have hs := slt_tri h1 h2
       refine List.pairwise_cons.2 ⟨fun y hy => ?_, List.pairwise_cons.2 h⟩
       rcases List.mem_cons.1 hy with rfl | hy
       · exact hs
       · exact slt_tr hs (h.1 y hy)
theorem putS_stop {l : List Str} {s : Str} {k : Nat} (h2 : ∀ x ∈ l.take k, x < s) (h3 : ∀ x, l[k]? = some x → ¬ x < s) (h1 : k ≤ l.length) :
 putS l s = if l[k]? = some s then l else l.take k ++ s :: l.drop k := by
 induction l generalizing k with
 | nil => simp [putS]
 | cons x r ih =>
   cases k with
   | zero =>
     have h4 := h3 x rfl
     rw [putS, if_neg h4]
     by_cases e : x = s
     · subst e; simp
     · simp [e]
   | succ k =>
     rw [putS, if_pos (h2 x (by simp)), ih (k := k) (fun y hy => h2 y (by rw [List.take_succ_cons]; exact List.mem_cons_of_mem _ hy)) (fun y hy => h3 y (by simpa using hy)) (by simpa using h1)]
     by_cases e : r[k]? = some s
     · rw [if_pos e, if_pos (by simpa using e)]
     · rw [if_neg e, if_neg (by simpa using e)]
       simp
theorem asc_ext {α : Type} {r : α → α → Prop} (irr : ∀ x, ¬ r x x) (asy : ∀ x y, r x y → ¬ r y x) {a b : List α} (ha : a.Pairwise r) (hb : b.Pairwise r) (h : ∀ x, x ∈ a ↔ x ∈ b) : a = b := by
 have na : a.Nodup := ha.imp fun {x y} hxy e => by subst e; exact irr _ hxy
 have nb : b.Nodup := hb.imp fun {x y} hxy e => by subst e; exact irr _ hxy
 exact List.Perm.eq_of_pairwise (le := r) (fun x y _ _ h1 h2 => absurd h2 (asy x y h1)) ha hb ((List.perm_ext_iff_of_nodup na nb).2 h)
def namesS (ns : List Str) : List Str := ns.foldl putS []
theorem foldl_putS (ns acc : List Str) : (∀ x, x ∈ ns.foldl putS acc ↔ x ∈ acc ∨ x ∈ ns) ∧ (acc.Pairwise (· < ·) → (ns.foldl putS acc).Pairwise (· < ·)) ∧ (ns.foldl putS acc).length ≤ acc.length + ns.length := by
 induction ns generalizing acc with
 | nil => simp
 | cons n r ih =>
   obtain ⟨h1, h2, h3⟩ := ih (putS acc n)
   refine ⟨fun x => ?_, fun h => h2 (asc_putS h n), ?_⟩
   · rw [List.foldl_cons, h1, mem_putS, List.mem_cons, or_assoc]
   · have := len_putS acc n
     rw [List.foldl_cons, List.length_cons]
     omega
theorem mem_namesS (ns : List Str) (x : Str) : x ∈ namesS ns ↔ x ∈ ns := by
 rw [namesS, (foldl_putS ns []).1]; simp
theorem asc_namesS (ns : List Str) : (namesS ns).Pairwise (· < ·) := (foldl_putS ns []).2.1 List.Pairwise.nil
theorem len_namesS (ns : List Str) : (namesS ns).length ≤ ns.length := by have := (foldl_putS ns []).2.2; rw [namesS]; simpa using this
theorem namesS_snoc (ns : List Str) (n : Str) : namesS (ns ++ [n]) = putS (namesS ns) n := by simp [namesS]
theorem putS_len {l : List Str} (h : l.Pairwise (· < ·)) (s : Str) : (putS l s).length = l.length + if s ∈ l then 0 else 1 := by
 induction l with
 | nil => simp [putS]
 | cons x r ih =>
   rw [List.pairwise_cons] at h
   rw [putS]
   by_cases h1 : x < s
   · have hne : s ≠ x := fun e => by subst e; exact slt_irr _ h1
     rw [if_pos h1, List.length_cons, ih h.2, List.length_cons]
     simp only [List.mem_cons, hne, false_or]
     omega
   · rw [if_neg h1]
     by_cases h2 : x = s
     · rw [if_pos h2, if_pos (by simp [h2])]; rfl
     · rw [if_neg h2, if_neg (fun hm => ?_)]
       · rfl
       · rcases List.mem_cons.1 hm with e | hm
         · exact h2 e.symm
         · exact h1 (h.1 s hm)
theorem foldl_nodup (ns acc : List Str) (h : acc.Pairwise (· < ·)) : (ns.foldl putS acc).length = acc.length + ns.length ↔ ns.Nodup ∧ ∀ x ∈ ns, x ∉ acc := by
 induction ns generalizing acc with
 | nil => simp
 | cons n r ih =>
   have h1 := ih (putS acc n) (asc_putS h n)
   have h2 := (foldl_putS r (putS acc n)).2.2
   have h3 := putS_len h n
   rw [List.foldl_cons, List.length_cons, List.nodup_cons]
   by_cases hm : n ∈ acc
   · rw [if_pos hm] at h3
     constructor
     · intro e; exfalso; omega
     · intro e; exact absurd hm (e.2 n (by simp))
   · rw [if_neg hm] at h3
     rw [show acc.length + (r.length + 1) = (putS acc n).length + r.length from by omega, h1]
     constructor
     · rintro ⟨a, b⟩
       refine ⟨⟨fun hn => b n hn ((mem_putS _ _ _).2 (Or.inr rfl)), a⟩, fun x hx => ?_⟩
       rcases List.mem_cons.1 hx with rfl | hx
       · exact hm
       · exact fun k => b x hx ((mem_putS _ _ _).2 (Or.inl k))
     · rintro ⟨⟨a, b⟩, c⟩
       refine ⟨b, fun x hx k => ?_⟩
       rcases (mem_putS _ _ _).1 k with k | rfl
       · exact c x (by simp [hx]) k
       · exact a hx
theorem nodup_namesS (ns : List Str) : (namesS ns).length = ns.length ↔ ns.Nodup := by
 have := foldl_nodup ns [] List.Pairwise.nil
 rw [namesS]
 simpa using this
abbrev nm (x : At) : Str := L x.name
def findF (d : List At) (n : Str) : Option At := d.find? fun x => nm x == n
theorem findF_name {d : List At} {n : Str} {x : At} (h : findF d n = some x) : nm x = n ∧ x ∈ d :=
 ⟨by have := List.find?_some h; simpa using this, List.mem_of_find?_eq_some h⟩
theorem findF_none {d : List At} {n : Str} : findF d n = none ↔ n ∉ d.map nm := by
 unfold findF
 rw [List.find?_eq_none]
 simp only [List.mem_map, beq_iff_eq, not_exists, not_and]
def allN (ds : List (List At)) : List Str := ds.flatMap (·.map nm)
def pickF (ds : List (List At)) (n : Str) : Option At := ds.findSome? (findF · n)
theorem pickF_name {ds : List (List At)} {n : Str} {x : At} (h : pickF ds n = some x) : nm x = n ∧ n ∈ allN ds := by
 obtain ⟨d, hd, e⟩ := List.exists_of_findSome?_eq_some h
 obtain ⟨e1, e2⟩ := findF_name e
 refine ⟨e1, List.mem_flatMap.2 ⟨d, hd, List.mem_map.2 ⟨x, e2, e1⟩⟩⟩
def keepF (ds : List (List At)) (n : Str) : Option At := (pickF ds n).filter fun x => !(L x.val).isEmpty
theorem keepF_some {ds : List (List At)} {n : Str} {x : At} : keepF ds n = some x ↔ pickF ds n = some x ∧ (L x.val).isEmpty = false := by
 unfold keepF
 rw [Option.filter_eq_some_iff]
 simp
def mergeL (ds : List (List At)) : List At := (namesS (allN ds)).filterMap (keepF ds)
theorem mem_mergeL {ds : List (List At)} {x : At} : x ∈ mergeL ds ↔ pickF ds (nm x) = some x ∧ (L x.val).isEmpty = false := by
 unfold mergeL
 rw [List.mem_filterMap]
 constructor
 · rintro ⟨n, _, e⟩
   obtain ⟨e1, e2⟩ := keepF_some.1 e
   obtain ⟨rfl, _⟩ := pickF_name e1
   exact ⟨e1, e2⟩
 · rintro ⟨e1, e2⟩
   exact ⟨nm x, (mem_namesS _ _).2 (pickF_name e1).2, keepF_some.2 ⟨e1, e2⟩⟩
theorem asc_mergeL (ds : List (List At)) : (mergeL ds).Pairwise (fun x y => nm x < nm y) :=
 (asc_namesS (allN ds)).filterMap _ (fun a b h x hx y hy => by
  rw [(pickF_name (keepF_some.1 hx).1).1, (pickF_name (keepF_some.1 hy).1).1]; exact h)
theorem files_ext {a b : List At} (ha : a.Pairwise (fun x y => nm x < nm y)) (hb : b.Pairwise (fun x y => nm x < nm y)) (h : ∀ x, x ∈ a ↔ x ∈ b) : a = b :=
 asc_ext (r := fun x y : At => nm x < nm y) (fun _ => slt_irr _) (fun _ _ h k => slt_irr _ (slt_tr h k)) ha hb h
def badD (d : List At) : Bool := !decide (d.map nm).Nodup || d.any fun x => !validS (nm x)
def checkF (ds : List (List At)) : Int := if ds.any badD then 171 else if 64 < (namesS (allN ds)).length then 170 else 0
def mergeF (ds : List (List At)) : List At × Int := if checkF ds = 0 then (mergeL ds, 0) else ([], checkF ds)
end Go.Proofs.YtibflgfhjfcifaaGreatDoor
namespace Go.Proofs.YtibflgfhjfcifaaGreatDoor
open Go.RowKit
structure DirsAt (w : World) (A : Option Addr) (ds : List (Ls At)) : Prop where
 outer : RowAt w w.heap.size A 1 ds.length (ds.map Ls.v)
 inner : InAt 2 encAt id w w.heap.size ds
 cap : ∀ d ∈ ds, d.l.length ≤ d.c
def lsOf (ds : List (Ls At)) : List (List At) := ds.map (·.l)
def bulk (ds : List (Ls At)) : Nat := (ds.map fun d => 1 + d.l.length).sum
theorem bulk_cons (d : Ls At) (r : List (Ls At)) : bulk (d :: r) = 1 + d.l.length + bulk r := by simp [bulk]
theorem bulk_append (a b : List (Ls At)) : bulk (a ++ b) = bulk a + bulk b := by simp [bulk]
theorem bulk_len (ds : List (Ls At)) : ds.length ≤ bulk ds := by
 induction ds with
 | nil => exact Nat.zero_le _
 | cons d r ih => rw [bulk_cons, List.length_cons]; omega
theorem bulk_mem {ds : List (Ls At)} {d : Ls At} (h : d ∈ ds) : d.l.length < bulk ds := by
 induction ds with
 | nil => cases h
 | cons x r ih =>
   rw [bulk_cons]
   rcases List.mem_cons.1 h with rfl | h
   · omega
   · have := ih h; omega
theorem allN_len (ds : List (Ls At)) : (allN (lsOf ds)).length ≤ bulk ds := by
 induction ds with
 | nil => exact Nat.zero_le _
 | cons d r ih =>
   rw [bulk_cons]
   have : allN (lsOf (d :: r)) = d.l.map nm ++ allN (lsOf r) := by simp [allN, lsOf]
   rw [this, List.length_append, List.length_map]; omega
theorem allN_append (a b : List (List At)) : allN (a ++ b) = allN a ++ allN b := by simp [allN]
theorem lsOf_take (ds : List (Ls At)) (k : Nat) : lsOf (ds.take k) = (lsOf ds).take k := by simp [lsOf, List.map_take]
theorem DirsAt.keep {w w' : World} {A : Option Addr} {ds : List (Ls At)} (h : DirsAt w A ds) (hb : Below w.heap.size w w') : DirsAt w' A ds :=
 ⟨(h.outer.keep hb).up hb.size, (h.inner.keep hb).up hb.size, h.cap⟩
theorem DirsAt.dir {w : World} {A : Option Addr} {ds : List (Ls At)} (h : DirsAt w A ds) {i : Nat} (hi : i < ds.length) :
 ∃ g off, A = some ⟨g, off, none⟩ ∧ g < w.heap.size ∧ (∀ W, Below w.heap.size w W → W.cell? ⟨g, off + i, none⟩ = some (.slice ds[i].A ds[i].l.length ds[i].c)) ∧ (∀ W, Below w.heap.size w W → RowAt W W.heap.size ds[i].A 2 ds[i].l.length (cellsOf encAt ds[i].l)) := by
 obtain ⟨g, off, e, hg, hc⟩ := h.outer.at_ (by omega)
 refine ⟨g, off, e, hg, fun W hb => ?_, fun W hb => ?_⟩
 · rw [hb.cell (p := ⟨g, off + i, none⟩) hg]
   exact hc i _ (by rw [List.getElem?_map, List.getElem?_eq_getElem hi]; rfl)
 · exact ((h.inner _ (List.getElem_mem hi)).keep hb).up hb.size
theorem RowAt.file {w : World} {B : Nat} {A : Option Addr} {l : List At} (h : RowAt w B A 2 l.length (cellsOf encAt l)) {k : Nat} (hk : k < l.length) :
 ∃ ba off, A = some ⟨ba, off, none⟩ ∧ ba < B ∧ ∀ W, Below B w W → W.cell? ⟨ba, off + k * 2, none⟩ = some (.string l[k].name) ∧ W.cell? ⟨ba, off + k * 2 + 1, none⟩ = some (.string l[k].val) := by
 obtain ⟨ba, off, e, hB, hc⟩ := h.cell encAt_len hk
 refine ⟨ba, off, e, hB, fun W hb => ⟨?_, ?_⟩⟩
 · rw [hb.cell (p := ⟨ba, off + k * 2, none⟩) hB]
   exact hc k _ (List.getElem?_eq_getElem hk) 0 _ rfl
 · rw [hb.cell (p := ⟨ba, off + k * 2 + 1, none⟩) hB]
   exact hc k _ (List.getElem?_eq_getElem hk) 1 _ rfl
theorem RowAt.fileX {w : World} {B : Nat} {A : Option Addr} {l : List At} (h : RowAt w B A 2 l.length (cellsOf encAt l)) {k : Nat} {x : At} (hx : l[k]? = some x) :
 ∃ ba off, A = some ⟨ba, off, none⟩ ∧ ba < B ∧ ∀ W, Below B w W → W.cell? ⟨ba, off + k * 2, none⟩ = some (.string x.name) ∧ W.cell? ⟨ba, off + k * 2 + 1, none⟩ = some (.string x.val) := by
 obtain ⟨hk, rfl⟩ := List.getElem?_eq_some_iff.1 hx
 exact h.file hk
theorem RowAt.head {w : World} {B k n m : Nat} {A : Option Addr} {xs : List Value} (h : RowAt w B A k n xs) (hm : m ≤ n) : RowAt w B A k m (xs.take (m * k)) := by
 refine ⟨?_, fun hm0 => ?_⟩
 · rw [List.length_take, h.len]
   have := Nat.mul_le_mul_right k hm
   omega
 · obtain ⟨ba, off, e, hB, hc⟩ := h.at_ (by omega)
   refine ⟨ba, off, e, hB, fun j u hu => hc j u ?_⟩
   rw [List.getElem?_take] at hu
   split at hu
   · exact hu
   · cases hu
theorem cellsOf_take {α : Type} (enc : α → List Value) (k : Nat) (hk : ∀ x, (enc x).length = k) (l : List α) (m : Nat) : (cellsOf enc l).take (m * k) = cellsOf enc (l.take m) := by
 induction l generalizing m with
 | nil => simp [cellsOf]
 | cons x l ih =>
   cases m with
   | zero => simp [cellsOf]
   | succ m =>
     have e : cellsOf enc (x :: l) = enc x ++ cellsOf enc l := by simp [cellsOf]
     have e2 : cellsOf enc ((x :: l).take (m + 1)) = enc x ++ cellsOf enc (l.take m) := by simp [cellsOf]
     rw [e, e2, List.take_append, hk, ← ih m, List.take_of_length_le (by rw [hk, Nat.add_mul]; omega), show (m + 1) * k - k = m * k from by rw [Nat.add_mul]; omega]
def strV (s : Str) : Value := .string (bs s)
theorem RowAt.text {w : World} {B n : Nat} {A : Option Addr} {l : List Str} (h : RowAt w B A 1 n (l.map strV)) {k : Nat} (hk : k < l.length) :
 ∃ ba off, A = some ⟨ba, off, none⟩ ∧ ba < B ∧ ∀ W, Below B w W → W.cell? ⟨ba, off + k, none⟩ = some (.string (bs l[k])) := by
 have hn : l.length = n := by have := h.len; simpa using this
 obtain ⟨ba, off, e, hB, hc⟩ := h.at_ (by omega)
 refine ⟨ba, off, e, hB, fun W hb => ?_⟩
 rw [hb.cell (p := ⟨ba, off + k, none⟩) hB]
 exact hc k _ (by rw [List.getElem?_map, List.getElem?_eq_getElem hk]; rfl)
def GoodPre (d : List At) (m : Nat) : Prop := ((d.take m).map nm).Nodup ∧ ((d.take m).all fun x => validS (nm x)) = true
theorem good_zero (d : List At) : GoodPre d 0 := by simp [GoodPre]
theorem good_step {d : List At} {m : Nat} {x : At} (h : GoodPre d m) (hx : d[m]? = some x) (hf : findF (d.take m) (nm x) = none) (hv : validS (nm x) = true) : GoodPre d (m + 1) := by
 obtain ⟨hm, rfl⟩ := List.getElem?_eq_some_iff.1 hx
 obtain ⟨h1, h2⟩ := h
 rw [findF_none] at hf
 unfold GoodPre
 rw [List.take_succ_eq_append_getElem hm]
 refine ⟨?_, by rw [List.all_append, h2]; simp [hv]⟩
 rw [List.map_append, List.nodup_append]
 refine ⟨h1, by simp, fun a ha b hb e => ?_⟩
 subst e
 have hb : a = nm d[m] := by simpa using hb
 rw [hb] at ha
 exact hf ha
theorem good_all {d : List At} {m : Nat} (h : GoodPre d m) (hm : d.length ≤ m) : badD d = false := by
 unfold GoodPre at h
 rw [List.take_of_length_le hm] at h
 unfold badD
 rw [decide_eq_true h.1, Bool.not_true, Bool.false_or, Bool.eq_false_iff]
 intro ha
 obtain ⟨x, hx, e⟩ := List.any_eq_true.1 ha
 have := List.all_eq_true.1 h.2 x hx
 rw [this] at e
 cases e
theorem bad_dup {d : List At} {m : Nat} {x y : At} (hx : d[m]? = some x) (hf : findF (d.take m) (nm x) = some y) : badD d = true := by
 obtain ⟨hm, rfl⟩ := List.getElem?_eq_some_iff.1 hx
 obtain ⟨e, hy⟩ := findF_name hf
 have hn : ¬ (d.map nm).Nodup := fun hn => by
  have h1 : (((d.take m) ++ (d.drop m)).map nm).Nodup := by rw [List.take_append_drop]; exact hn
  rw [List.map_append, List.nodup_append] at h1
  exact h1.2.2 (nm y) (List.mem_map.2 ⟨y, hy, rfl⟩) (nm d[m]) (List.mem_map.2 ⟨d[m], List.mem_of_getElem? (i := 0) (by rw [List.getElem?_drop, Nat.add_zero]; exact hx), rfl⟩) e
 unfold badD
 rw [decide_eq_false hn]
 rfl
theorem bad_val {d : List At} {x : At} (hx : x ∈ d) (hv : validS (nm x) = false) : badD d = true := by
 unfold badD
 rw [Bool.or_eq_true]
 exact Or.inr (List.any_eq_true.2 ⟨x, hx, by rw [hv]; rfl⟩)
theorem check_bad {ds : List (List At)} {d : List At} (hd : d ∈ ds) (h : badD d = true) : checkF ds = 171 := by
 unfold checkF
 rw [if_pos (List.any_eq_true.2 ⟨d, hd, h⟩)]
theorem check_good {ds : List (List At)} (h : ∀ d ∈ ds, badD d = false) : checkF ds = if 64 < (namesS (allN ds)).length then 170 else 0 := by
 unfold checkF
 rw [if_neg]
 intro ha
 obtain ⟨d, hd, e⟩ := List.any_eq_true.1 ha
 rw [h d hd] at e
 cases e
theorem bA {w W : World} {o : Obj} (h : Below w.heap.size w W) : Below w.heap.size w (W.alloc o) := h.alloc h.size _
theorem bD {w W : World} (h : Below w.heap.size w W) : Below w.heap.size w W.drew := h.drew
theorem bS {w W : World} {b i : Nat} {v : Value} (h : Below w.heap.size w W) (hb : w.heap.size ≤ b) : Below w.heap.size w (W.setCell ⟨b, i, none⟩ v) := h.setCell (p := ⟨b, i, none⟩) hb _
theorem bcell {W w1 : World} (hb : Below W.heap.size W w1) : (∀ b o, b < W.heap.size → w1.cell? ⟨b, o, none⟩ = W.cell? ⟨b, o, none⟩) ∧ (∀ b o, b < W.heap.size → w1.frozen? ⟨b, o, none⟩ = W.frozen? ⟨b, o, none⟩) :=
 ⟨fun b o h => hb.cell (p := ⟨b, o, none⟩) h, fun b o h => hb.frozen (p := ⟨b, o, none⟩) h⟩
end Go.Proofs.YtibflgfhjfcifaaGreatDoor
namespace Go.Proofs.YtibflgfhjfcifaaGreatDoor
open Go.RowKit
variable {P : Program} {w : World}
theorem run_append_owned_empty (base : Nat) (t ty e : TypeId) (i : TypeInfo) (size : Nat) (ht : P.underlying t = some (.slice e)) (hi : P.info? e = some i)
 (v : Value) (n : Nat) (xs : List Value) (hown : w.ownsRow base e size v n xs) (A : Option Addr) (c : Nat) :
 (Builtin.append_ #[t, t] ty #[v, .slice A 0 c]).run P w = .ok v w := by
 cases A with
 | none =>
   rcases hown.2 with ⟨rfl, rfl⟩ | ⟨g, cap, cur, rfl, _, _, hnc, _⟩
   · simp [Builtin.append_, run_underlying ht, sizeOf, typeInfo, hi, Builtin.lenOf, Builtin.firstCells]
   · simp [Builtin.append_, run_underlying ht, sizeOf, typeInfo, hi, Builtin.lenOf, Builtin.firstCells, hnc, storeCells]
 | some a =>
   rcases hown.2 with ⟨rfl, rfl⟩ | ⟨g, cap, cur, rfl, _, _, hnc, _⟩
   · simp [Builtin.append_, run_underlying ht, sizeOf, typeInfo, hi, Builtin.lenOf, Builtin.firstCells, loadCells, loadCellsFrom]
   · simp [Builtin.append_, run_underlying ht, sizeOf, typeInfo, hi, Builtin.lenOf, Builtin.firstCells, hnc, storeCells, loadCells, loadCellsFrom]
theorem add_plain' (g off j : Nat) : (⟨g, off, none⟩ : Addr).add j = ⟨g, off + j, none⟩ := by unfold Addr.add; split <;> simp_all
theorem wp_append_row {o : Oper} {a : Act} {K : Act → World → Prop} {Q : Exit → Act → World → Prop} (s x : Operand) (t : TypeId)
 (ho : o.op = .call { callee := .builtin .append, args := #[s, x], argTypes := #[t, t] })
 (base : Nat) (e : TypeId) (i : TypeInfo) (z : Value) (size bytes : Nat) (ht : P.underlying t = some (.slice e)) (hi : P.info? e = some i) (hz : i.zero = some z)
 (hsize : i.size = size) (hby : i.bytes = bytes) (hzs : z.cells.size = size) (hsz : 0 < size)
 (v : Value) (n : Nat) (xs : List Value) (hs : a.eval s = v) (hown : w.ownsRow base e size v n xs)
 (A : Option Addr) (m c B : Nat) (news : List Value) (hx : a.eval x = .slice A m c) (hrow : RowAt w B A size m news) (h1 : ∀ u ∈ news, u.oneCell' = true)
 (h63 : n + m ≤ maxLen) (hbytes : (n + m) * bytes ≤ 140737488355328) (hbase : base ≤ w.heap.size)
 (h : ∀ v' w', w'.ownsRow base e size v' (n + m) (xs ++ news) → w.grownBy w' v.ownBlock → (v'.ownBlock = v.ownBlock ∨ v'.ownBlock = some w.heap.size) → (0 < m → v' ≠ .slice none 0 0) → K (a.put o.dst v') w') : o.wp P a w K Q := by
 rcases Nat.eq_zero_or_pos m with rfl | hm
 · have hn : news = [] := by have := hrow.len; simpa using this
   subst hn
   have hrun := run_append_owned_empty (P := P) (w := w) base t o.type e i size ht hi v n xs hown A c
   unfold Oper.wp
   simp only [execOp, ho, resolve, invoke, builtin]
   simp [hs, hx, hrun, Result.andThen]
   exact h v w (by simpa using hown) ⟨rfl, rfl, rfl, Nat.le_refl _, fun _ _ _ => rfl⟩ (Or.inl rfl) (fun h => absurd h (by omega))
 · obtain ⟨ba, off, rfl, hB, hc⟩ := hrow.at_ hm
   refine wp_append_lies w s x t ho base e i z size bytes ht hi hz hsize hby hzs hsz v n xs hs hown ⟨ba, off, none⟩ m c news hx hrow.len (fun j u hu => by rw [add_plain']; exact hc j u hu) h1 hm h63 hbytes hbase w.heap.size rfl fun g cap w' h2 h3 h4 h5 => ?_
   refine h _ w' h2 h3 ?_ (fun _ e => by cases e)
   rcases h4 with h4 | h4
   · exact Or.inl h4.symm
   · exact Or.inr (by rw [h4]; rfl)
theorem wpList_append_row {ops : Array Oper} {rest : List Oper} {o : Oper} {a : Act} {Q : Exit → Act → World → Prop} (hgd : o.guard = none) (s x : Operand) (t : TypeId)
 (ho : o.op = .call { callee := .builtin .append, args := #[s, x], argTypes := #[t, t] })
 (base : Nat) (e : TypeId) (i : TypeInfo) (z : Value) (size bytes : Nat) (ht : P.underlying t = some (.slice e)) (hi : P.info? e = some i) (hz : i.zero = some z)
 (hsize : i.size = size) (hby : i.bytes = bytes) (hzs : z.cells.size = size) (hsz : 0 < size)
 (v : Value) (n : Nat) (xs : List Value) (hs : a.eval s = v) (hown : w.ownsRow base e size v n xs)
 (A : Option Addr) (m c B : Nat) (news : List Value) (hx : a.eval x = .slice A m c) (hrow : RowAt w B A size m news) (h1 : ∀ u ∈ news, u.oneCell' = true)
 (h63 : n + m ≤ maxLen) (hbytes : (n + m) * bytes ≤ 140737488355328) (hbase : base ≤ w.heap.size)
 (h : ∀ v' w', w'.ownsRow base e size v' (n + m) (xs ++ news) → w.grownBy w' v.ownBlock → (v'.ownBlock = v.ownBlock ∨ v'.ownBlock = some w.heap.size) → (0 < m → v' ≠ .slice none 0 0) → wpList P ops Q rest (a.put o.dst v') w') : wpList P ops Q (o :: rest) a w :=
 wpList_plain hgd fun _ hK => wp_append_row s x t ho base e i z size bytes ht hi hz hsize hby hzs hsz v n xs hs hown A m c B news hx hrow h1 h63 hbytes hbase fun v' w' h2 h3 h4 h5 => hK _ _ (h v' w' h2 h3 h4 h5)
theorem step_append_row {ops : Array Oper} {o : Oper} {a : Act} {K : Act → World → Prop} {Q : Exit → Act → World → Prop} {E : Prop} (hgd : o.guard = none) (s x : Operand) (t : TypeId)
 (ho : o.op = .call { callee := .builtin .append, args := #[s, x], argTypes := #[t, t] })
 (base : Nat) (e : TypeId) (i : TypeInfo) (z : Value) (size bytes : Nat) (ht : P.underlying t = some (.slice e)) (hi : P.info? e = some i) (hz : i.zero = some z)
 (hsize : i.size = size) (hby : i.bytes = bytes) (hzs : z.cells.size = size) (hsz : 0 < size)
 (v : Value) (n : Nat) (xs : List Value) (hs : a.eval s = v) (hown : w.ownsRow base e size v n xs)
 (A : Option Addr) (m c B : Nat) (news : List Value) (hx : a.eval x = .slice A m c) (hrow : RowAt w B A size m news) (h1 : ∀ u ∈ news, u.oneCell' = true)
 (h63 : n + m ≤ maxLen) (hbytes : (n + m) * bytes ≤ 140737488355328) (hbase : base ≤ w.heap.size)
 (h : ∀ v' w', w'.ownsRow base e size v' (n + m) (xs ++ news) → w.grownBy w' v.ownBlock → (v'.ownBlock = v.ownBlock ∨ v'.ownBlock = some w.heap.size) → (0 < m → v' ≠ .slice none 0 0) → K (a.put o.dst v') w') :
 if Region.wanted o (yielded ops a.tmps) = true then Oper.wp P o a w K Q else E := by
 have hw : Region.wanted o (yielded ops a.tmps) = true := by simp [Region.wanted, hgd]
 rw [if_pos hw]
 exact wp_append_row s x t ho base e i z size bytes ht hi hz hsize hby hzs hsz v n xs hs hown A m c B news hx hrow h1 h63 hbytes hbase h
end Go.Proofs.YtibflgfhjfcifaaGreatDoor
