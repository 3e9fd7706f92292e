/-
  Both sides' sets of bytes give the same matches at a printable text, in plain words.
  What a match is; the contracts of both sides' Match; a row of terms, element by element.
  Contracts of package name: common, Valid, Key.
  Directories of files, in plain words: which names there are, what is wrong, which files count, what has changed; no program in sight.
  Devices, the fronts of rules, their keys and which rules are candidates, in plain words; no program in sight.
  Maps from names to texts, as data: built one entry after the other; no program in sight.
  The map from keys to places, as data; no program in sight.
-/
import Derived.Test.YtgdjknpdgajdgaaG00
import Derived.Test.YtgdjknpdgajdgaaG03
import Derived.Test.YtgdjknpdgajdgaaG01
import Derived.Lib.Case
import Derived.Test.YtgdjknpdgajdgaaShelf
import Derived.Maps.Views
import Derived.Maps.Own
import Derived.Maps.OwnSet
import Derived.Maps.StringElems
import Derived.Maps.GroupsBeside
namespace Go.Proofs.Ytgdjknpdgajdgaa
def hasB (e : El) (c : UInt8) : Bool := e.has c.toNat
def hasRB (e : El) (c : UInt8) : Bool := e.hasR c.toNat
/-- One alternative at a text. -/
def altB (l : List El) (s : Str) : Bool := matchS El.isStar hasB l s
theorem match_congr {α : Type} {star : α → Bool} {has has' : α → UInt8 → Bool} {l : List α} {s : Str} (h : ∀ e c, c ∈ s → star e = false → has e c = has' e c) : matchS star has l s = matchS star has' l s := by
  induction l generalizing s with
  | nil => rw [matchS, matchS]
  | cons e l ih =>
    induction s with
    | nil => rw [matchS, matchS, ih h]
    | cons c s ih2 =>
      have h2 : ∀ e c, c ∈ s → star e = false → has e c = has' e c := fun e d hd => h e d (List.mem_cons_of_mem _ hd)
      rw [matchS, matchS, ih h, ih2 h2, ih h2]
      cases he : star e with
      | true => rfl
      | false => rw [h e c (List.mem_cons_self ..) he]
theorem has_same {e : El} {c : UInt8} (h1 : 32 ≤ c.toNat) (h2 : c.toNat ≤ 126) (hs : e.isStar = false) : hasRB e c = hasB e c := by
  unfold hasRB hasB
  cases e with
  | lit b => simp [El.hasR, El.has, eq_comm, Bool.beq_eq_decide_eq]
  | star => cases hs
  | any => simp [El.hasR, El.has, h1, h2]
  | set no rs =>
    cases no <;> simp [El.hasR, El.has, h1, h2]
theorem alt_same {l : List El} {s : Str} (h : printS s = true) : matchS El.isStar hasRB l s = altB l s := by
  unfold altB
  refine match_congr fun e c hc hs => ?_
  have hp := List.all_eq_true.1 h c hc
  exact has_same (by simp [pr] at hp; omega) (by simp [pr] at hp; omega) hs
theorem globF_sizes {M : Nat} : ∀ (n : Nat) (r : Str) (acc : List (List El)) (cur : List El) (alts : List (List El)), globF n r acc cur = some alts → (∀ l ∈ acc, l.length ≤ M) → cur.length + r.length ≤ M → (∀ l ∈ alts, l.length ≤ M) ∧ alts.length ≤ acc.length + 1 + r.length
  | 0, _, _, _, _, h, _, _ => by cases h
  | n + 1, [], acc, cur, alts, h, h1, h2 => by
    obtain rfl := Option.some.inj h
    refine ⟨fun l hl => ?_, by simp⟩
    rcases List.mem_append.1 hl with hl | hl
    · exact h1 l hl
    · obtain rfl := List.mem_singleton.1 hl
      simpa using h2
  | n + 1, c :: r, acc, cur, alts, h, h1, h2 => by
    rw [List.length_cons] at h2
    rw [globF] at h
    split at h
    · obtain ⟨i1, i2⟩ := globF_sizes n r _ _ alts h (fun l hl => by
        rcases List.mem_append.1 hl with hl | hl
        · exact h1 l hl
        · obtain rfl := List.mem_singleton.1 hl
          omega) (by simp; omega)
      refine ⟨i1, ?_⟩
      rw [List.length_append, List.length_singleton] at i2
      rw [List.length_cons]
      omega
    · cases he : elS c r with
      | none => rw [he] at h; cases h
      | some x =>
        rw [he] at h
        obtain ⟨e, r'⟩ := x
        have hl := elS_len c r _ he
        dsimp only at h hl
        obtain ⟨i1, i2⟩ := globF_sizes n r' _ _ alts h h1 (by rw [List.length_append, List.length_singleton]; omega)
        refine ⟨i1, ?_⟩
        rw [List.length_cons]
        omega
theorem globS_sizes {p : Str} {alts : List (List El)} (h : globS p = some alts) : (∀ l ∈ alts, l.length ≤ 256) ∧ alts.length ≤ 257 := by
  unfold globS at h
  split at h
  · rename_i hp
    obtain ⟨h1, h2⟩ := globF_sizes (M := 256) _ _ _ _ _ h (fun l hl => by cases hl) (by have := hp.1; simpa using this)
    exact ⟨h1, by have := hp.1; simp at h2; omega⟩
  · cases h
/-- Does a pattern match a text. -/
def globM (p s : Str) : Bool := match globS p with
  | none => false
  | some alts => printS s && alts.any fun l => altB l s
end Go.Proofs.Ytgdjknpdgajdgaa
namespace Go.Proofs.Ytgdjknpdgajdgaa
open Go.RowKit
def matchB (op : Int) : Bool := op == 1 || op == 2
set_option maxRecDepth 100000 in
set_option maxHeartbeats 1000000 in
theorem RMatch_any (t : Tm) (w : World) : Calls Try.prog 69 #[tmV t] w fun e w' => e = .returned (.bool (matchB t.op)) ∧ Below w.heap.size w w' := by
  unfold tmV
  by_cases h1 : t.op = 1
  · have e1 : (t.op == 1) = true := by simpa using h1
    have HM : Hid (matchB t.op = true) := Lib.hid (by simp [matchB, h1])
    clear h1
    go_enter Try.func69, Try.ntmps69
    go_wp2
    go_ret
    exact ⟨ret_bool (by rw [HM.out]), by go_grown⟩
  · have e1 : (t.op == 1) = false := by simpa using h1
    have HM : Hid (matchB t.op = (t.op == 2)) := Lib.hid (by simp [matchB, e1])
    clear h1
    go_enter Try.func69, Try.ntmps69
    go_wp2
    go_ret
    exact ⟨ret_bool (by rw [HM.out]), by go_grown⟩
theorem box4 {W w1 : World} {x0 x1 x2 x3 : Value} {T : TypeId} (hb : Below (W.alloc (.cells #[x0, x1, x2, x3] T)).heap.size (W.alloc (.cells #[x0, x1, x2, x3] T)) w1) :
    w1.cell? ⟨W.heap.size, 0, none⟩ = some x0 ∧ w1.cell? ⟨W.heap.size, 1, none⟩ = some x1 ∧ w1.cell? ⟨W.heap.size, 2, none⟩ = some x2 ∧ w1.cell? ⟨W.heap.size, 3, none⟩ = some x3 :=
  (res4 ((hb.block _ (by simp)).trans (heap_alloc_new W _))).1
set_option maxRecDepth 100000 in
theorem PMatch_any (t : Tm) (w : World) : Calls Try.prog 51 #[tmV t] w fun e w' => e = .returned (.bool (matchB t.op)) ∧ Below w.heap.size w w' := by
  unfold tmV
  by_cases h1 : t.op = 1
  · have e1 : (t.op == 1) = true := by simpa using h1
    have HM : Hid (matchB t.op = true) := Lib.hid (by simp [matchB, h1])
    clear h1
    go_enter Try.func51, Try.ntmps51
    go_wp2
    go_ret
    exact ⟨ret_bool (by rw [HM.out]), by go_grown⟩
  · have e1 : (t.op == 1) = false := by simpa using h1
    have HM : Hid (matchB t.op = (t.op == 2)) := Lib.hid (by simp [matchB, e1])
    clear h1
    go_enter Try.func51, Try.ntmps51
    go_wp2
    go_ret
    exact ⟨ret_bool (by rw [HM.out]), by go_grown⟩
theorem RowAt.tm {w wr : World} {B : Nat} {A : Option Addr} {l : List Tm} (h : RowAt w B A 4 l.length (cellsOf encTm l)) (hb : Below B w wr) {k : Nat} (hk : k < l.length) : ∃ ba off, A = some ⟨ba, off, none⟩ ∧
    wr.cell? ⟨ba, off + k * 4, none⟩ = some (.int .i64 l[k].key) ∧ wr.cell? ⟨ba, off + k * 4 + 1, none⟩ = some (.string l[k].name) ∧ wr.cell? ⟨ba, off + k * 4 + 2, none⟩ = some (.int .i64 l[k].op) ∧ wr.cell? ⟨ba, off + k * 4 + 3, none⟩ = some (.string l[k].value) := by
  obtain ⟨ba, off, hA, hba, hc⟩ := h.cell encTm_len hk
  have hx : l[k]? = some l[k] := List.getElem?_eq_getElem hk
  refine ⟨ba, off, hA, ?_, ?_, ?_, ?_⟩
  · rw [hb.cell (p := ⟨ba, off + k * 4, none⟩) hba]; exact hc k _ hx 0 _ rfl
  · rw [hb.cell (p := ⟨ba, off + k * 4 + 1, none⟩) hba]; exact hc k _ hx 1 _ rfl
  · rw [hb.cell (p := ⟨ba, off + k * 4 + 2, none⟩) hba]; exact hc k _ hx 2 _ rfl
  · rw [hb.cell (p := ⟨ba, off + k * 4 + 3, none⟩) hba]; exact hc k _ hx 3 _ rfl
theorem RowAt.three {α : Type} {enc : α → List Value} (hk : ∀ x, (enc x).length = 3) {w wr : World} {B : Nat} {A : Option Addr} {l : List α} (h : RowAt w B A 3 l.length (cellsOf enc l)) (hb : Below B w wr) {k : Nat} (hlt : k < l.length) (x0 x1 x2 : Value) (he : enc l[k] = [x0, x1, x2]) : ∃ ba off, A = some ⟨ba, off, none⟩ ∧
    wr.cell? ⟨ba, off + k * 3, none⟩ = some x0 ∧ wr.cell? ⟨ba, off + k * 3 + 1, none⟩ = some x1 ∧ wr.cell? ⟨ba, off + k * 3 + 2, none⟩ = some x2 := by
  obtain ⟨ba, off, hA, hba, hc⟩ := h.cell hk hlt
  have hx : l[k]? = some l[k] := List.getElem?_eq_getElem hlt
  refine ⟨ba, off, hA, ?_, ?_, ?_⟩
  · rw [hb.cell (p := ⟨ba, off + k * 3, none⟩) hba]; exact hc k _ hx 0 _ (by rw [he]; rfl)
  · rw [hb.cell (p := ⟨ba, off + k * 3 + 1, none⟩) hba]; exact hc k _ hx 1 _ (by rw [he]; rfl)
  · rw [hb.cell (p := ⟨ba, off + k * 3 + 2, none⟩) hba]; exact hc k _ hx 2 _ (by rw [he]; rfl)
end Go.Proofs.Ytgdjknpdgajdgaa
namespace Go.Proofs.Ytgdjknpdgajdgaa
open Go.RowKit
def upperL : Str := [65, 66, 67, 68, 69, 70, 71, 72, 73, 74, 75, 76, 77, 78, 79, 80, 81, 82, 83, 84, 85, 86, 87, 88, 89, 90]
def lowerL : Str := [97, 98, 99, 100, 101, 102, 103, 104, 105, 106, 107, 108, 109, 110, 111, 112, 113, 114, 115, 116, 117, 118, 119, 120, 121, 122]
def digitL : Str := [48, 49, 50, 51, 52, 53, 54, 55, 56, 57]
def punctL : Str := [95, 46, 58, 43, 45]
def commonS : Nat → Bool := addS (addS (addS (addS noneS upperL) lowerL) digitL) punctL
def validS (l : Str) : Bool := !l.isEmpty && decide (l.length ≤ 32) && !(l == [46] || l == [46, 46]) && hasS (addS commonS [33]) l
def keyS (l : Str) : Bool := !l.isEmpty && decide (l.length ≤ 32) && hasS (addS noneS upperL) (l.take 1) && hasS (addS (addS (addS noneS upperL) digitL) [95]) l
theorem upper_ascii (j : Nat) (b : UInt8) (h : upperL[j]? = some b) : b.toNat < 128 := by
  have hm : b ∈ upperL := List.mem_of_getElem? h
  revert b
  intro b _ hm
  simp only [upperL, List.mem_cons, List.not_mem_nil, or_false] at hm
  rcases hm with h | h | h | h | h | h | h | h | h | h | h | h | h | h | h | h | h | h | h | h | h | h | h | h | h | h <;> subst h <;> decide
theorem commonS_eq : addS (addS (addS (addS noneS (L ⟨#[65, 66, 67, 68, 69, 70, 71, 72, 73, 74, 75, 76, 77, 78, 79, 80, 81, 82, 83, 84, 85, 86, 87, 88, 89, 90]⟩)) (L ⟨(Lib.toLowerA [65, 66, 67, 68, 69, 70, 71, 72, 73, 74, 75, 76, 77, 78, 79, 80, 81, 82, 83, 84, 85, 86, 87, 88, 89, 90]).toArray⟩)) (L ⟨#[48, 49, 50, 51, 52, 53, 54, 55, 56, 57]⟩)) (L ⟨#[95, 46, 58, 43, 45]⟩) = commonS := by
  have e : Lib.toLowerA [65, 66, 67, 68, 69, 70, 71, 72, 73, 74, 75, 76, 77, 78, 79, 80, 81, 82, 83, 84, 85, 86, 87, 88, 89, 90] = lowerL := by decide
  rw [e]
  rfl
end Go.Proofs.Ytgdjknpdgajdgaa
namespace Go.Proofs.Ytgdjknpdgajdgaa
open Go.RowKit
/-- Go's '<' on texts. -/
theorem bless : ∀ x y : Str, Op.bytesLess x y = decide (x < y)
  | [], [] => by simp [Op.bytesLess]
  | [], _ :: _ => by simp [Op.bytesLess]
  | _ :: _, [] => by simp [Op.bytesLess]
  | a :: x, b :: y => by
    rw [Op.bytesLess, bless x y]
    simp only [List.cons_lt_cons_iff]
    by_cases h1 : a < b <;> by_cases h2 : a = b <;> by_cases h3 : x < y <;> simp [h1, h2, h3]
theorem slt_irr (x : Str) : ¬ x < x := List.lt_irrefl x
theorem slt_tr {x y z : Str} (h : x < y) (k : y < z) : x < z := List.lt_trans h k
theorem slt_tri {x y : Str} (h : ¬ x < y) (k : x ≠ y) : y < x := by
  rcases List.le_total x y with h1 | h1
  · exact absurd (Decidable.byContradiction fun h2 => k (List.le_antisymm h1 h2)) h
  · exact Decidable.byContradiction fun h2 => k (List.le_antisymm h2 h1)
def putS : List Str → Str → List Str
  | [], s => [s]
  | x :: r, s => if x < s then x :: putS r s else if x = s then x :: r else s :: x :: r
theorem mem_putS (l : List Str) (s y : Str) : y ∈ putS l s ↔ y ∈ l ∨ y = s := by
  induction l with
  | nil => simp [putS]
  | cons x r ih =>
    rw [putS]
    split
    · rw [List.mem_cons, ih, List.mem_cons, or_assoc]
    · split
      · rename_i _ e
        subst e
        simp only [List.mem_cons]
        constructor
        · exact fun h => Or.inl h
        · rintro (h | h)
          · exact h
          · exact Or.inl h
      · simp only [List.mem_cons]
        constructor
        · rintro (h | h | h) <;> simp [h]
        · rintro ((h | h) | h) <;> simp [h]
theorem len_putS (l : List Str) (s : Str) : (putS l s).length ≤ l.length + 1 := by
  induction l with
  | nil => simp [putS]
  | cons x r ih =>
    rw [putS]
    split
    · simp only [List.length_cons]; omega
    · split <;> simp
theorem asc_putS {l : List Str} (h : l.Pairwise (· < ·)) (s : Str) : (putS l s).Pairwise (· < ·) := by
  induction l with
  | nil => simp [putS]
  | cons x r ih =>
    rw [List.pairwise_cons] at h
    rw [putS]
    split
    · rename_i hx
      refine List.pairwise_cons.2 ⟨fun y hy => ?_, ih h.2⟩
      rcases (mem_putS r s y).1 hy with hy | rfl
      · exact h.1 y hy
      · exact hx
    · split
      · exact List.pairwise_cons.2 h
      · rename_i h1 h2
        have hs := slt_tri h1 h2
        refine List.pairwise_cons.2 ⟨fun y hy => ?_, List.pairwise_cons.2 h⟩
        rcases List.mem_cons.1 hy with rfl | hy
        · exact hs
        · exact slt_tr hs (h.1 y hy)
/-- Where the search for the place stops. -/
theorem putS_stop {l : List Str} {s : Str} {k : Nat} (h2 : ∀ x ∈ l.take k, x < s) (h3 : ∀ x, l[k]? = some x → ¬ x < s) (h1 : k ≤ l.length) :
    putS l s = if l[k]? = some s then l else l.take k ++ s :: l.drop k := by
  induction l generalizing k with
  | nil => simp [putS]
  | cons x r ih =>
    cases k with
    | zero =>
      have h4 := h3 x rfl
      rw [putS, if_neg h4]
      by_cases e : x = s
      · subst e; simp
      · simp [e]
    | succ k =>
      rw [putS, if_pos (h2 x (by simp)), ih (k := k) (fun y hy => h2 y (by rw [List.take_succ_cons]; exact List.mem_cons_of_mem _ hy)) (fun y hy => h3 y (by simpa using hy)) (by simpa using h1)]
      by_cases e : r[k]? = some s
      · rw [if_pos e, if_pos (by simpa using e)]
      · rw [if_neg e, if_neg (by simpa using e)]
        simp
/-- Two lists that ascend and have the same members are one. -/
theorem asc_ext {α : Type} {r : α → α → Prop} (irr : ∀ x, ¬ r x x) (asy : ∀ x y, r x y → ¬ r y x) {a b : List α} (ha : a.Pairwise r) (hb : b.Pairwise r) (h : ∀ x, x ∈ a ↔ x ∈ b) : a = b := by
  have na : a.Nodup := ha.imp fun {x y} hxy e => by subst e; exact irr _ hxy
  have nb : b.Nodup := hb.imp fun {x y} hxy e => by subst e; exact irr _ hxy
  exact List.Perm.eq_of_pairwise (le := r) (fun x y _ _ h1 h2 => absurd h2 (asy x y h1)) ha hb ((List.perm_ext_iff_of_nodup na nb).2 h)
theorem strs_ext {a b : List Str} (ha : a.Pairwise (· < ·)) (hb : b.Pairwise (· < ·)) (h : ∀ x, x ∈ a ↔ x ∈ b) : a = b :=
  asc_ext slt_irr (fun _ _ h k => slt_irr _ (slt_tr h k)) ha hb h
def namesS (ns : List Str) : List Str := ns.foldl putS []
theorem foldl_putS (ns acc : List Str) : (∀ x, x ∈ ns.foldl putS acc ↔ x ∈ acc ∨ x ∈ ns) ∧ (acc.Pairwise (· < ·) → (ns.foldl putS acc).Pairwise (· < ·)) ∧ (ns.foldl putS acc).length ≤ acc.length + ns.length := by
  induction ns generalizing acc with
  | nil => simp
  | cons n r ih =>
    obtain ⟨h1, h2, h3⟩ := ih (putS acc n)
    refine ⟨fun x => ?_, fun h => h2 (asc_putS h n), ?_⟩
    · rw [List.foldl_cons, h1, mem_putS, List.mem_cons, or_assoc]
    · have := len_putS acc n
      rw [List.foldl_cons, List.length_cons]
      omega
theorem mem_namesS (ns : List Str) (x : Str) : x ∈ namesS ns ↔ x ∈ ns := by
  rw [namesS, (foldl_putS ns []).1]; simp
theorem asc_namesS (ns : List Str) : (namesS ns).Pairwise (· < ·) := (foldl_putS ns []).2.1 List.Pairwise.nil
theorem len_namesS (ns : List Str) : (namesS ns).length ≤ ns.length := by have := (foldl_putS ns []).2.2; rw [namesS]; simpa using this
theorem namesS_snoc (ns : List Str) (n : Str) : namesS (ns ++ [n]) = putS (namesS ns) n := by simp [namesS]
/-- How many different ones there are, by whatever list has each once. -/
theorem count_namesS {ns us : List Str} (hu : us.Nodup) (h : ∀ x, x ∈ us ↔ x ∈ ns) : us.length = (namesS ns).length := by
  have hn : (namesS ns).Nodup := (asc_namesS ns).imp fun {x y} hxy e => by subst e; exact slt_irr _ hxy
  exact ((List.perm_ext_iff_of_nodup hu hn).2 fun x => by rw [h, mem_namesS]).length_eq
theorem putS_len {l : List Str} (h : l.Pairwise (· < ·)) (s : Str) : (putS l s).length = l.length + if s ∈ l then 0 else 1 := by
  induction l with
  | nil => simp [putS]
  | cons x r ih =>
    rw [List.pairwise_cons] at h
    rw [putS]
    by_cases h1 : x < s
    · have hne : s ≠ x := fun e => by subst e; exact slt_irr _ h1
      rw [if_pos h1, List.length_cons, ih h.2, List.length_cons]
      simp only [List.mem_cons, hne, false_or]
      omega
    · rw [if_neg h1]
      by_cases h2 : x = s
      · rw [if_pos h2, if_pos (by simp [h2])]; rfl
      · rw [if_neg h2, if_neg (fun hm => ?_)]
        · rfl
        · rcases List.mem_cons.1 hm with e | hm
          · exact h2 e.symm
          · exact h1 (h.1 s hm)
theorem foldl_nodup (ns acc : List Str) (h : acc.Pairwise (· < ·)) : (ns.foldl putS acc).length = acc.length + ns.length ↔ ns.Nodup ∧ ∀ x ∈ ns, x ∉ acc := by
  induction ns generalizing acc with
  | nil => simp
  | cons n r ih =>
    have h1 := ih (putS acc n) (asc_putS h n)
    have h2 := (foldl_putS r (putS acc n)).2.2
    have h3 := putS_len h n
    rw [List.foldl_cons, List.length_cons, List.nodup_cons]
    by_cases hm : n ∈ acc
    · rw [if_pos hm] at h3
      constructor
      · intro e; exfalso; omega
      · intro e; exact absurd hm (e.2 n (by simp))
    · rw [if_neg hm] at h3
      rw [show acc.length + (r.length + 1) = (putS acc n).length + r.length from by omega, h1]
      constructor
      · rintro ⟨a, b⟩
        refine ⟨⟨fun hn => b n hn ((mem_putS _ _ _).2 (Or.inr rfl)), a⟩, fun x hx => ?_⟩
        rcases List.mem_cons.1 hx with rfl | hx
        · exact hm
        · exact fun k => b x hx ((mem_putS _ _ _).2 (Or.inl k))
      · rintro ⟨⟨a, b⟩, c⟩
        refine ⟨b, fun x hx k => ?_⟩
        rcases (mem_putS _ _ _).1 k with k | rfl
        · exact c x (by simp [hx]) k
        · exact a hx
theorem nodup_namesS (ns : List Str) : (namesS ns).length = ns.length ↔ ns.Nodup := by
  have := foldl_nodup ns [] List.Pairwise.nil
  rw [namesS]
  simpa using this
abbrev nm (x : At) : Str := L x.name
/-- The first file with a name. -/
def findF (d : List At) (n : Str) : Option At := d.find? fun x => nm x == n
theorem findF_name {d : List At} {n : Str} {x : At} (h : findF d n = some x) : nm x = n ∧ x ∈ d :=
  ⟨by have := List.find?_some h; simpa using this, List.mem_of_find?_eq_some h⟩
theorem findF_none {d : List At} {n : Str} : findF d n = none ↔ n ∉ d.map nm := by
  unfold findF
  rw [List.find?_eq_none]
  simp only [List.mem_map, beq_iff_eq, not_exists, not_and]
def allN (ds : List (List At)) : List Str := ds.flatMap (·.map nm)
def pickF (ds : List (List At)) (n : Str) : Option At := ds.findSome? (findF · n)
theorem pickF_name {ds : List (List At)} {n : Str} {x : At} (h : pickF ds n = some x) : nm x = n ∧ n ∈ allN ds := by
  obtain ⟨d, hd, e⟩ := List.exists_of_findSome?_eq_some h
  obtain ⟨e1, e2⟩ := findF_name e
  refine ⟨e1, List.mem_flatMap.2 ⟨d, hd, List.mem_map.2 ⟨x, e2, e1⟩⟩⟩
/-- The file that counts for a name, if its text says something. -/
def keepF (ds : List (List At)) (n : Str) : Option At := (pickF ds n).filter fun x => !(L x.val).isEmpty
theorem keepF_some {ds : List (List At)} {n : Str} {x : At} : keepF ds n = some x ↔ pickF ds n = some x ∧ (L x.val).isEmpty = false := by
  unfold keepF
  rw [Option.filter_eq_some_iff]
  simp
def mergeL (ds : List (List At)) : List At := (namesS (allN ds)).filterMap (keepF ds)
theorem mem_mergeL {ds : List (List At)} {x : At} : x ∈ mergeL ds ↔ pickF ds (nm x) = some x ∧ (L x.val).isEmpty = false := by
  unfold mergeL
  rw [List.mem_filterMap]
  constructor
  · rintro ⟨n, _, e⟩
    obtain ⟨e1, e2⟩ := keepF_some.1 e
    obtain ⟨rfl, _⟩ := pickF_name e1
    exact ⟨e1, e2⟩
  · rintro ⟨e1, e2⟩
    exact ⟨nm x, (mem_namesS _ _).2 (pickF_name e1).2, keepF_some.2 ⟨e1, e2⟩⟩
theorem asc_mergeL (ds : List (List At)) : (mergeL ds).Pairwise (fun x y => nm x < nm y) :=
  (asc_namesS (allN ds)).filterMap _ (fun a b h x hx y hy => by
    rw [(pickF_name (keepF_some.1 hx).1).1, (pickF_name (keepF_some.1 hy).1).1]; exact h)
theorem files_ext {a b : List At} (ha : a.Pairwise (fun x y => nm x < nm y)) (hb : b.Pairwise (fun x y => nm x < nm y)) (h : ∀ x, x ∈ a ↔ x ∈ b) : a = b :=
  asc_ext (r := fun x y : At => nm x < nm y) (fun _ => slt_irr _) (fun _ _ h k => slt_irr _ (slt_tr h k)) ha hb h
/-- A directory with a name twice, or with what is no name. -/
def badD (d : List At) : Bool := !decide (d.map nm).Nodup || d.any fun x => !validS (nm x)
def checkF (ds : List (List At)) : Int := if ds.any badD then 171 else if 64 < (namesS (allN ds)).length then 170 else 0
def mergeF (ds : List (List At)) : List At × Int := if checkF ds = 0 then (mergeL ds, 0) else ([], checkF ds)
def lookF (d : List At) (n : Str) : Option ByteArray := (findF d n).map (·.val)
def difF (a b : List At) (n : Str) : Bool := decide (lookF a n ≠ lookF b n)
def changedF (a b : List At) : List Str := (namesS (a.map nm ++ b.map nm)).filter (difF a b)
theorem mem_changedF {a b : List At} {n : Str} : n ∈ changedF a b ↔ (n ∈ a.map nm ++ b.map nm) ∧ lookF a n ≠ lookF b n := by
  unfold changedF difF
  rw [List.mem_filter, mem_namesS, decide_eq_true_eq]
theorem asc_changedF (a b : List At) : (changedF a b).Pairwise (· < ·) := (asc_namesS _).sublist (List.filter_sublist)
theorem changedF_self (a : List At) : changedF a a = [] := by
  unfold changedF
  rw [List.filter_eq_nil_iff]
  intro n _
  simp [difF]
/-- One more directory in front, of one file: it counts for its name, and turns no other file. -/
theorem mergeL_hides (x : At) (ds : List (List At)) : (mergeL ([x] :: ds)).filter (fun y => !(nm y == nm x)) = (mergeL ds).filter (fun y => !(nm y == nm x)) := by
  refine files_ext ((asc_mergeL _).sublist List.filter_sublist) ((asc_mergeL _).sublist List.filter_sublist) fun y => ?_
  rw [List.mem_filter, List.mem_filter, mem_mergeL, mem_mergeL]
  by_cases e : nm y = nm x
  · simp [e]
  · have : pickF ([x] :: ds) (nm y) = pickF ds (nm y) := by
      have h0 : findF [x] (nm y) = none := by
        rw [findF_none]; simpa [nm] using e
      simp [pickF, h0]
    rw [this]
theorem mergeL_first (x : At) (ds : List (List At)) : (mergeL ([x] :: ds)).filter (fun y => nm y == nm x) = if (L x.val).isEmpty then [] else [x] := by
  have hp : pickF ([x] :: ds) (nm x) = some x := by
    have : findF [x] (nm x) = some x := by simp [findF]
    simp [pickF, this]
  refine files_ext ((asc_mergeL _).sublist List.filter_sublist) (by split <;> simp) fun y => ?_
  rw [List.mem_filter, mem_mergeL]
  constructor
  · rintro ⟨⟨h1, h2⟩, h3⟩
    have h3 : nm y = nm x := by simpa using h3
    rw [h3, hp] at h1
    obtain rfl := Option.some.inj h1
    rw [h2]; simp
  · intro h
    split at h
    · cases h
    · rename_i he
      obtain rfl := List.mem_singleton.1 h
      exact ⟨⟨hp, by simpa using he⟩, by simp⟩
end Go.Proofs.Ytgdjknpdgajdgaa
namespace Go.Proofs.Ytgdjknpdgajdgaa
/-- A device. -/
structure Dv where
  ix : Int
  pa : Int
  nam : ByteArray
  og : ByteArray
  sb : ByteArray
  dr : ByteArray
  al : ByteArray
  kd : Int
  nb : Int
  ats : Ls At
def encDv (d : Dv) : List Value := [.int .i64 d.ix, .int .i64 d.pa, .string d.nam, .string d.og, .string d.sb, .string d.dr, .string d.al, .int .i64 d.kd, .int .i64 d.nb, .slice d.ats.A d.ats.l.length d.ats.c]
def dvV (d : Dv) : Value := .agg #[.int .i64 d.ix, .int .i64 d.pa, .string d.nam, .string d.og, .string d.sb, .string d.dr, .string d.al, .int .i64 d.kd, .int .i64 d.nb, .slice d.ats.A d.ats.l.length d.ats.c]
/-- The value of an attribute, or the empty text. -/
def attrS (l : List At) (n : Str) : ByteArray := match findF l n with
  | some x => x.val
  | none => ⟨#[]⟩
/-- What a term looks at. -/
def seenV (t : Tm) (d : Dv) : Option ByteArray :=
  if t.key = 2 ∨ t.key = 8 then some d.og else if t.key = 3 ∨ t.key = 9 then some d.sb else if t.key = 4 ∨ t.key = 10 then some d.dr else if t.key = 5 ∨ t.key = 11 then some (attrS d.ats.l (L t.name)) else none
def holdsB (t : Tm) (v : ByteArray) : Bool := globM (L t.value) (L v) == (t.op == 1)
def devB (t : Tm) (d : Dv) : Bool := matchB t.op && match seenV t d with
  | some v => holdsB t v
  | none => false
def staticB (t : Tm) : Bool := matchB t.op && (t.key == 2 || t.key == 3 || t.key == 4 || t.key == 5)
def upB (t : Tm) : Bool := matchB t.op && (t.key == 8 || t.key == 9 || t.key == 10 || t.key == 11)
def stopB (t : Tm) : Bool := t.key == 12 || t.key == 14
/-- The front of a rule. -/
def frontS : List Tm → List Tm
  | [] => []
  | t :: l => if stopB t then [] else if staticB t then t :: frontS l else frontS l
/-- The bytes with which an alternative begins. -/
def begS : List El → Str
  | .lit c :: l => c :: begS l
  | _ => []
/-- The text that alone matches a pattern. -/
def litS (p : Str) : Option Str := match globS p with
  | some [l] => if (begS l).length = l.length then some (begS l) else none
  | _ => none
def keyT (t : Tm) : Option Str := if t.key = 3 ∧ t.op = 1 then litS (L t.value) else none
def rkeyS : List Tm → Option Str
  | [] => none
  | t :: l => match keyT t with
    | some k => some k
    | none => rkeyS l
def candS (l : List Tm) (d : Dv) : Bool := (frontS l).all fun t => devB t d
theorem begS_lits : ∀ {l : List El}, (begS l).length = l.length → l = (begS l).map El.lit
  | [], _ => rfl
  | .lit c :: l, h => by
    have h1 : (begS l).length = l.length := by simpa [begS] using h
    rw [begS, List.map_cons, ← begS_lits h1]
  | .star :: l, h => by simp [begS] at h
  | .any :: l, h => by simp [begS] at h
  | .set no rs :: l, h => by simp [begS] at h
theorem match_lits : ∀ {cs s : Str}, altB (cs.map El.lit) s = true → s = cs
  | [], s, h => by
    unfold altB at h
    rw [List.map_nil, matchS, List.isEmpty_iff] at h
    exact h
  | c :: cs, [], h => by
    unfold altB at h
    rw [List.map_cons, match_lit_nil _ _ rfl] at h
    cases h
  | c :: cs, b :: s, h => by
    unfold altB at h
    rw [List.map_cons, match_lit _ _ rfl, Bool.and_eq_true] at h
    have h1 := match_lits (cs := cs) (s := s) h.2
    have h2 : b = c := by
      have := h.1
      simp only [hasB, El.has] at this
      have h3 : b.toNat = c.toNat := by first | simpa using this | (have := this; simp at this; omega)
      exact UInt8.toNat_inj.1 h3
    rw [h1, h2]
theorem litS_match {p k s : Str} (h : litS p = some k) (hm : globM p s = true) : s = k := by
  unfold litS at h
  split at h
  · rename_i l hg
    split at h
    · rename_i hb
      obtain rfl := Option.some.inj h
      unfold globM at hm
      rw [hg] at hm
      simp only [List.any_cons, List.any_nil, Bool.or_false, Bool.and_eq_true] at hm
      have h2 := hm.2
      rw [begS_lits hb] at h2
      exact match_lits h2
    · cases h
  · cases h
theorem rkeyS_some : ∀ {l : List Tm} {k : Str}, rkeyS l = some k → ∃ t ∈ l, t.key = 3 ∧ t.op = 1 ∧ litS (L t.value) = some k
  | [], k, h => by cases h
  | t :: l, k, h => by
    rw [rkeyS] at h
    split at h
    · rename_i k' hk
      obtain rfl := Option.some.inj h
      unfold keyT at hk
      split at hk
      · rename_i ho
        exact ⟨t, List.mem_cons_self .., ho.1, ho.2, hk⟩
      · cases hk
    · obtain ⟨x, hx, h1⟩ := rkeyS_some h
      exact ⟨x, List.mem_cons_of_mem _ hx, h1⟩
/-- A rule with a key is a candidate for devices of that subsystem alone. -/
theorem cand_key {l : List Tm} {d : Dv} {k : Str} (h : rkeyS (frontS l) = some k) (hc : candS l d = true) : L d.sb = k := by
  obtain ⟨t, ht, h1, h2, h3⟩ := rkeyS_some h
  have h4 := List.all_eq_true.1 hc t ht
  unfold devB seenV holdsB at h4
  rw [h1, h2, if_neg (by omega), if_pos (by omega)] at h4
  refine litS_match h3 ?_
  simpa [matchB] using h4
theorem front_stop {t : Tm} {l : List Tm} (h : stopB t = true) : frontS (t :: l) = [] := by rw [frontS, if_pos h]
theorem front_static {t : Tm} {l : List Tm} (h : stopB t = false) (hs : staticB t = true) : frontS (t :: l) = t :: frontS l := by rw [frontS, if_neg (by rw [h]; simp), if_pos hs]
theorem front_other {t : Tm} {l : List Tm} (h : stopB t = false) (hs : staticB t = false) : frontS (t :: l) = frontS l := by rw [frontS, if_neg (by rw [h]; simp), if_neg (by rw [hs]; simp)]
theorem frontS_len : ∀ l : List Tm, (frontS l).length ≤ l.length
  | [] => Nat.le_refl _
  | t :: l => by
    have := frontS_len l
    rw [frontS]
    split
    · exact Nat.zero_le _
    split <;> simp <;> omega
theorem frontS_sub : ∀ (l : List Tm), ∀ t ∈ frontS l, t ∈ l
  | [], t, h => by cases h
  | x :: l, t, h => by
    rw [frontS] at h
    split at h
    · cases h
    split at h
    · rcases List.mem_cons.1 h with rfl | h
      · exact List.mem_cons_self ..
      · exact List.mem_cons_of_mem _ (frontS_sub l t h)
    · exact List.mem_cons_of_mem _ (frontS_sub l t h)
theorem frontS_static : ∀ (l : List Tm), ∀ t ∈ frontS l, staticB t = true
  | [], t, h => by cases h
  | x :: l, t, h => by
    rw [frontS] at h
    split at h
    · cases h
    split at h
    · rename_i hs
      rcases List.mem_cons.1 h with rfl | h
      · exact hs
      · exact frontS_static l t h
    · exact frontS_static l t h
/-- Two lists that ascend, as one, each number once. -/
def mergeS : List Int → List Int → List Int
  | [], b => b
  | a, [] => a
  | x :: a, y :: b => if x < y then x :: mergeS a (y :: b) else if y < x then y :: mergeS (x :: a) b else x :: mergeS a b
termination_by a b => a.length + b.length
def AscI (l : List Int) : Prop := l.Pairwise (· < ·)
theorem merge_nil (a : List Int) : mergeS a [] = a := by cases a <;> simp [mergeS]
theorem mem_mergeS : ∀ (a b : List Int) (z : Int), z ∈ mergeS a b ↔ z ∈ a ∨ z ∈ b
  | [], b, z => by simp [mergeS]
  | x :: a, [], z => by simp [mergeS]
  | x :: a, y :: b, z => by
    rw [mergeS]
    split
    · rw [List.mem_cons, mem_mergeS a (y :: b) z, List.mem_cons]; simp only [List.mem_cons, or_assoc]
    split
    · rw [List.mem_cons, mem_mergeS (x :: a) b z]
      simp only [List.mem_cons]
      constructor
      · rintro (h | (h | h) | h) <;> simp [h]
      · rintro ((h | h) | h | h) <;> simp [h]
    · have e : x = y := by omega
      rw [List.mem_cons, mem_mergeS a b z, e]
      simp only [List.mem_cons]
      constructor
      · rintro (h | h | h) <;> simp [h]
      · rintro ((h | h) | h | h) <;> simp [h]
termination_by a b => a.length + b.length
theorem asc_mergeS : ∀ (a b : List Int), AscI a → AscI b → AscI (mergeS a b)
  | [], b, _, hb => by rw [mergeS]; exact hb
  | x :: a, [], ha, _ => by rw [mergeS]; exact ha; simp
  | x :: a, y :: b, ha, hb => by
    have ha2 := List.pairwise_cons.1 ha
    have hb2 := List.pairwise_cons.1 hb
    rw [mergeS]
    split
    · rename_i h
      refine List.pairwise_cons.2 ⟨fun z hz => ?_, asc_mergeS a (y :: b) ha2.2 hb⟩
      rcases (mem_mergeS _ _ _).1 hz with hz | hz
      · exact ha2.1 z hz
      · rcases List.mem_cons.1 hz with rfl | hz
        · exact h
        · exact Int.lt_trans h (hb2.1 z hz)
    split
    · rename_i h
      refine List.pairwise_cons.2 ⟨fun z hz => ?_, asc_mergeS (x :: a) b ha hb2.2⟩
      rcases (mem_mergeS _ _ _).1 hz with hz | hz
      · rcases List.mem_cons.1 hz with rfl | hz
        · exact h
        · exact Int.lt_trans h (ha2.1 z hz)
      · exact hb2.1 z hz
    · have e : x = y := by omega
      refine List.pairwise_cons.2 ⟨fun z hz => ?_, asc_mergeS a b ha2.2 hb2.2⟩
      rcases (mem_mergeS _ _ _).1 hz with hz | hz
      · exact ha2.1 z hz
      · rw [e]; exact hb2.1 z hz
termination_by a b => a.length + b.length
theorem ascI_ext : ∀ {a b : List Int}, AscI a → AscI b → (∀ z, z ∈ a ↔ z ∈ b) → a = b
  | [], [], _, _, _ => rfl
  | [], y :: b, _, _, h => by have := (h y).2 (by simp); cases this
  | x :: a, [], _, _, h => by have := (h x).1 (by simp); cases this
  | x :: a, y :: b, ha, hb, h => by
    have ha2 := List.pairwise_cons.1 ha
    have hb2 := List.pairwise_cons.1 hb
    have e : x = y := by
      rcases List.mem_cons.1 ((h x).1 (by simp)) with e | h1
      · exact e
      rcases List.mem_cons.1 ((h y).2 (by simp)) with e | h2
      · exact e.symm
      have := hb2.1 x h1
      have := ha2.1 y h2
      omega
    subst e
    refine congrArg (x :: ·) (ascI_ext ha2.2 hb2.2 fun z => ?_)
    constructor
    · intro hz
      rcases List.mem_cons.1 ((h z).1 (List.mem_cons_of_mem _ hz)) with e | h1
      · have := ha2.1 z hz; omega
      · exact h1
    · intro hz
      rcases List.mem_cons.1 ((h z).2 (List.mem_cons_of_mem _ hz)) with e | h1
      · have := hb2.1 z hz; omega
      · exact h1
/-- The places at which something holds. -/
def idxS {α : Type} (P : α → Bool) (l : List α) : List Int := ((List.range l.length).filter fun i => match l[i]? with | some x => P x | none => false).map Int.ofNat
theorem mem_idxS {α : Type} (P : α → Bool) (l : List α) (z : Int) : z ∈ idxS P l ↔ ∃ i x, z = Int.ofNat i ∧ l[i]? = some x ∧ P x = true := by
  unfold idxS
  simp only [List.mem_map, List.mem_filter, List.mem_range]
  constructor
  · rintro ⟨i, ⟨hi, h⟩, rfl⟩
    rw [List.getElem?_eq_getElem hi] at h
    exact ⟨i, l[i], rfl, List.getElem?_eq_getElem hi, h⟩
  · rintro ⟨i, x, rfl, hx, h⟩
    exact ⟨i, ⟨(List.getElem?_eq_some_iff.1 hx).1, by rw [hx]; exact h⟩, rfl⟩
theorem asc_idxS {α : Type} (P : α → Bool) (l : List α) : AscI (idxS P l) := by
  unfold idxS AscI
  rw [List.pairwise_map]
  refine List.Pairwise.filter _ (List.Pairwise.imp ?_ List.pairwise_lt_range)
  intro a b h
  simpa using h
theorem idxS_nil {α : Type} (P : α → Bool) : idxS P ([] : List α) = [] := rfl
theorem idxS_snoc {α : Type} (P : α → Bool) (l : List α) (x : α) : idxS P (l ++ [x]) = if P x then idxS P l ++ [Int.ofNat l.length] else idxS P l := by
  unfold idxS
  rw [List.length_append, List.length_singleton, List.range_succ, List.filter_append, List.map_append]
  have h1 : ((List.range l.length).filter fun i => match (l ++ [x])[i]? with | some x => P x | none => false) = (List.range l.length).filter fun i => match l[i]? with | some x => P x | none => false := by
    refine List.filter_congr fun i hi => ?_
    rw [List.getElem?_append_left (List.mem_range.1 hi)]
  rw [h1]
  have h2 : (l ++ [x])[l.length]? = some x := by simp
  cases hp : P x <;> simp [hp]
theorem idxS_len {α : Type} (P : α → Bool) (l : List α) : (idxS P l).length ≤ l.length := by
  unfold idxS
  rw [List.length_map]
  exact Nat.le_trans (List.length_filter_le _ _) (by simp)
/-- What the program's way gives: the places without a key, and those of the device's key, without those whose front fails. -/
theorem cand_places (rs : List (List Tm)) (d : Dv) (hits : Int → Bool) (hh : ∀ i l, rs[i]? = some l → hits (Int.ofNat i) = candS l d) :
    (mergeS (idxS (fun l => rkeyS (frontS l) == some (L d.sb)) rs) (idxS (fun l => rkeyS (frontS l) == none) rs)).filter hits = idxS (fun l => candS l d) rs := by
  refine ascI_ext (List.Pairwise.filter _ (asc_mergeS _ _ (asc_idxS _ _) (asc_idxS _ _))) (asc_idxS _ _) fun z => ?_
  rw [List.mem_filter, mem_mergeS, mem_idxS, mem_idxS, mem_idxS]
  constructor
  · rintro ⟨h1, h2⟩
    rcases h1 with ⟨i, l, rfl, hl, _⟩ | ⟨i, l, rfl, hl, _⟩
    · exact ⟨i, l, rfl, hl, by rw [← hh i l hl]; exact h2⟩
    · exact ⟨i, l, rfl, hl, by rw [← hh i l hl]; exact h2⟩
  · rintro ⟨i, l, rfl, hl, hc⟩
    refine ⟨?_, by rw [hh i l hl]; exact hc⟩
    cases hk : rkeyS (frontS l) with
    | none => exact Or.inr ⟨i, l, rfl, hl, by rw [hk]; rfl⟩
    | some k => exact Or.inl ⟨i, l, rfl, hl, by rw [hk, cand_key hk hc]; simp⟩
end Go.Proofs.Ytgdjknpdgajdgaa
namespace Go.Proofs.Ytgdjknpdgajdgaa
open Go.RowKit Go.Maps
abbrev DW := DataW Unit
abbrev kN (x : At) : Lit := .string (nm x)
abbrev vN (x : At) : DW := .lit (.string (L x.val))
def putD (D : DW) (x : At) : DW := D.put (kN x) (vN x)
def textD (l : List At) : DW := l.foldl putD (.map [])
theorem textD_snoc (l : List At) (x : At) : textD (l ++ [x]) = putD (textD l) x := by simp [textD]
theorem key_str (s : Str) : WideAt.IsKeyLit (.string s) := by first | exact trivial | simp [WideAt.IsKeyLit]
theorem kne {a b : Str} (h : a ≠ b) : (Lit.string a) ≠ Lit.string b := fun e => h (by injection e)
theorem textD_tidy (l : List At) : Tidy (textD l) := by
  suffices h : ∀ (l : List At) (D : DW), Tidy D → Tidy (l.foldl putD D) from h l _ tidy_empty
  intro l
  induction l with
  | nil => exact fun D h => h
  | cons x r ih => exact fun D h => ih _ (h.put (key_str _) _)
/-- What it holds for a name: the text of the last file with this name. -/
theorem textD_at (l : List At) (n : Str) (z : DW) : (textD l).atKey (.string n) z = match findF l.reverse n with
    | some x => vN x
    | none => z := by
  suffices h : ∀ l : List At, (textD l.reverse).atKey (.string n) z = match findF l n with
    | some x => vN x
    | none => z by have := h l.reverse; rwa [List.reverse_reverse] at this
  intro l
  induction l with
  | nil => rfl
  | cons x r ih =>
    rw [List.reverse_cons, textD_snoc]
    unfold putD
    by_cases e : nm x = n
    · subst e
      rw [atKey_put_same (textD_tidy _).isMap (key_str _)]
      simp [findF]
    · rw [atKey_put_other (kne fun h => e h.symm), ih]
      have : findF (x :: r) n = findF r n := by simp [findF, e]
      rw [this]
theorem textD_has (l : List At) (n : Str) : Maps.has (textD l) (.string n) = (findF l.reverse n).isSome := by
  cases h : findF l.reverse n with
  | some x => exact has_true_of_atKey (y := vN x) (fun z => by rw [textD_at, h])
  | none => exact has_false_of_atKey (fun z => by rw [textD_at, h])
/-- How many entries: how many different names. -/
theorem textD_size (l : List At) : Maps.size (textD l) = (namesS (l.map nm)).length := by
  suffices h : ∀ l : List At, Maps.size (textD l.reverse) = (namesS (l.reverse.map nm)).length by have := h l.reverse; rwa [List.reverse_reverse] at this
  intro l
  induction l with
  | nil => rfl
  | cons x r ih =>
    rw [List.reverse_cons, textD_snoc, putD, size_put (textD_tidy _), ih, List.map_append, show [x].map nm = [nm x] from rfl, namesS_snoc, putS_len (asc_namesS _), textD_has, List.reverse_reverse]
    by_cases hm : nm x ∈ namesS (r.reverse.map nm)
    · have h2 : (findF r (nm x)).isSome = true := by
        cases hf : findF r (nm x) with
        | some y => rfl
        | none =>
          rw [findF_none] at hf
          rw [mem_namesS] at hm
          exact absurd (by simpa using hm) hf
      rw [if_pos hm, h2]; rfl
    · have h2 : (findF r (nm x)).isSome = false := by
        cases hf : findF r (nm x) with
        | none => rfl
        | some y =>
          obtain ⟨e1, e2⟩ := findF_name hf
          exact absurd ((mem_namesS _ _).2 (by rw [← e1]; simpa using ⟨y, e2, rfl⟩)) hm
      rw [if_neg hm, h2]; rfl
/-- A set of names. -/
def setD (ns : List Str) : DW := ns.foldl (fun D n => D.put (.string n) (.lit (.bool true))) (.map [])
theorem setD_snoc (ns : List Str) (n : Str) : setD (ns ++ [n]) = (setD ns).put (.string n) (.lit (.bool true)) := by simp [setD]
theorem setD_is (ns : List Str) : setD ns = setOf (.lit (.bool true)) (ns.map Lit.string) := by
  unfold setD setOf
  rw [List.foldl_map]
theorem setD_tidy (ns : List Str) : Tidy (setD ns) := by
  rw [setD_is]
  exact tidy_setOf _ _ (fun x hx => by obtain ⟨s, _, rfl⟩ := List.mem_map.1 hx; exact key_str s)
theorem setD_has (ns : List Str) (n : Str) : Maps.has (setD ns) (.string n) = decide (n ∈ ns) := by
  rw [setD_is, has_setOf _ _ _ (fun x hx => by obtain ⟨s, _, rfl⟩ := List.mem_map.1 hx; exact key_str s), Bool.eq_iff_iff, List.any_eq_true, decide_eq_true_eq]
  constructor
  · rintro ⟨x, hx, e⟩
    obtain ⟨s, hs, rfl⟩ := List.mem_map.1 hx
    by_cases h : s = n
    · rw [← h]; exact hs
    · rw [sameKey_ne (kne h)] at e; cases e
  · intro h
    exact ⟨_, List.mem_map.2 ⟨n, h, rfl⟩, by simp [Lit.sameKey]⟩
theorem setD_size (ns : List Str) : Maps.size (setD ns) = (namesS ns).length := by
  suffices h : ∀ l : List Str, Maps.size (setD l.reverse) = (namesS l.reverse).length by have := h ns.reverse; rwa [List.reverse_reverse] at this
  intro l
  induction l with
  | nil => rfl
  | cons x r ih =>
    rw [List.reverse_cons, setD_snoc, size_put (setD_tidy _), ih, namesS_snoc, putS_len (asc_namesS _), setD_has]
    by_cases hm : x ∈ r.reverse
    · rw [decide_eq_true hm, if_pos ((mem_namesS _ _).2 hm)]; rfl
    · rw [decide_eq_false hm, if_neg (fun h => hm ((mem_namesS _ _).1 h))]; rfl
end Go.Proofs.Ytgdjknpdgajdgaa
namespace Go.Proofs.Ytgdjknpdgajdgaa
open Go.RowKit Go.Maps
/-- The places at which a key stands. -/
def plcS (ks : List (Option Str)) (s : Str) : List Int := idxS (fun o => o == some s) ks
def grpR : List (Option Str) → DW
  | [] => .map []
  | none :: ks => grpR ks
  | some s :: ks => (grpR ks).put (.string s) (.slice (ChangeShapes.lits .i64 (plcS (ks.reverse ++ [some s]) s)) [])
/-- The map behind some rules, by their keys. -/
def grpD (ks : List (Option Str)) : DW := grpR ks.reverse
theorem grpD_none (ks : List (Option Str)) : grpD (ks ++ [none]) = grpD ks := by unfold grpD; rw [List.reverse_append, List.reverse_singleton, List.singleton_append, grpR]
theorem grpD_some (ks : List (Option Str)) (s : Str) : grpD (ks ++ [some s]) = (grpD ks).put (.string s) (.slice (ChangeShapes.lits .i64 (plcS (ks ++ [some s]) s)) []) := by
  unfold grpD
  rw [List.reverse_append, List.reverse_singleton, List.singleton_append, grpR, List.reverse_reverse]
theorem grpR_tidy : ∀ ks : List (Option Str), Tidy (grpR ks)
  | [] => tidy_empty
  | none :: ks => by rw [grpR]; exact grpR_tidy ks
  | some s :: ks => by rw [grpR]; exact (grpR_tidy ks).put (key_str _) _
theorem plcS_same (ks : List (Option Str)) (s : Str) : plcS (ks ++ [some s]) s = plcS ks s ++ [Int.ofNat ks.length] := by
  unfold plcS
  rw [idxS_snoc, if_pos (by simp)]
theorem plcS_other (ks : List (Option Str)) {o : Option Str} {s : Str} (h : o ≠ some s) : plcS (ks ++ [o]) s = plcS ks s := by
  unfold plcS
  rw [idxS_snoc, if_neg (by simpa using h)]
/-- A list of places as the map holds it. -/
def datS (zs : List Int) : DW := match zs with
  | [] => .nil
  | z :: r => .slice (ChangeShapes.lits .i64 (z :: r)) []
theorem datS_ne {zs : List Int} (h : zs ≠ []) : datS zs = .slice (ChangeShapes.lits .i64 zs) [] := by
  cases zs with
  | nil => exact absurd rfl h
  | cons z r => rfl
theorem grpD_at (ks : List (Option Str)) (s : Str) : (grpD ks).atKey (.string s) .nil = datS (plcS ks s) := by
  suffices h : ∀ l : List (Option Str), (grpR l).atKey (.string s) .nil = datS (plcS l.reverse s) by have := h ks.reverse; rwa [List.reverse_reverse] at this
  intro l
  induction l with
  | nil => rfl
  | cons o l ih =>
    rw [List.reverse_cons]
    cases o with
    | none => rw [grpR, ih, plcS_other _ (by simp)]
    | some k =>
      rw [grpR]
      by_cases e : k = s
      · subst e
        rw [atKey_put_same (grpR_tidy _).isMap (key_str _), plcS_same]
        exact (datS_ne (by simp)).symm
      · rw [atKey_put_other (kne fun h => e h.symm), ih, plcS_other _ (fun h => e (Option.some.inj h))]
theorem lits_inj {q : IntKind} {a b : List Int} (h : (ChangeShapes.lits q a : List (DataW Unit)) = ChangeShapes.lits q b) : a = b := by
  unfold ChangeShapes.lits at h
  exact (List.map_inj_right (fun x y hxy => by injection hxy with h1; injection h1)).1 h
/-- What a look-up hands over holds the places. -/
theorem places_of {W : World} {base : Nat} {e : TypeId} {v : Value} {zs : List Int} {ks : List (Option Str)} {s : Str} (hat : (grpD ks).atKey (.string s) .nil = rowDatum .i64 v zs) (ho : W.ownsInts base e .i64 v zs) : zs = plcS ks s := by
  rw [grpD_at] at hat
  rcases ho.datum (H := Unit) with ⟨h1, h2⟩ | h1
  · rw [h1] at hat
    cases hp : plcS ks s with
    | nil => exact h2
    | cons z r => rw [hp] at hat; cases hat
  · rw [h1] at hat
    cases hp : plcS ks s with
    | nil => rw [hp] at hat; cases hat
    | cons z r =>
      rw [hp] at hat
      injection hat with hat
      exact (lits_inj hat).symm
/-- The look-up, and: what the groups shun, the slice that is handed over shuns. -/
theorem groups_at {P : Program} {w : World} {k t E e : TypeId} {q : IntKind} {base b n : Nat} {D : DW} {key : Value} {kl : Lit} (h : w.ownsGroups P k base e q b n D) (K : Keyed P k) (ht : P.underlying t = some (.map k E)) (hz : (zeroValue E).run P w = .ok (.slice none 0 0) w) (hn : n < maxLen) (hkey : keyOf P k key = some kl) :
    ∃ v zs, (Instr.lookup t (.map (some b)) key false).run P w = .ok v w ∧ D.atKey kl .nil = rowDatum q v zs ∧ w.ownsInts base e q v zs ∧ zs.length ≤ n ∧ w.groupBack P t k base e q b n D key kl v ∧ (∀ No : Nat → Prop, w.Shuns b No → ∀ g, v.ownBlock = some g → ¬ No g) := by
  have hown := h
  obtain ⟨v, zs, hrun, hat, hoi, hzl, hback⟩ := h.at K ht hz hn hkey
  refine ⟨v, zs, hrun, hat, hoi, hzl, hback, ?_⟩
  obtain ⟨es, clock, hb, F, _⟩ := hown
  rcases Maps.fit_look false K ht hz hb F hkey with ⟨hrun', _, _⟩ | ⟨e0, y, hm0, _, hrun', _, _, _⟩
  · rw [hrun] at hrun'
    obtain rfl : v = .slice none 0 0 := by simpa using hrun'
    intro _ _ g hg'
    cases hg'
  · rw [hrun] at hrun'
    obtain rfl : v = e0.val := by simpa using hrun'
    exact fun No hs g hg' => hs es clock hb e0 hm0 g hg'
/-- A map that has just been made, the rows to lie behind some further blocks. -/
theorem groups_made {P : Program} {w W : World} {k e : TypeId} {q : IntKind} {base : Nat} (hb : W.heap[w.heap.size]? = some (.map #[] 0)) (hlt : w.heap.size < base) : W.ownsGroups (H := Unit) P k base e q w.heap.size 0 (.map []) :=
  ⟨#[], 0, hb, ⟨by simp, MapKept.stamped_empty 0, by simp⟩, Nat.le_refl _, rfl, hlt, by simp, by simp⟩
theorem shuns_made {w W : World} (No : Nat → Prop) (hb : W.heap[w.heap.size]? = some (.map #[] 0)) : W.Shuns w.heap.size No := fun es clock hb' x hx => by
  rw [hb] at hb'
  cases hb'
  simp at hx
/-- More entries may be there. -/
theorem groups_more {P : Program} {w : World} {k e : TypeId} {q : IntKind} {base b n m : Nat} {D : DW} (h : w.ownsGroups P k base e q b n D) (hm : n ≤ m) : w.ownsGroups P k base e q b m D := by
  obtain ⟨es, clock, h1, h2, h3, h4, h5, h6, h7⟩ := h
  exact ⟨es, clock, h1, h2, Nat.le_trans h3 hm, h4, h5, fun x hx zs ho => Nat.le_trans (h6 x hx zs ho) hm, h7⟩
end Go.Proofs.Ytgdjknpdgajdgaa
