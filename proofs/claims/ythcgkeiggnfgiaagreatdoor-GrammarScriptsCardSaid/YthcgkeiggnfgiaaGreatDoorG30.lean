/-
  Contracts of the reference's Keys and Ops.
  Contract of the reference's Format of terms.
-/
import Derived.Test.YthcgkeiggnfgiaaGreatDoorG27
import Derived.Test.YthcgkeiggnfgiaaGreatDoorRGH
import Derived.Deep.RegionHeld3
import Derived.Deep.AppendLies
import Derived.Test.YthcgkeiggnfgiaaGreatDoorG06
namespace Go.Proofs.YthcgkeiggnfgiaaGreatDoor
open Go.RowKit
def keysB : List ByteArray := [⟨#[]⟩, ⟨#[65, 67, 84, 73, 79, 78]⟩, ⟨#[75, 69, 82, 78, 69, 76]⟩, ⟨#[83, 85, 66, 83, 89, 83, 84, 69, 77]⟩, ⟨#[68, 82, 73, 86, 69, 82]⟩, ⟨#[65, 84, 84, 82]⟩, ⟨#[69, 78, 86]⟩, ⟨#[84, 65, 71]⟩, ⟨#[75, 69, 82, 78, 69, 76, 83]⟩, ⟨#[83, 85, 66, 83, 89, 83, 84, 69, 77, 83]⟩, ⟨#[68, 82, 73, 86, 69, 82, 83]⟩, ⟨#[65, 84, 84, 82, 83]⟩, ⟨#[80, 82, 79, 71, 82, 65, 77]⟩, ⟨#[82, 69, 83, 85, 76, 84]⟩, ⟨#[73, 77, 80, 79, 82, 84]⟩, ⟨#[78, 65, 77, 69]⟩, ⟨#[83, 89, 77, 76, 73, 78, 75]⟩, ⟨#[79, 87, 78, 69, 82]⟩, ⟨#[71, 82, 79, 85, 80]⟩, ⟨#[77, 79, 68, 69]⟩, ⟨#[82, 85, 78]⟩, ⟨#[76, 79, 65, 68]⟩, ⟨#[80, 82, 73, 79, 82, 73, 84, 89]⟩, ⟨#[76, 65, 66, 69, 76]⟩, ⟨#[71, 79, 84, 79]⟩]
def keysA : Array Value := (keysB.map Value.string).toArray
def opsW : List ByteArray := [⟨#[]⟩, ⟨#[61, 61]⟩, ⟨#[33, 61]⟩, ⟨#[61]⟩, ⟨#[43, 61]⟩, ⟨#[45, 61]⟩, ⟨#[58, 61]⟩]
def opsWA : Array Value := (opsW.map Value.string).toArray
set_option maxRecDepth 100000 in
theorem RKeys_any (w : World) :
    Calls Tryz.prog 81 #[] w fun e w' => e = .returned (.slice (some ⟨w.heap.size, 0, none⟩) 25 25) ∧ w.alloc (.cells keysA 9) = w' := by
  go_enter Tryz.func81, Tryz.ntmps81
  go_wp2
  go_ret
  exact ⟨rfl, rfl⟩
set_option maxRecDepth 100000 in
theorem ROps_any (w : World) :
    Calls Tryz.prog 82 #[] w fun e w' => e = .returned (.slice (some ⟨w.heap.size, 0, none⟩) 7 7) ∧ w.alloc (.cells opsWA 9) = w' := by
  go_enter Tryz.func82, Tryz.ntmps82
  go_wp2
  go_ret
  exact ⟨rfl, rfl⟩
def keyW (k : Int) : ByteArray := keysB.getD k.toNat ⟨#[]⟩
def opW (k : Int) : ByteArray := opsW.getD k.toNat ⟨#[]⟩
def tokOf (t : Tm) : Tk := ⟨keyW t.key, t.name, opW t.op, t.value⟩
/-- The line of terms, or the error. -/
def formatE (l : List Tm) : Str × Int := if checkE l = 0 then fmtS (l.map tokOf) else ([], checkE l)
theorem keysA_at (k : Nat) (h : k < 25) : keysA[k]? = some (.string (keyW k)) := by
  unfold keysA keyW
  rw [List.getElem?_toArray, List.getElem?_map, Int.toNat_natCast, List.getD, List.getElem?_eq_getElem (by simpa [keysB] using h)]
  rfl
theorem opsWA_at (k : Nat) (h : k < 7) : opsWA[k]? = some (.string (opW k)) := by
  unfold opsWA opW
  rw [List.getElem?_toArray, List.getElem?_map, Int.toNat_natCast, List.getD, List.getElem?_eq_getElem (by simpa [opsW] using h)]
  rfl
theorem keyW_len (k : Int) : (keyW k).size ≤ 1000 := by
  unfold keyW
  rw [List.getD]
  cases hx : keysB[k.toNat]? with
  | none => exact Nat.zero_le _
  | some x =>
    have : (keysB.all fun s => decide (s.size ≤ 1000)) = true := by decide
    simpa using List.all_eq_true.1 this x (List.mem_of_getElem? hx)
theorem opW_len (k : Int) : (opW k).size ≤ 1000 := by
  unfold opW
  rw [List.getD]
  cases hx : opsW[k.toNat]? with
  | none => exact Nat.zero_le _
  | some x =>
    have : (opsW.all fun s => decide (s.size ≤ 1000)) = true := by decide
    simpa using List.all_eq_true.1 this x (List.mem_of_getElem? hx)
theorem tokOf_small {t : Tm} (h : TmRight t) : TkSmall (tokOf t) := ⟨keyW_len _, by have := h.name; show t.name.size ≤ _; omega, opW_len _, by have := h.value; show t.value.size ≤ _; omega⟩
end Go.Proofs.YthcgkeiggnfgiaaGreatDoor
namespace Go.Proofs.YthcgkeiggnfgiaaGreatDoor
open Go.RowKit
theorem tokInfo : (Tryz.prog.info? 119).map (fun i => (i.zero, i.size, i.bytes)) = some (some (.agg #[.string ⟨#[]⟩, .string ⟨#[]⟩, .string ⟨#[]⟩, .string ⟨#[]⟩]), 4, 64) := by kernel_rfl
theorem encTk_one (x : Tk) : ∀ u ∈ encTk x, u.oneCell' = true := by simp [encTk, Value.oneCell']
def FormatPost (l : List Tm) (w : World) (e : Ending) (w' : World) : Prop := e = .returned (.tuple #[.string (bs (formatE l).1), .int .i64 (formatE l).2]) ∧ Below w.heap.size w w'
theorem own_below' {w w' : World} {base kk n : Nat} {e : TypeId} {v : Value} {xs : List Value} (h : w.ownsRow base e kk v n xs) (hb : Below w.heap.size w w') : w'.ownsRow base e kk v n xs :=
  h.kept (grown_below hb none) (by cases hv : v.ownBlock <;> simp)
theorem own_snoc3 {w : World} {base k : Nat} {e : TypeId} {v : Value} {l : List Tk} {x : Tk} (h : w.ownsRow base e 4 v (k + 1) (cellsOf encTk l ++ encTk x)) : w.ownsRow base e 4 v (k + 1) (cellsOf encTk (l ++ [x])) := by
  rw [cellsOf_append]
  have : cellsOf encTk [x] = encTk x := by simp [cellsOf]
  rw [this]
  exact h
set_option maxRecDepth 100000 in
set_option maxHeartbeats 8000000 in
theorem RFormat_any (A : Option Addr) (c : Nat) (l : List Tm) (w : World) (hE : Env0 w) (h : RowAt w w.heap.size A 4 l.length (cellsOf encTm l)) (hl : l.length ≤ 9223372036854775807) (hok : ∀ t ∈ l, TmOk t) :
    Calls Tryz.prog 44 #[.slice A l.length c] w (FormatPost l w) := by
  have HC := Lib.hid (RCheck_any A c l w hE h hl hok)
  have HE := Lib.hid hE
  have HR := Lib.hid h
  clear hE h hok
  by_cases hce : checkE l = 0
  · obtain ⟨h1, h16, hall⟩ := checkE_ok hce
    have HF : Hid (formatE l = fmtS (l.map tokOf)) := Lib.hid (by rw [formatE, if_pos hce])
    rw [hce] at HC
    have HK := Lib.hid (fun t ht => termE_right (hall t ht))
    obtain ⟨N, hN⟩ : ∃ N, l.length = N := ⟨_, rfl⟩
    have HN := Lib.hid hN
    rw [hN] at h1 h16 hl HC ⊢
    obtain ⟨i0, hi0, hz0, hz1, hz2⟩ := info_parts tokInfo
    have Hi0 := Lib.hid hi0
    have Hz0 := Lib.hid hz0
    have Hz1 := Lib.hid hz1
    have Hz2 := Lib.hid hz2
    clear hce hall hN hi0 hz0 hz1 hz2
    go_enter Tryz.func44, Tryz.ntmps44
    go_wp2_with (go_at_call 34; refine HC.out.mono ?_; rintro e w1 ⟨rfl, hb1⟩; have HW1 := Lib.hid hb1; clear hb1)
    clear HC
    go_loopg [5, 6] (N + 1) (fun gk s5 s6 wr => ∃ (k : Nat) (v : Value), s6 = .int .i64 k ∧ k + gk = N + 1 ∧ k ≤ N ∧ v = s5 ∧ Hid (wr.ownsRow w.heap.size 119 4 v k (cellsOf encTk ((l.take k).map tokOf))) ∧ Hid (Below w.heap.size w wr))
    case atStart => exact ⟨0, _, rfl, by omega, Nat.zero_le _, rfl, World.ownsRow_nil _ _ _ _, HW1.out⟩
    case round =>
      obtain ⟨k, v, rfl, hkg, hkN, rfl, hO, hW⟩ := hrel
      by_cases hlt : k < N
      · have hltI : (k : Int) < (N : Int) := by omega
        have hk : k < l.length := by rw [HN.out]; exact hlt
        have hQ0 := fun W' (hb : Below w.heap.size w W') => HR.out.tm hb hk
        have ht : l.take (k + 1) = l.take k ++ [l[k]] := List.take_succ_eq_append_getElem hk
        have hxs := HK.out l[k] (List.getElem_mem _)
        generalize l[k] = t at *
        obtain ⟨ky, nm, op, vl⟩ := t
        obtain ⟨k0, k1, o0, o1, zn, zv⟩ := hxs
        dsimp only at k0 k1 o0 o1 zn zv hQ0
        obtain ⟨kn, rfl⟩ := Int.eq_ofNat_of_zero_le (show 0 ≤ ky by omega)
        obtain ⟨on, rfl⟩ := Int.eq_ofNat_of_zero_le (show 0 ≤ op by omega)
        obtain ⟨ba, off, rfl, _⟩ := hQ0 w (Below.refl _ _)
        have hQ : ∀ W', Below w.heap.size w W' → W'.cell? ⟨ba, off + k * 4, none⟩ = some (.int .i64 kn) ∧ W'.cell? ⟨ba, off + k * 4 + 1, none⟩ = some (.string nm) ∧ W'.cell? ⟨ba, off + k * 4 + 2, none⟩ = some (.int .i64 on) ∧ W'.cell? ⟨ba, off + k * 4 + 3, none⟩ = some (.string vl) := fun W' hb => by
          obtain ⟨ba', off', e, h⟩ := hQ0 W' hb
          obtain ⟨rfl, rfl⟩ : ba = ba' ∧ off = off' := by injection e with e; injection e with e1 e2; exact ⟨e1, e2⟩
          exact h
        have HQ := Lib.hid hQ
        have hknI : (kn : Int) < 25 := by omega
        have honI : (on : Int) < 7 := by omega
        have hka := keysA_at kn (by omega)
        have hoa := opsWA_at on (by omega)
        have HX : Hid ((l.take (k + 1)).map tokOf = (l.take k).map tokOf ++ [⟨keyW kn, nm, opW on, vl⟩]) := Lib.hid (by rw [ht, List.map_append]; rfl)
        generalize keyW (kn : Int) = kw at *
        generalize opW (on : Int) = ow at *
        clear hQ hQ0 ht hk
        have hws := hW.out.size
        go_wp2
        -- REGION
        refine wp_region_held_drew (S := fun W' => W'.cell? ⟨ba, off + k * 4, none⟩ = some (.int .i64 kn) ∧ W'.cell? ⟨ba, off + k * 4 + 1, none⟩ = some (.string nm) ∧ W'.cell? ⟨ba, off + k * 4 + 2, none⟩ = some (.int .i64 on) ∧ W'.cell? ⟨ba, off + k * 4 + 3, none⟩ = some (.string vl)) (by kernel_rfl) ?_ (fun hHeld => ?_)
        · exact HQ.out _ (bt hW.out (by go_grown))
        refine wpAnyH_take (i := 0) (v := ?_) (by simp only [List.getElem?_toArray, List.getElem?_cons_zero]; rfl) (by kernel_rfl) (by kernel_rfl) (by kernel_rfl) (by exact fun _ _ _ h => h) (Or.inl ⟨by rfl, ?_⟩) (by assumption) ?_
        rotate_left
        · intro w hSw
          go_simp
          try with_reducible rfl
        try simp only [Act.put, List.setIfInBounds_toArray, List.set_cons_zero, List.set_cons_succ]
        refine wpAnyH_take (i := 2) (v := ?_) (by simp only [List.getElem?_toArray, List.getElem?_cons_succ, List.getElem?_cons_zero]; rfl) (by kernel_rfl) (by kernel_rfl) (by kernel_rfl) (by exact fun _ _ _ h => h) (Or.inl ⟨by rfl, ?_⟩) (by assumption) ?_
        rotate_left
        · intro w hSw
          go_simp
          try with_reducible rfl
        try simp only [Act.put, List.setIfInBounds_toArray, List.set_cons_zero, List.set_cons_succ]
        refine wpAnyH_take (i := 3) (v := ?_) (by simp only [List.getElem?_toArray, List.getElem?_cons_succ, List.getElem?_cons_zero]; rfl) (by kernel_rfl) (by kernel_rfl) (by kernel_rfl) (by exact fun _ _ _ h => h) (Or.inl ⟨by rfl, ?_⟩) (by assumption) ?_
        rotate_left
        · intro w hSw
          go_simp
          try with_reducible rfl
        try simp only [Act.put, List.setIfInBounds_toArray, List.set_cons_zero, List.set_cons_succ]
        refine wpAnyH_take (i := 4) (v := ?_) (by simp only [List.getElem?_toArray, List.getElem?_cons_succ, List.getElem?_cons_zero]; rfl) (by kernel_rfl) (by kernel_rfl) (by kernel_rfl) (by exact fun _ _ _ h => h) (Or.inl ⟨by rfl, ?_⟩) (by assumption) ?_
        rotate_left
        · intro w hSw
          go_simp
          try with_reducible rfl
        try simp only [Act.put, List.setIfInBounds_toArray, List.set_cons_zero, List.set_cons_succ]
        refine wpAnyH_take (i := 5) (v := ?_) (by simp only [List.getElem?_toArray, List.getElem?_cons_succ, List.getElem?_cons_zero]; rfl) (by kernel_rfl) (by kernel_rfl) (by kernel_rfl) (by exact fun _ _ _ h => h) (Or.inl ⟨by rfl, ?_⟩) (by assumption) ?_
        rotate_left
        · intro w hSw
          go_simp
          try with_reducible rfl
        try simp only [Act.put, List.setIfInBounds_toArray, List.set_cons_zero, List.set_cons_succ]
        refine wpAnyH_take (i := 6) (v := ?_) (by simp only [List.getElem?_toArray, List.getElem?_cons_succ, List.getElem?_cons_zero]; rfl) (by kernel_rfl) (by kernel_rfl) (by kernel_rfl) (by exact fun _ _ _ h => h) (Or.inl ⟨by rfl, ?_⟩) (by assumption) ?_
        rotate_left
        · intro w hSw
          go_simp
          try with_reducible rfl
        try simp only [Act.put, List.setIfInBounds_toArray, List.set_cons_zero, List.set_cons_succ]
        refine wpAnyH_take (i := 9) (v := ?_) (by simp only [List.getElem?_toArray, List.getElem?_cons_succ, List.getElem?_cons_zero]; rfl) (by kernel_rfl) (by kernel_rfl) (by kernel_rfl) (by exact fun _ _ _ h => h) (Or.inl ⟨by rfl, ?_⟩) (by assumption) ?_
        rotate_left
        · intro w hSw
          go_simp
          try with_reducible rfl
        try simp only [Act.put, List.setIfInBounds_toArray, List.set_cons_zero, List.set_cons_succ]
        refine wpAnyH_take (i := 10) (v := ?_) (by simp only [List.getElem?_toArray, List.getElem?_cons_succ, List.getElem?_cons_zero]; rfl) (by kernel_rfl) (by kernel_rfl) (by kernel_rfl) (by exact fun _ _ _ h => h) (Or.inl ⟨by rfl, ?_⟩) (by assumption) ?_
        rotate_left
        · intro w hSw
          go_simp
          try with_reducible rfl
        try simp only [Act.put, List.setIfInBounds_toArray, List.set_cons_zero, List.set_cons_succ]
        refine wpAnyH_take (i := 11) (v := ?_) (by simp only [List.getElem?_toArray, List.getElem?_cons_succ, List.getElem?_cons_zero]; rfl) (by kernel_rfl) (by kernel_rfl) (by kernel_rfl) (by exact fun _ _ _ h => h) (Or.inl ⟨by rfl, ?_⟩) (by assumption) ?_
        rotate_left
        · intro w hSw
          go_simp
          try with_reducible rfl
        try simp only [Act.put, List.setIfInBounds_toArray, List.set_cons_zero, List.set_cons_succ]
        refine wpAnyH_take (i := 12) (v := ?_) (by simp only [List.getElem?_toArray, List.getElem?_cons_succ, List.getElem?_cons_zero]; rfl) (by kernel_rfl) (by kernel_rfl) (by kernel_rfl) (by exact fun _ _ _ h => h) (Or.inl ⟨by rfl, ?_⟩) (by assumption) ?_
        rotate_left
        · intro w hSw
          go_simp
          try with_reducible rfl
        try simp only [Act.put, List.setIfInBounds_toArray, List.set_cons_zero, List.set_cons_succ]
        refine wpAnyH_take (i := 13) (v := ?_) (by simp only [List.getElem?_toArray, List.getElem?_cons_succ, List.getElem?_cons_zero]; rfl) (by kernel_rfl) (by kernel_rfl) (by kernel_rfl) (by exact fun _ _ _ h => h) (Or.inl ⟨by rfl, ?_⟩) (by assumption) ?_
        rotate_left
        · intro w hSw
          go_simp
          try with_reducible rfl
        try simp only [Act.put, List.setIfInBounds_toArray, List.set_cons_zero, List.set_cons_succ]
        refine wpAnyH_take (i := 15) (v := ?_) (by simp only [List.getElem?_toArray, List.getElem?_cons_succ, List.getElem?_cons_zero]; rfl) (by kernel_rfl) (by kernel_rfl) (by kernel_rfl) (by exact fun _ _ _ h => h) (Or.inl ⟨by rfl, ?_⟩) (by assumption) ?_
        rotate_left
        · intro w hSw
          go_simp
          try with_reducible rfl
        try simp only [Act.put, List.setIfInBounds_toArray, List.set_cons_zero, List.set_cons_succ]
        refine wpAnyH_take (i := 16) (v := ?_) (by simp only [List.getElem?_toArray, List.getElem?_cons_succ, List.getElem?_cons_zero]; rfl) (by kernel_rfl) (by kernel_rfl) (by kernel_rfl) (by exact fun _ _ _ h => h) (Or.inl ⟨by rfl, ?_⟩) (by assumption) ?_
        rotate_left
        · intro w hSw
          go_simp
          try with_reducible rfl
        try simp only [Act.put, List.setIfInBounds_toArray, List.set_cons_zero, List.set_cons_succ]
        refine wpAnyH_take (i := 17) (v := ?_) (by simp only [List.getElem?_toArray, List.getElem?_cons_succ, List.getElem?_cons_zero]; rfl) (by kernel_rfl) (by kernel_rfl) (by kernel_rfl) (by exact fun _ _ _ h => h) (Or.inl ⟨by rfl, ?_⟩) (by assumption) ?_
        rotate_left
        · intro w hSw
          go_simp
          try with_reducible rfl
        try simp only [Act.put, List.setIfInBounds_toArray, List.set_cons_zero, List.set_cons_succ]
        refine wpAnyH_take (i := 18) (v := ?_) (by simp only [List.getElem?_toArray, List.getElem?_cons_succ, List.getElem?_cons_zero]; rfl) (by kernel_rfl) (by kernel_rfl) (by kernel_rfl) (by exact fun _ _ _ h => h) (Or.inl ⟨by rfl, ?_⟩) (by assumption) ?_
        rotate_left
        · intro w hSw
          go_simp
          try with_reducible rfl
        try simp only [Act.put, List.setIfInBounds_toArray, List.set_cons_zero, List.set_cons_succ]
        refine wpAnyH_take (i := 19) (v := ?_) (by simp only [List.getElem?_toArray, List.getElem?_cons_succ, List.getElem?_cons_zero]; rfl) (by kernel_rfl) (by kernel_rfl) (by kernel_rfl) (by exact fun _ _ _ h => h) (Or.inl ⟨by rfl, ?_⟩) (by assumption) ?_
        rotate_left
        · intro w hSw
          go_simp
          try with_reducible rfl
        try simp only [Act.put, List.setIfInBounds_toArray, List.set_cons_zero, List.set_cons_succ]
        refine wpAnyH_take (i := 22) (v := ?_) (by simp only [List.getElem?_toArray, List.getElem?_cons_succ, List.getElem?_cons_zero]; rfl) (by kernel_rfl) (by kernel_rfl) (by kernel_rfl) (by exact fun _ _ _ h => h) (Or.inl ⟨by rfl, ?_⟩) (by assumption) ?_
        rotate_left
        · intro w hSw
          go_simp
          try with_reducible rfl
        try simp only [Act.put, List.setIfInBounds_toArray, List.set_cons_zero, List.set_cons_succ]
        refine wpAnyH_take (i := 23) (v := ?_) (by simp only [List.getElem?_toArray, List.getElem?_cons_succ, List.getElem?_cons_zero]; rfl) (by kernel_rfl) (by kernel_rfl) (by kernel_rfl) (by exact fun _ _ _ h => h) (Or.inl ⟨by rfl, ?_⟩) (by assumption) ?_
        rotate_left
        · intro w hSw
          go_simp
          try with_reducible rfl
        try simp only [Act.put, List.setIfInBounds_toArray, List.set_cons_zero, List.set_cons_succ]
        refine wpAnyH_take (i := 24) (v := ?_) (by simp only [List.getElem?_toArray, List.getElem?_cons_succ, List.getElem?_cons_zero]; rfl) (by kernel_rfl) (by kernel_rfl) (by kernel_rfl) (by exact fun _ _ _ h => h) (Or.inl ⟨by rfl, ?_⟩) (by assumption) ?_
        rotate_left
        · intro w hSw
          go_simp
          try with_reducible rfl
        try simp only [Act.put, List.setIfInBounds_toArray, List.set_cons_zero, List.set_cons_succ]
        refine wpAnyH_take (i := 25) (v := ?_) (by simp only [List.getElem?_toArray, List.getElem?_cons_succ, List.getElem?_cons_zero]; rfl) (by kernel_rfl) (by kernel_rfl) (by kernel_rfl) (by exact fun _ _ _ h => h) (Or.inl ⟨by rfl, ?_⟩) (by assumption) ?_
        rotate_left
        · intro w hSw
          go_simp
          try with_reducible rfl
        try simp only [Act.put, List.setIfInBounds_toArray, List.set_cons_zero, List.set_cons_succ]
        refine wpAnyH_take (i := 26) (v := ?_) (by simp only [List.getElem?_toArray, List.getElem?_cons_succ, List.getElem?_cons_zero]; rfl) (by kernel_rfl) (by kernel_rfl) (by kernel_rfl) (by exact fun _ _ _ h => h) (Or.inl ⟨by rfl, ?_⟩) (by assumption) ?_
        rotate_left
        · intro w hSw
          go_simp
          try with_reducible rfl
        try simp only [Act.put, List.setIfInBounds_toArray, List.set_cons_zero, List.set_cons_succ]
        refine wpAnyH_ready (rs := [1]) (by kernel_rfl) (by simp) ?_
        refine AllReadyH.cons (by simp only [List.getElem?_toArray, List.getElem?_cons_succ, List.getElem?_cons_zero]; rfl) (fun K hK => ?_) AllReadyH.nil
        go_simp
        go_at_call 81
        refine (RKeys_any _).mono ?_
        rintro e w1 ⟨rfl, rfl⟩
        refine hK.out _ _ (by first | exact HQ.out _ HB2.out | exact HQ.out _ (bt hW.out (by go_grown))) (fun hHeld => ?_)
        clear hK K
        try simp only [Act.put, List.setIfInBounds_toArray, List.set_cons_zero, List.set_cons_succ]
        refine wpAnyH_take (i := 7) (v := ?_) (by simp only [List.getElem?_toArray, List.getElem?_cons_succ, List.getElem?_cons_zero]; rfl) (by kernel_rfl) (by kernel_rfl) (by kernel_rfl) (by exact fun _ _ _ h => h) (Or.inl ⟨by rfl, ?_⟩) (by assumption) ?_
        rotate_left
        · intro w hSw
          go_simp
          try with_reducible rfl
        try simp only [Act.put, List.setIfInBounds_toArray, List.set_cons_zero, List.set_cons_succ]
        refine wpAnyH_ready (rs := [8, 14]) (by kernel_rfl) (by simp) ?_
        refine AllReadyH.cons (by simp only [List.getElem?_toArray, List.getElem?_cons_succ, List.getElem?_cons_zero]; rfl) (fun K hK => ?_) (AllReadyH.cons (by simp only [List.getElem?_toArray, List.getElem?_cons_succ, List.getElem?_cons_zero]; rfl) (fun K hK => ?_) AllReadyH.nil)
        · skip
          go_simp
          refine hK.out _ _ (by first | exact HQ.out _ HB2.out | exact HQ.out _ (bt hW.out (by go_grown))) (fun hHeld => ?_)
          clear hK K
          try simp only [Act.put, List.setIfInBounds_toArray, List.set_cons_zero, List.set_cons_succ]
          refine wpAnyH_ready (rs := [14]) (by kernel_rfl) (by simp) ?_
          refine AllReadyH.cons (by simp only [List.getElem?_toArray, List.getElem?_cons_succ, List.getElem?_cons_zero]; rfl) (fun K hK => ?_) AllReadyH.nil
          go_simp
          go_at_call 82
          refine (ROps_any _).mono ?_
          rintro e w1 ⟨rfl, rfl⟩
          refine hK.out _ _ (by first | exact HQ.out _ HB2.out | exact HQ.out _ (bt hW.out (by go_grown))) (fun hHeld => ?_)
          clear hK K
          try simp only [Act.put, List.setIfInBounds_toArray, List.set_cons_zero, List.set_cons_succ]
          refine wpAnyH_take (i := 20) (v := ?_) (by simp only [List.getElem?_toArray, List.getElem?_cons_succ, List.getElem?_cons_zero]; rfl) (by kernel_rfl) (by kernel_rfl) (by kernel_rfl) (by exact fun _ _ _ h => h) (Or.inl ⟨by rfl, ?_⟩) (by assumption) ?_
          rotate_left
          · intro w hSw
            go_simp
            try with_reducible rfl
          try simp only [Act.put, List.setIfInBounds_toArray, List.set_cons_zero, List.set_cons_succ]
          refine wpAnyH_ready (rs := [21]) (by kernel_rfl) (by simp) ?_
          refine AllReadyH.cons (by simp only [List.getElem?_toArray, List.getElem?_cons_succ, List.getElem?_cons_zero]; rfl) (fun K hK => ?_) AllReadyH.nil
          go_simp
          refine hK.out _ _ (by first | exact HQ.out _ HB2.out | exact HQ.out _ (bt hW.out (by go_grown))) (fun hHeld => ?_)
          clear hK K
          try simp only [Act.put, List.setIfInBounds_toArray, List.set_cons_zero, List.set_cons_succ]
          refine wpAnyH_take (i := 27) (v := ?_) (by simp only [List.getElem?_toArray, List.getElem?_cons_succ, List.getElem?_cons_zero]; rfl) (by kernel_rfl) (by kernel_rfl) (by kernel_rfl) (by exact fun _ _ _ h => h) (Or.inl ⟨by rfl, ?_⟩) (by assumption) ?_
          rotate_left
          · intro w hSw
            go_simp
            try with_reducible rfl
          try simp only [Act.put, List.setIfInBounds_toArray, List.set_cons_zero, List.set_cons_succ]
          refine wpAnyH_ready (rs := [28]) (by kernel_rfl) (by simp) ?_
          refine AllReadyH.cons (by simp only [List.getElem?_toArray, List.getElem?_cons_succ, List.getElem?_cons_zero]; rfl) (fun K hK => ?_) AllReadyH.nil
          go_simp
          refine hK.out _ _ (by first | exact HQ.out _ HB2.out | exact HQ.out _ (bt hW.out (by go_grown))) (fun hHeld => ?_)
          clear hK K
          try simp only [Act.put, List.setIfInBounds_toArray, List.set_cons_zero, List.set_cons_succ]
          refine wpAnyH_ready (rs := [29]) (by kernel_rfl) (by simp) ?_
          refine AllReadyH.cons (by simp only [List.getElem?_toArray, List.getElem?_cons_succ, List.getElem?_cons_zero]; rfl) (fun K hK => ?_) AllReadyH.nil
          refine step_append_lies _ (by rfl) _ _ _ (by rfl) w.heap.size 119 i0 _ 4 64 Tryz.underlying116 Hi0.out Hz0.out Hz1.out Hz2.out rfl (by omega) v k (cellsOf encTk ((l.take k).map tokOf)) (by rfl) (own_below' hO.out (by go_grown)) _ 1 1 (encTk ⟨kw, nm, ow, vl⟩) (by rfl) (by rfl) (by exact World.news_of_block (B := wr.heap.size + 2) (alloc3 _ _ _ _).2.2.2.1) (encTk_one _) (by omega) (by unfold maxLen;omega) (by omega) (by simp;omega) _ rfl ?_
          intro g2 cap w2 hown2 hgrow2 hat2 hlt2
          have HB2 := Lib.hid ((bt hW.out (by go_grown)).grown hgrow2 (by simp;omega) (fun j e => (hO.out.lt j e).1))
          have HO2 := Lib.hid hown2
          clear hown2 hgrow2 hat2 hlt2
          refine hK.out _ _ (by first | exact HQ.out _ HB2.out | exact HQ.out _ (bt hW.out (by go_grown))) (fun hHeld => ?_)
          clear hK K
          try simp only [Act.put, List.setIfInBounds_toArray, List.set_cons_zero, List.set_cons_succ]
          refine wpAnyH_take (i := 30) (v := ?_) (by simp only [List.getElem?_toArray, List.getElem?_cons_succ, List.getElem?_cons_zero]; rfl) (by kernel_rfl) (by kernel_rfl) (by kernel_rfl) (by exact fun _ _ _ h => h) (Or.inl ⟨by rfl, ?_⟩) (by assumption) ?_
          rotate_left
          · intro w hSw
            go_simp
            try with_reducible rfl
          try simp only [Act.put, List.setIfInBounds_toArray, List.set_cons_zero, List.set_cons_succ]
          refine wpAnyH_done (by kernel_rfl) ?_ _
          go_wp2
          go_roundg (gk - 1)
          case measure => omega
          case rel => exact ⟨k + 1, _, by go_num, by omega, by omega, rfl, by rw [HX.out]; exact own_snoc3 HO2.out, HB2.out⟩
        · skip
          go_simp
          go_at_call 82
          refine (ROps_any _).mono ?_
          rintro e w1 ⟨rfl, rfl⟩
          refine hK.out _ _ (by first | exact HQ.out _ HB2.out | exact HQ.out _ (bt hW.out (by go_grown))) (fun hHeld => ?_)
          clear hK K
          try simp only [Act.put, List.setIfInBounds_toArray, List.set_cons_zero, List.set_cons_succ]
          refine wpAnyH_take (i := 20) (v := ?_) (by simp only [List.getElem?_toArray, List.getElem?_cons_succ, List.getElem?_cons_zero]; rfl) (by kernel_rfl) (by kernel_rfl) (by kernel_rfl) (by exact fun _ _ _ h => h) (Or.inl ⟨by rfl, ?_⟩) (by assumption) ?_
          rotate_left
          · intro w hSw
            go_simp
            try with_reducible rfl
          try simp only [Act.put, List.setIfInBounds_toArray, List.set_cons_zero, List.set_cons_succ]
          refine wpAnyH_ready (rs := [8, 21]) (by kernel_rfl) (by simp) ?_
          refine AllReadyH.cons (by simp only [List.getElem?_toArray, List.getElem?_cons_succ, List.getElem?_cons_zero]; rfl) (fun K hK => ?_) (AllReadyH.cons (by simp only [List.getElem?_toArray, List.getElem?_cons_succ, List.getElem?_cons_zero]; rfl) (fun K hK => ?_) AllReadyH.nil)
          · skip
            go_simp
            refine hK.out _ _ (by first | exact HQ.out _ HB2.out | exact HQ.out _ (bt hW.out (by go_grown))) (fun hHeld => ?_)
            clear hK K
            try simp only [Act.put, List.setIfInBounds_toArray, List.set_cons_zero, List.set_cons_succ]
            refine wpAnyH_ready (rs := [21]) (by kernel_rfl) (by simp) ?_
            refine AllReadyH.cons (by simp only [List.getElem?_toArray, List.getElem?_cons_succ, List.getElem?_cons_zero]; rfl) (fun K hK => ?_) AllReadyH.nil
            go_simp
            refine hK.out _ _ (by first | exact HQ.out _ HB2.out | exact HQ.out _ (bt hW.out (by go_grown))) (fun hHeld => ?_)
            clear hK K
            try simp only [Act.put, List.setIfInBounds_toArray, List.set_cons_zero, List.set_cons_succ]
            refine wpAnyH_take (i := 27) (v := ?_) (by simp only [List.getElem?_toArray, List.getElem?_cons_succ, List.getElem?_cons_zero]; rfl) (by kernel_rfl) (by kernel_rfl) (by kernel_rfl) (by exact fun _ _ _ h => h) (Or.inl ⟨by rfl, ?_⟩) (by assumption) ?_
            rotate_left
            · intro w hSw
              go_simp
              try with_reducible rfl
            try simp only [Act.put, List.setIfInBounds_toArray, List.set_cons_zero, List.set_cons_succ]
            refine wpAnyH_ready (rs := [28]) (by kernel_rfl) (by simp) ?_
            refine AllReadyH.cons (by simp only [List.getElem?_toArray, List.getElem?_cons_succ, List.getElem?_cons_zero]; rfl) (fun K hK => ?_) AllReadyH.nil
            go_simp
            refine hK.out _ _ (by first | exact HQ.out _ HB2.out | exact HQ.out _ (bt hW.out (by go_grown))) (fun hHeld => ?_)
            clear hK K
            try simp only [Act.put, List.setIfInBounds_toArray, List.set_cons_zero, List.set_cons_succ]
            refine wpAnyH_ready (rs := [29]) (by kernel_rfl) (by simp) ?_
            refine AllReadyH.cons (by simp only [List.getElem?_toArray, List.getElem?_cons_succ, List.getElem?_cons_zero]; rfl) (fun K hK => ?_) AllReadyH.nil
            refine step_append_lies _ (by rfl) _ _ _ (by rfl) w.heap.size 119 i0 _ 4 64 Tryz.underlying116 Hi0.out Hz0.out Hz1.out Hz2.out rfl (by omega) v k (cellsOf encTk ((l.take k).map tokOf)) (by rfl) (own_below' hO.out (by go_grown)) _ 1 1 (encTk ⟨kw, nm, ow, vl⟩) (by rfl) (by rfl) (by exact World.news_of_block (B := wr.heap.size + 2) (alloc3 _ _ _ _).2.2.2.1) (encTk_one _) (by omega) (by unfold maxLen;omega) (by omega) (by simp;omega) _ rfl ?_
            intro g2 cap w2 hown2 hgrow2 hat2 hlt2
            have HB2 := Lib.hid ((bt hW.out (by go_grown)).grown hgrow2 (by simp;omega) (fun j e => (hO.out.lt j e).1))
            have HO2 := Lib.hid hown2
            clear hown2 hgrow2 hat2 hlt2
            refine hK.out _ _ (by first | exact HQ.out _ HB2.out | exact HQ.out _ (bt hW.out (by go_grown))) (fun hHeld => ?_)
            clear hK K
            try simp only [Act.put, List.setIfInBounds_toArray, List.set_cons_zero, List.set_cons_succ]
            refine wpAnyH_take (i := 30) (v := ?_) (by simp only [List.getElem?_toArray, List.getElem?_cons_succ, List.getElem?_cons_zero]; rfl) (by kernel_rfl) (by kernel_rfl) (by kernel_rfl) (by exact fun _ _ _ h => h) (Or.inl ⟨by rfl, ?_⟩) (by assumption) ?_
            rotate_left
            · intro w hSw
              go_simp
              try with_reducible rfl
            try simp only [Act.put, List.setIfInBounds_toArray, List.set_cons_zero, List.set_cons_succ]
            refine wpAnyH_done (by kernel_rfl) ?_ _
            go_wp2
            go_roundg (gk - 1)
            case measure => omega
            case rel => exact ⟨k + 1, _, by go_num, by omega, by omega, rfl, by rw [HX.out]; exact own_snoc3 HO2.out, HB2.out⟩
          · skip
            go_simp
            refine hK.out _ _ (by first | exact HQ.out _ HB2.out | exact HQ.out _ (bt hW.out (by go_grown))) (fun hHeld => ?_)
            clear hK K
            try simp only [Act.put, List.setIfInBounds_toArray, List.set_cons_zero, List.set_cons_succ]
            refine wpAnyH_ready (rs := [8]) (by kernel_rfl) (by simp) ?_
            refine AllReadyH.cons (by simp only [List.getElem?_toArray, List.getElem?_cons_succ, List.getElem?_cons_zero]; rfl) (fun K hK => ?_) AllReadyH.nil
            go_simp
            refine hK.out _ _ (by first | exact HQ.out _ HB2.out | exact HQ.out _ (bt hW.out (by go_grown))) (fun hHeld => ?_)
            clear hK K
            try simp only [Act.put, List.setIfInBounds_toArray, List.set_cons_zero, List.set_cons_succ]
            refine wpAnyH_take (i := 27) (v := ?_) (by simp only [List.getElem?_toArray, List.getElem?_cons_succ, List.getElem?_cons_zero]; rfl) (by kernel_rfl) (by kernel_rfl) (by kernel_rfl) (by exact fun _ _ _ h => h) (Or.inl ⟨by rfl, ?_⟩) (by assumption) ?_
            rotate_left
            · intro w hSw
              go_simp
              try with_reducible rfl
            try simp only [Act.put, List.setIfInBounds_toArray, List.set_cons_zero, List.set_cons_succ]
            refine wpAnyH_ready (rs := [28]) (by kernel_rfl) (by simp) ?_
            refine AllReadyH.cons (by simp only [List.getElem?_toArray, List.getElem?_cons_succ, List.getElem?_cons_zero]; rfl) (fun K hK => ?_) AllReadyH.nil
            go_simp
            refine hK.out _ _ (by first | exact HQ.out _ HB2.out | exact HQ.out _ (bt hW.out (by go_grown))) (fun hHeld => ?_)
            clear hK K
            try simp only [Act.put, List.setIfInBounds_toArray, List.set_cons_zero, List.set_cons_succ]
            refine wpAnyH_ready (rs := [29]) (by kernel_rfl) (by simp) ?_
            refine AllReadyH.cons (by simp only [List.getElem?_toArray, List.getElem?_cons_succ, List.getElem?_cons_zero]; rfl) (fun K hK => ?_) AllReadyH.nil
            refine step_append_lies _ (by rfl) _ _ _ (by rfl) w.heap.size 119 i0 _ 4 64 Tryz.underlying116 Hi0.out Hz0.out Hz1.out Hz2.out rfl (by omega) v k (cellsOf encTk ((l.take k).map tokOf)) (by rfl) (own_below' hO.out (by go_grown)) _ 1 1 (encTk ⟨kw, nm, ow, vl⟩) (by rfl) (by rfl) (by exact World.news_of_block (B := wr.heap.size + 2) (alloc3 _ _ _ _).2.2.2.1) (encTk_one _) (by omega) (by unfold maxLen;omega) (by omega) (by simp;omega) _ rfl ?_
            intro g2 cap w2 hown2 hgrow2 hat2 hlt2
            have HB2 := Lib.hid ((bt hW.out (by go_grown)).grown hgrow2 (by simp;omega) (fun j e => (hO.out.lt j e).1))
            have HO2 := Lib.hid hown2
            clear hown2 hgrow2 hat2 hlt2
            refine hK.out _ _ (by first | exact HQ.out _ HB2.out | exact HQ.out _ (bt hW.out (by go_grown))) (fun hHeld => ?_)
            clear hK K
            try simp only [Act.put, List.setIfInBounds_toArray, List.set_cons_zero, List.set_cons_succ]
            refine wpAnyH_take (i := 30) (v := ?_) (by simp only [List.getElem?_toArray, List.getElem?_cons_succ, List.getElem?_cons_zero]; rfl) (by kernel_rfl) (by kernel_rfl) (by kernel_rfl) (by exact fun _ _ _ h => h) (Or.inl ⟨by rfl, ?_⟩) (by assumption) ?_
            rotate_left
            · intro w hSw
              go_simp
              try with_reducible rfl
            try simp only [Act.put, List.setIfInBounds_toArray, List.set_cons_zero, List.set_cons_succ]
            refine wpAnyH_done (by kernel_rfl) ?_ _
            go_wp2
            go_roundg (gk - 1)
            case measure => omega
            case rel => exact ⟨k + 1, _, by go_num, by omega, by omega, rfl, by rw [HX.out]; exact own_snoc3 HO2.out, HB2.out⟩
        -- END
      · obtain rfl : k = N := by omega
        have HT : Hid ((l.take k).map tokOf = l.map tokOf) := Lib.hid (by rw [List.take_of_length_le (by rw [HN.out]; exact Nat.le_refl _)])
        have hlt2 : (l.map tokOf).length = k := by rw [List.length_map, HN.out]
        have HL := Lib.hid hlt2
        clear hlt2
        obtain ⟨A2, c2, rfl⟩ := own_slice hO.out
        have hrow := RowAt.of_own hO.out
        rw [HT.out] at hrow
        have HFm := Lib.hid (RLFormat_any A2 c2 (l.map tokOf) wr (HE.out.go hW.out) (by rw [HL.out]; exact hrow) (by rw [HL.out]; omega) (fun x hx => by
          obtain ⟨t, ht, rfl⟩ := List.mem_map.1 hx
          exact tokOf_small (HK.out t ht)))
        rw [HL.out] at HFm
        unfold FmtPost at HFm
        clear hrow HT HL
        go_wp2_with (go_at_call 83; refine HFm.out.mono ?_; rintro e w5 ⟨rfl, hb5⟩; have HB5 := Lib.hid (bt hW.out hb5); clear hb5)
        go_ret2
        unfold FormatPost
        rw [HF.out]
        exact ⟨rfl, HB5.out⟩
  · have HF : Hid (formatE l = ([], checkE l)) := Lib.hid (by rw [formatE, if_neg hce])
    generalize checkE l = ce at *
    have hne : (ce == 0) = false := by simp [hce]
    have hnn : (ce != 0) = true := by simp [hce]
    generalize l.length = N at *
    clear hce HR HE
    go_enter Tryz.func44, Tryz.ntmps44
    go_wp2_with (go_at_call 34; refine HC.out.mono ?_; rintro e w1 ⟨rfl, hb1⟩)
    go_ret2
    unfold FormatPost
    rw [HF.out]
    exact ⟨rfl, hb1⟩
end Go.Proofs.YthcgkeiggnfgiaaGreatDoor
