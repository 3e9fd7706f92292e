/-
  Contract of the reference's Check of directories.
  Contract of the reference's Merge of directories.
-/
import Derived.Test.YthcgkeiggnfgiaaGreatDoorG32
import Derived.Test.YthcgkeiggnfgiaaGreatDoorG09
import Derived.Test.YthcgkeiggnfgiaaGreatDoorG06
import Derived.Deep.AppendLies
namespace Go.Proofs.YthcgkeiggnfgiaaGreatDoor
open Go.RowKit
def ErrPost (n : Int) (w : World) (e : Ending) (w' : World) : Prop := e = .returned (.int .i64 n) ∧ Below w.heap.size w w'
set_option maxRecDepth 100000 in
set_option maxHeartbeats 8000000 in
theorem RCheckD_any (A : Option Addr) (c : Nat) (ds : List (Ls At)) (w : World) (h : DirsAt w A ds) (hb : bulk ds ≤ 100000) (hsz : ∀ d ∈ ds, ∀ x ∈ d.l, x.name.size ≤ 9223372036854775807) :
    Calls Tryz.prog 23 #[.slice A ds.length c] w (ErrPost (checkF (lsOf ds)) w) := by
  have H := Lib.hid h
  have HBk := Lib.hid hb
  have HSz := Lib.hid hsz
  have HNm := Lib.hid (fun W (hW : Below w.heap.size w W) => RNames_any A c ds W (h.keep hW) hb)
  have hM : ds.length ≤ 100000 := Nat.le_trans (bulk_len ds) hb
  have HBad : Hid (∀ (k : Nat) (d : Ls At), ds[k]? = some d → badD d.l = true → checkF (lsOf ds) = 171) := Lib.hid fun k d hk hd => check_bad (List.mem_map.2 ⟨d, List.mem_of_getElem? hk, rfl⟩) hd
  have HGood : Hid ((∀ (j : Nat) (d : Ls At), j < ds.length → ds[j]? = some d → badD d.l = false) → checkF (lsOf ds) = if 64 < (namesS (allN (lsOf ds))).length then 170 else 0) := Lib.hid fun hg => check_good fun l hl => by
    obtain ⟨d, hd, rfl⟩ := List.mem_map.1 hl
    obtain ⟨j, hj⟩ := List.getElem?_of_mem hd
    exact hg j d (List.getElem?_eq_some_iff.1 hj).1 hj
  clear h hb hsz
  generalize hMM : ds.length = M at *
  have HM := Lib.hid hMM
  clear hMM
  generalize checkF (lsOf ds) = ce at *
  go_enter Tryz.func23, Tryz.ntmps23
  go_wp2
  go_loopg [3] (M + 1) (fun gk s3 wr => ∃ (k : Nat), s3 = .int .i64 k ∧ k + gk = M + 1 ∧ k ≤ M ∧ Hid (∀ (j : Nat) (d : Ls At), j < k → ds[j]? = some d → badD d.l = false) ∧ Hid (Below w.heap.size w wr))
  case atStart => exact ⟨0, rfl, by omega, Nat.zero_le _, fun j d hj => absurd hj (by omega), Below.refl _ _⟩
  case round =>
    obtain ⟨k, rfl, hkg, hkM, hG, hW⟩ := hrel
    by_cases hlt : k < M
    · have hltI : (k : Int) < (M : Int) := by omega
      have hk' : k < ds.length := by rw [HM.out]; exact hlt
      obtain ⟨g, off, rfl, hg, hcell, hrow⟩ := H.out.dir hk'
      have HB1 := Lib.hid (HBad.out k ds[k] (List.getElem?_eq_getElem hk'))
      have HDk : Hid (∀ d, ds[k]? = some d → d = ds[k]) := Lib.hid fun d hd => (Option.some.inj ((List.getElem?_eq_getElem hk').symm.trans hd)).symm
      have hl1 : ds[k].l.length ≤ 100000 := Nat.le_of_lt (Nat.lt_of_lt_of_le (bulk_mem (List.getElem_mem hk')) HBk.out)
      have hcp := H.out.cap ds[k] (List.getElem_mem hk')
      have HS1 := Lib.hid (HSz.out ds[k] (List.getElem_mem hk'))
      have HF : Hid (∀ m x, ds[k].l[m]? = some x → ∃ ba off, ds[k].A = some ⟨ba, off, none⟩ ∧ ba < w.heap.size ∧ ∀ W, Below w.heap.size w W → W.cell? ⟨ba, off + m * 2, none⟩ = some (.string x.name) ∧ W.cell? ⟨ba, off + m * 2 + 1, none⟩ = some (.string x.val)) := Lib.hid fun m x hx => (hrow w (Below.refl _ _)).fileX hx
      generalize ds[k] = d at *
      obtain ⟨dA, dc, dl⟩ := d
      dsimp only at *
      have HC := Lib.hid hcell
      have HFd : Hid (∀ m n, m ≤ dl.length → ∀ W, Below w.heap.size w W → Calls Tryz.prog 55 #[.slice dA m dc, .string n] W (FindPost (findF (dl.take m) (L n)) W)) := Lib.hid fun m n hm W hb => by
        have h1 := (hrow W hb).head hm
        rw [cellsOf_take encAt 2 encAt_len] at h1
        have h2 : (dl.take m).length = m := by rw [List.length_take]; omega
        have := RFind_any dA dc (dl.take m) n W (by rw [h2]; exact h1) (by omega)
        rw [h2] at this
        exact this
      clear hcell hrow hk'
      generalize hNN : dl.length = N at *
      have HNN := Lib.hid hNN
      clear hNN
      have hcpI : (N : Int) ≤ (dc : Int) := by omega
      go_wp2
      obtain ⟨gko, rfl⟩ : ∃ gko : Nat, gko = gk := ⟨_, rfl⟩
      obtain ⟨wo, rfl⟩ : ∃ wo : World, wo = wr := ⟨_, rfl⟩
      go_loopg [4] (N + 1) (fun gk s4 wr => ∃ (m : Nat), s4 = .int .i64 m ∧ m + gk = N + 1 ∧ m ≤ N ∧ Hid (GoodPre dl m) ∧ Hid (Below w.heap.size w wr))
      case atStart => exact ⟨0, rfl, by omega, Nat.zero_le _, good_zero _, hW.out⟩
      case round =>
        obtain ⟨m, rfl, hmg, hmN, hGm, hW⟩ := hrel
        have hc0 := HC.out _ hW.out
        by_cases hltm : m < N
        · have hltmI : (m : Int) < (N : Int) := by omega
          have hmc : (m : Int) ≤ (dc : Int) := by omega
          have hlm : m < dl.length := by rw [HNN.out]; exact hltm
          obtain ⟨x, hx⟩ : ∃ x, dl[m]? = some x := ⟨_, List.getElem?_eq_getElem hlm⟩
          obtain ⟨ba, off2, rfl, hba, hcc⟩ := HF.out m x hx
          have hcn := (hcc _ hW.out).1
          have HX := Lib.hid hx
          have HS : Hid (∀ W', Below w.heap.size w W' → Below w.heap.size w W' ∧ W'.cell? ⟨g, off + k, none⟩ = some (.slice (some ⟨ba, off2, none⟩) N dc) ∧ W'.cell? ⟨ba, off2 + m * 2, none⟩ = some (.string x.name)) := Lib.hid fun W' hb => ⟨hb, HC.out W' hb, (hcc W' hb).1⟩
          have hfd := HFd.out m x.name (by omega)
          have hxs := HS1.out x (List.mem_of_getElem? hx)
          have HGs := Lib.hid (fun (hf : findF (dl.take m) (L x.name) = none) (hv : validS (L x.name) = true) => good_step hGm.out hx hf hv)
          have HBv := Lib.hid (fun (hv : validS (L x.name) = false) => HB1.out (bad_val (List.mem_of_getElem? hx) hv))
          have HBd := Lib.hid (fun y (hf : findF (dl.take m) (L x.name) = some y) => HB1.out (bad_dup hx hf))
          clear hx hcc hlm
          have hws := hW.out.size
          cases hfq : findF (dl.take m) (L x.name) with
          | some y =>
            have hce := HBd.out y hfq
            rw [hfq] at hfd
            have HFq := Lib.hid hfd
            unfold FindPost foundV at HFq
            clear hfd hfq HBd HBv HGs
            subst hce
            go_wp2
            go_region_held3 (fun W' => Below w.heap.size w W' ∧ W'.cell? ⟨g, off + k, none⟩ = some (.slice (some ⟨ba, off2, none⟩) N dc) ∧ W'.cell? ⟨ba, off2 + m * 2, none⟩ = some (.string x.name)) ((refine HS.out _ ?_; repeat (first | exact hW.out | refine bD ?_ | refine bA ?_ | refine bt ?_ hb1 | refine bS ?_ (by first | assumption | omega)))) ((go_at_call 55; refine (HFq.out _ (by repeat (first | exact hW.out | refine bD ?_ | refine bA ?_))).mono ?_; rintro e w1 ⟨rfl, hb1⟩; obtain ⟨hc', hf'⟩ := bcell hb1; have hz1 := hb1.size))
            all_goals
              rename_i hHeld
              have HBe := Lib.hid hHeld.1
              clear hHeld
              go_wp2
              go_ret
              exact ⟨rfl, HBe.out⟩
          | none =>
            rw [hfq] at hfd
            have HFq := Lib.hid hfd
            unfold FindPost foundV at HFq
            have HFn := Lib.hid hfq
            clear hfd hfq HBd
            go_wp2
            go_upto_region 7 with fail
            go_cut [6] from 22 to 40 (fun s6 wx => s6 = .bool false ∧ Hid (Below w.heap.size w wx))
            case first =>
              go_region_held3 (fun W' => Below w.heap.size w W' ∧ W'.cell? ⟨g, off + k, none⟩ = some (.slice (some ⟨ba, off2, none⟩) N dc) ∧ W'.cell? ⟨ba, off2 + m * 2, none⟩ = some (.string x.name)) ((refine HS.out _ ?_; repeat (first | exact hW.out | refine bD ?_ | refine bA ?_ | refine bt ?_ hb1 | refine bS ?_ (by first | assumption | omega)))) ((go_at_call 55; refine (HFq.out _ (by repeat (first | exact hW.out | refine bD ?_ | refine bA ?_))).mono ?_; rintro e w1 ⟨rfl, hb1⟩; obtain ⟨hc', hf'⟩ := bcell hb1; have hz1 := hb1.size))
              all_goals
                rename_i hHeld
                have HBe := Lib.hid hHeld.1
                clear hHeld
                go_wp2
                go_meet
                exact ⟨rfl, HBe.out⟩
            case rest =>
            obtain ⟨rfl, hWx⟩ := hcut
            obtain ⟨_, d1, d2⟩ := HS.out _ hWx.out
            have hV := fun W => RValid_any x.name W hxs
            cases hvq : validS (L x.name) with
            | true =>
              rw [hvq] at hV
              have HV := Lib.hid hV
              have HGs2 := Lib.hid (HGs.out HFn.out hvq)
              clear hV hvq HGs HBv
              go_wp2_with (go_at_call 58; refine (HV.out _).mono ?_; rintro e w5 ⟨rfl, rfl⟩)
              go_roundg (gk - 1)
              case measure => omega
              case rel => exact ⟨m + 1, by go_num, by omega, by omega, HGs2.out, hWx.out⟩
            | false =>
              rw [hvq] at hV
              have HV := Lib.hid hV
              have hce := HBv.out hvq
              subst hce
              clear hV hvq HGs HBv
              go_wp2_with (go_at_call 58; refine (HV.out _).mono ?_; rintro e w5 ⟨rfl, rfl⟩)
              go_ret
              exact ⟨rfl, hWx.out⟩
        · obtain rfl : m = N := by omega
          have HGd := Lib.hid (good_all hGm.out (by rw [HNN.out]; exact Nat.le_refl _))
          go_wp2
          go_roundg (gko - 1)
          case measure => omega
          case rel =>
            refine ⟨k + 1, by go_num, by omega, by omega, fun j d hj hd => ?_, hW.out⟩
            rcases (by omega : j = k ∨ j < k) with e | e
            · subst e
              have := HDk.out d hd
              subst this
              exact HGd.out
            · exact hG.out j d e hd
    · obtain rfl : k = M := by omega
      have hce := HGood.out hG.out
      have HNs := Lib.hid (HNm.out wr hW.out)
      unfold TextsPost at HNs
      have hnl := Nat.le_trans (len_namesS (allN (lsOf ds))) (Nat.le_trans (allN_len ds) HBk.out)
      generalize namesS (allN (lsOf ds)) = ns at *
      generalize ns.length = nl at *
      by_cases h64 : 64 < nl
      · rw [if_pos h64] at hce
        subst hce
        have h64I : (64 : Int) < (nl : Int) := by omega
        go_wp2_with (go_at_call 54; refine HNs.out.mono ?_; rintro e w5 ⟨A5, c5, rfl, hc5, hr5, hb5⟩; have HB5 := Lib.hid (bt hW.out hb5); clear hc5 hr5 hb5)
        go_ret
        exact ⟨rfl, HB5.out⟩
      · rw [if_neg h64] at hce
        subst hce
        have h64I : ¬ (64 : Int) < (nl : Int) := by omega
        go_wp2_with (go_at_call 54; refine HNs.out.mono ?_; rintro e w5 ⟨A5, c5, rfl, hc5, hr5, hb5⟩; have HB5 := Lib.hid (bt hW.out hb5); clear hc5 hr5 hb5)
        go_ret
        exact ⟨rfl, HB5.out⟩
end Go.Proofs.YthcgkeiggnfgiaaGreatDoor
namespace Go.Proofs.YthcgkeiggnfgiaaGreatDoor
open Go.RowKit
theorem fileInfo : (Tryz.prog.info? 34).map (fun i => (i.zero, i.size, i.bytes)) = some (some (.agg #[.string ⟨#[]⟩, .string ⟨#[]⟩]), 2, 32) := by kernel_rfl
theorem encAt_one (x : At) : ∀ u ∈ encAt x, u.oneCell' = true := by simp [encAt, Value.oneCell']
/-- A list of files and an error, as a call hands them back. -/
def FilesPost (r : List At × Int) (w : World) (e : Ending) (w' : World) : Prop := ∃ A c, e = .returned (.tuple #[.slice A r.1.length c, .int .i64 r.2]) ∧ r.1.length ≤ c ∧ RowAt w' w'.heap.size A 2 r.1.length (cellsOf encAt r.1) ∧ Below w.heap.size w w'
theorem pick_step {ds : List (List At)} {n : Str} {k : Nat} {d : List At} (hno : ∀ (j : Nat) (y : List At), j < k → ds[j]? = some y → findF y n = none) (hd : ds[k]? = some d) {x : At} (hx : findF d n = some x) : pickF ds n = some x := by
  induction ds generalizing k with
  | nil => simp at hd
  | cons y ds ih =>
    cases k with
    | zero =>
      simp at hd
      subst hd
      simp [pickF, hx]
    | succ k =>
      have h0 := hno 0 y (by omega) (by simp)
      have := ih (k := k) (fun j z hj hz => hno (j + 1) z (by omega) (by simpa using hz)) (by simpa using hd)
      simp only [pickF, List.findSome?_cons, h0] at this ⊢
      exact this
theorem pick_none {ds : List (List At)} {n : Str} (hno : ∀ (j : Nat) (y : List At), ds[j]? = some y → findF y n = none) : pickF ds n = none := by
  unfold pickF
  rw [List.findSome?_eq_none_iff]
  intro d hd
  obtain ⟨j, hj⟩ := List.getElem?_of_mem hd
  exact hno j d hj
theorem keep_yes {ds : List (List At)} {n : Str} {x : At} (h : pickF ds n = some x) (hx : (L x.val).isEmpty = false) : keepF ds n = some x := keepF_some.2 ⟨h, hx⟩
theorem keep_no {ds : List (List At)} {n : Str} {x : At} (h : pickF ds n = some x) (hx : (L x.val).isEmpty = true) : keepF ds n = none := by
  unfold keepF; rw [h, Option.filter_some, hx]; rfl
theorem keep_none {ds : List (List At)} {n : Str} (h : pickF ds n = none) : keepF ds n = none := by
  unfold keepF; rw [h]; rfl
theorem own_below2 {w w' : World} {base kk n : Nat} {e : TypeId} {v : Value} {xs : List Value} (h : w.ownsRow base e kk v n xs) (hb : Below w.heap.size w w') : w'.ownsRow base e kk v n xs :=
  h.kept (grown_below hb none) (by cases hv : v.ownBlock <;> simp)
/-- The files so far. -/
def OutIn (w : World) (l : List At) (v : Value) (wr : World) : Prop := wr.ownsRow w.heap.size 34 2 v l.length (cellsOf encAt l) ∧ Below w.heap.size w wr
theorem OutIn.go {w wr w' : World} {l : List At} {v : Value} (h : OutIn w l v wr) (hb : Below wr.heap.size wr w') : OutIn w l v w' := ⟨own_below2 h.1 hb, bt h.2 hb⟩
theorem OutIn.start {w wr : World} (h : Below w.heap.size w wr) : OutIn w [] (.slice none 0 0) wr := ⟨World.ownsRow_nil _ _ _ _, h⟩
theorem OutIn.snoc {w wr w9 : World} {l : List At} {v : Value} {y : At} {o : Obj} {A : Option Addr} {c : Nat} (h : OutIn w l v wr) (hown : w9.ownsRow w.heap.size 34 2 (.slice A (l.length + 1) c) (l.length + 1) (cellsOf encAt l ++ encAt y)) (hg : (wr.alloc o).grownBy w9 v.ownBlock) : OutIn w (l ++ [y]) (.slice A (l.length + 1) c) w9 :=
  ⟨own_snoc hown, (bt h.2 (below_alloc _ _)).grown hg (by have := h.2.size; simp; omega) (fun j e => (h.1.lt j e).1)⟩
theorem filterMap_snoc {ns : List Str} {k : Nat} (hk : k < ns.length) (f : Str → Option At) : (ns.take (k + 1)).filterMap f = (ns.take k).filterMap f ++ (f ns[k]).toList := by
  rw [List.take_succ_eq_append_getElem hk, List.filterMap_append]
  cases h : f ns[k] <;> simp [h]
set_option maxRecDepth 100000 in
set_option maxHeartbeats 8000000 in
theorem RMergeD_any (A : Option Addr) (c : Nat) (ds : List (Ls At)) (w : World) (h : DirsAt w A ds) (hb : bulk ds ≤ 100000) (hsz : ∀ d ∈ ds, ∀ x ∈ d.l, x.name.size ≤ 9223372036854775807) :
    Calls Tryz.prog 20 #[.slice A ds.length c] w (FilesPost (mergeF (lsOf ds)) w) := by
  have H := Lib.hid h
  have HBk := Lib.hid hb
  have HCk := Lib.hid (RCheckD_any A c ds w h hb hsz)
  have HNm := Lib.hid (fun W (hW : Below w.heap.size w W) => RNames_any A c ds W (h.keep hW) hb)
  have hM : ds.length ≤ 100000 := Nat.le_trans (bulk_len ds) hb
  unfold ErrPost at HCk
  by_cases hce : checkF (lsOf ds) = 0
  · have HMf : Hid (mergeF (lsOf ds) = (mergeL (lsOf ds), 0)) := Lib.hid (by rw [mergeF, if_pos hce])
    rw [hce] at HCk
    obtain ⟨i0, hi0, hz0, hz1, hz2⟩ := info_parts fileInfo
    have Hi0 := Lib.hid hi0
    have Hz0 := Lib.hid hz0
    have Hz1 := Lib.hid hz1
    have Hz2 := Lib.hid hz2
    have hnl := Nat.le_trans (len_namesS (allN (lsOf ds))) (Nat.le_trans (allN_len ds) hb)
    have HMl : Hid (mergeL (lsOf ds) = (namesS (allN (lsOf ds))).filterMap (keepF (lsOf ds))) := Lib.hid rfl
    have HFd : Hid (∀ (i : Nat) (d : Ls At), ds[i]? = some d → ∀ n, ∀ W, Below w.heap.size w W → Calls Tryz.prog 55 #[.slice d.A d.l.length d.c, .string n] W (FindPost (findF d.l (L n)) W)) := Lib.hid fun i d hd n W hW => by
      obtain ⟨hi, rfl⟩ := List.getElem?_eq_some_iff.1 hd
      have h1 := h.inner ds[i] (List.getElem_mem hi)
      have h2 := bulk_mem (List.getElem_mem hi)
      exact RFind_any _ _ _ n W ((h1.keep hW).up hW.size) (by omega)
    clear hce h hb hsz hi0 hz0 hz1 hz2
    generalize hMM : ds.length = M at *
    have HM := Lib.hid hMM
    clear hMM
    go_enter Tryz.func20, Tryz.ntmps20
    go_wp2_with (go_at_call 23; refine HCk.out.mono ?_; rintro e w1 ⟨rfl, hb1⟩; have HB1 := Lib.hid hb1; clear hb1)
    have HNs := Lib.hid (HNm.out _ HB1.out)
    unfold TextsPost at HNs
    generalize hns : namesS (allN (lsOf ds)) = ns at *
    generalize hnn : ns.length = N at *
    have HN := Lib.hid hnn
    clear hns hnn HCk HNm
    go_wp2_with (go_at_call 54; refine HNs.out.mono ?_; rintro e w2 ⟨A2, c2, rfl, hc2, hr2, hb2⟩; have HR2 := Lib.hid hr2; have HB2 := Lib.hid (bt HB1.out hb2); clear hc2 hr2 hb2)
    clear HNs
    have H2 := Lib.hid (H.out.keep HB2.out)
    have HF2 : Hid (∀ (i : Nat) (d : Ls At), ds[i]? = some d → ∀ n, ∀ W, Below w2.heap.size w2 W → Calls Tryz.prog 55 #[.slice d.A d.l.length d.c, .string n] W (FindPost (findF d.l (L n)) W)) := Lib.hid fun i d hd n W hW => HFd.out i d hd n W (bt HB2.out hW)
    clear H HFd HB1
    go_loopg [5, 7] (N + 1) (fun gk s5 s7 wr => ∃ (k : Nat) (v : Value), v = s5 ∧ s7 = .int .i64 k ∧ k + gk = N + 1 ∧ k ≤ N ∧ Hid (OutIn w2 ((ns.take k).filterMap (keepF (lsOf ds))) v wr))
    case atStart => exact ⟨0, _, rfl, rfl, by omega, Nat.zero_le _, OutIn.start (Below.refl _ _)⟩
    case round =>
      obtain ⟨k, v, rfl, rfl, hkg, hkN, hO⟩ := hrel
      by_cases hlt : k < N
      · have hltI : (k : Int) < (N : Int) := by omega
        have hk' : k < ns.length := by rw [HN.out]; exact hlt
        have hrow2 := HR2.out
        rw [← HN.out] at hrow2
        obtain ⟨nb, noff, hA2, hnb, hnx⟩ := hrow2.text hk'
        have HFm : Hid ((ns.take (k + 1)).filterMap (keepF (lsOf ds)) = (ns.take k).filterMap (keepF (lsOf ds)) ++ (keepF (lsOf ds) ns[k]).toList) := Lib.hid (filterMap_snoc hk' _)
        generalize ns[k] = n at *
        subst hA2
        have HNx := Lib.hid hnx
        clear hnx hrow2 hk'
        have hol : ((ns.take k).filterMap (keepF (lsOf ds))).length ≤ 100000 := by
          have h1 := List.length_filterMap_le (keepF (lsOf ds)) (ns.take k)
          rw [List.length_take] at h1
          omega
        generalize hoo : (ns.take k).filterMap (keepF (lsOf ds)) = ol at *
        clear hoo
        go_wp2
        obtain ⟨gko, rfl⟩ : ∃ gko : Nat, gko = gk := ⟨_, rfl⟩
        obtain ⟨wo, rfl⟩ : ∃ wo : World, wo = wr := ⟨_, rfl⟩
        go_loopg [5, 8] (M + 1) (fun gk s5 s8 wr => ∃ (m : Nat), v = s5 ∧ s8 = .int .i64 m ∧ m + gk = M + 1 ∧ m ≤ M ∧ Hid (∀ (j : Nat) (y : List At), j < m → (lsOf ds)[j]? = some y → findF y n = none) ∧ Hid (OutIn w2 ol v wr))
        case atStart => exact ⟨0, rfl, rfl, by omega, Nat.zero_le _, fun j y hj => absurd hj (by omega), hO.out⟩
        case round =>
          obtain ⟨m, rfl, rfl, hmg, hmM, hno, hO⟩ := hrel
          by_cases hltm : m < M
          · have hltmI : (m : Int) < (M : Int) := by omega
            have hm' : m < ds.length := by rw [HM.out]; exact hltm
            obtain ⟨d, hd⟩ : ∃ d, ds[m]? = some d := ⟨_, List.getElem?_eq_getElem hm'⟩
            obtain ⟨g, off, hA, hg, hcell, hdr⟩ := H2.out.dir hm'
            have hde : ds[m] = d := by rw [List.getElem?_eq_getElem hm'] at hd; exact Option.some.inj hd
            rw [hde] at hcell
            have hls : (lsOf ds)[m]? = some d.l := by rw [lsOf, List.getElem?_map, hd]; rfl
            have HPk : Hid (∀ x, findF d.l n = some x → pickF (lsOf ds) n = some x) := Lib.hid fun x hx => pick_step hno.out hls hx
            have HLs := Lib.hid hls
            have hfd := fun W (hb : Below wr.heap.size wr W) => HF2.out m d hd (bs n) W (bt hO.out.2 hb)
            rw [L_bs] at hfd
            have HS : Hid (∀ W', Below wr.heap.size wr W' → Below wr.heap.size wr W' ∧ W'.cell? ⟨g, off + m, none⟩ = some (.slice d.A d.l.length d.c) ∧ W'.cell? ⟨nb, noff + k, none⟩ = some (.string (bs n))) := Lib.hid fun W' hb => ⟨hb, hcell W' (bt hO.out.2 hb), HNx.out W' (bt hO.out.2 hb)⟩
            obtain ⟨_, c0, c1⟩ := HS.out wr (Below.refl _ _)
            obtain ⟨dA, dc, dl⟩ := d
            dsimp only at *
            subst hA
            clear hdr hm' hde hcell hls hd
            cases hfq : findF dl n with
            | none =>
              rw [hfq] at hfd
              have HFq := Lib.hid hfd
              unfold FindPost foundV at HFq
              have HFn := Lib.hid hfq
              clear hfd hfq HPk
              go_wp2
              go_upto_region 12 with fail
              go_cut [10] from 30 to 42 (fun s10 wx => s10 = .bool false ∧ Hid (Below wr.heap.size wr wx))
              case first =>
                go_region_held3 (fun W' => Below wr.heap.size wr W' ∧ W'.cell? ⟨g, off + m, none⟩ = some (.slice dA dl.length dc) ∧ W'.cell? ⟨nb, noff + k, none⟩ = some (.string (bs n))) ((refine HS.out _ ?_; repeat (first | exact Below.refl _ _ | refine bD ?_ | refine bA ?_ | refine bt ?_ hb1 | refine bS ?_ (by first | assumption | omega)))) ((go_at_call 55; refine (HFq.out _ (by repeat (first | exact Below.refl _ _ | refine bD ?_ | refine bA ?_))).mono ?_; rintro e w1 ⟨rfl, hb1⟩; obtain ⟨hc', hf'⟩ := bcell hb1; have hz1 := hb1.size))
                all_goals
                  rename_i hHeld
                  have HBe := Lib.hid hHeld.1
                  clear hHeld
                  go_wp2
                  go_meet
                  exact ⟨rfl, HBe.out⟩
              case rest =>
              obtain ⟨rfl, hWx⟩ := hcut
              go_wp2
              go_roundg (gk - 1)
              case measure => omega
              case rel =>
                refine ⟨m + 1, rfl, by go_num, by omega, by omega, fun j y hj hy => ?_, hO.out.go hWx.out⟩
                rcases (by omega : j = m ∨ j < m) with e | e
                · subst e
                  rw [HLs.out] at hy
                  obtain rfl := Option.some.inj hy
                  exact HFn.out
                · exact hno.out j y e hy
            | some y =>
              have hpk := HPk.out y hfq
              rw [hfq] at hfd
              have HFq := Lib.hid hfd
              have HP := Lib.hid hpk
              unfold FindPost foundV at HFq
              clear hfd hfq HPk hpk
              go_wp2
              go_upto_region 12 with fail
              go_cut [9, 10] from 30 to 42 (fun s9 s10 wx => ∃ pb : Nat, s9 = .pointer (some ⟨pb, 0, none⟩) ∧ s10 = .bool true ∧ wx.cell? ⟨pb, 0, none⟩ = some (.string y.name) ∧ wx.cell? ⟨pb, 1, none⟩ = some (.string y.val) ∧ Hid (Below wr.heap.size wr wx))
              case first =>
                go_region_held3 (fun W' => Below wr.heap.size wr W' ∧ W'.cell? ⟨g, off + m, none⟩ = some (.slice dA dl.length dc) ∧ W'.cell? ⟨nb, noff + k, none⟩ = some (.string (bs n))) ((refine HS.out _ ?_; repeat (first | exact Below.refl _ _ | refine bD ?_ | refine bA ?_ | refine bt ?_ hb1 | refine bS ?_ (by first | assumption | omega)))) ((go_at_call 55; refine (HFq.out _ (by repeat (first | exact Below.refl _ _ | refine bD ?_ | refine bA ?_))).mono ?_; rintro e w1 ⟨rfl, hb1⟩; obtain ⟨hc', hf'⟩ := bcell hb1; have hz1 := hb1.size))
                all_goals
                  rename_i hHeld
                  have HBe := Lib.hid hHeld.1
                  clear hHeld
                  go_wp2
                  go_meet
                  exact ⟨_, rfl, rfl, by go_simp, by go_simp, HBe.out⟩
              case rest =>
              obtain ⟨pb, rfl, rfl, p0, p1, hWx⟩ := hcut
              have HO2 := Lib.hid (hO.out.go hWx.out)
              cases hve : (L y.val).isEmpty with
              | true =>
                have HKp := Lib.hid (keep_no HP.out hve)
                have hv1 : y.val.toList.isEmpty = true := by rw [tl]; exact hve
                have hv2 : y.val.toList = [] := by rw [tl]; simpa using hve
                clear hve
                go_wp2
                go_roundg (gko - 1)
                case measure => omega
                case rel => exact ⟨k + 1, _, rfl, by go_num, by omega, by omega, by rw [HFm.out, HKp.out]; simp only [Option.toList_none, List.append_nil]; exact HO2.out⟩
              | false =>
                have HKp := Lib.hid (keep_yes HP.out hve)
                have hv1 : y.val.toList.isEmpty = false := by rw [tl]; exact hve
                have hv2 : ¬ y.val.toList = [] := by rw [tl]; simpa using hve
                clear hve
                have hw9 := HO2.out.2.size
                go_wp2_with (refine wpList_append_lies _ rfl _ _ _ (by rfl) w2.heap.size 34 i0 _ 2 32 Tryz.underlying31 Hi0.out Hz0.out Hz1.out Hz2.out rfl (by omega) v ol.length (cellsOf encAt ol) (by rfl) (HO2.out.1.alloc _) _ 1 1 (encAt y) (by rfl) (by rfl) (by exact World.news_of_block (heap_alloc_new _ _)) (encAt_one _) (by omega) (by unfold maxLen; omega) (by omega) (by simp; omega) _ rfl ?_; intro g2 cap w9 hown2 hgrow2 hat2 hlt2)
                have HO3 := Lib.hid (HO2.out.snoc hown2 hgrow2)
                clear hown2 hgrow2 hat2 hlt2
                go_wp2
                go_roundg (gko - 1)
                case measure => omega
                case rel => exact ⟨k + 1, _, rfl, by go_num, by omega, by omega, by rw [HFm.out, HKp.out]; exact HO3.out⟩
          · obtain rfl : m = M := by omega
            have HKp : Hid (keepF (lsOf ds) n = none) := Lib.hid (keep_none (pick_none fun j y hy => hno.out j y (by have := (List.getElem?_eq_some_iff.1 hy).1; simp only [lsOf, List.length_map] at this; rw [HM.out] at this; exact this) hy))
            go_wp2
            go_roundg (gko - 1)
            case measure => omega
            case rel => exact ⟨k + 1, _, rfl, by go_num, by omega, by omega, by rw [HFm.out, HKp.out]; simp only [Option.toList_none, List.append_nil]; exact hO.out⟩
      · obtain rfl : k = N := by omega
        go_wp2
        go_ret2
        unfold FilesPost
        rw [HMf.out, HMl.out]
        rw [List.take_of_length_le (by rw [HN.out]; exact Nat.le_refl _)] at hO
        obtain ⟨A3, c3, rfl, hc3⟩ := own_slice2 hO.out.1
        exact ⟨A3, c3, rfl, hc3, RowAt.of_own hO.out.1, bt HB2.out hO.out.2⟩
  · have HMf : Hid (mergeF (lsOf ds) = ([], checkF (lsOf ds))) := Lib.hid (by rw [mergeF, if_neg hce])
    generalize checkF (lsOf ds) = ce at *
    have hne : (ce == 0) = false := by simp [hce]
    have hnn : (ce != 0) = true := by simp [hce]
    generalize ds.length = N at *
    clear hce H HBk HNm h hb hsz
    go_enter Tryz.func20, Tryz.ntmps20
    go_wp2_with (go_at_call 23; refine HCk.out.mono ?_; rintro e w1 ⟨rfl, hb1⟩)
    go_ret2
    unfold FilesPost
    rw [HMf.out]
    exact ⟨none, 0, rfl, Nat.le_refl _, ⟨rfl, fun h => absurd h (Nat.lt_irrefl 0)⟩, hb1⟩
end Go.Proofs.YthcgkeiggnfgiaaGreatDoor
