/-
  What the library's variables hold, as far as it is read: they lie below block nG, and nothing there is turned.
  Contracts: strconv.Atoi and strconv.Itoa as they are used here; the reader's word.
  Contracts of the program's numbered, Node and of the builtins' set.
  Contracts of the builtins' Key and of the editor's env.
  Contracts of the program's parts, all (at a link's components) and Link.
  Contracts of the program's Link and Clean.
  Contract of the reader's add.
-/
import Derived.Test.YtobcmlmbblgcdaaGreatDoorRead
import Derived.Test.YtobcmlmbblgcdaaGreatDoorG00
import Derived.WalkSmall
import Derived.Lib.SmallJoins
import Derived.Lib.Bytes2
import Derived.RangeFuncBox
import Derived.Maps.AppendAt
import Derived.Lib.AppendIntMem
import Derived.Test.YtobcmlmbblgcdaaGreatDoorG11
import Derived.Test.YtobcmlmbblgcdaaGreatDoorG13
import Derived.Test.YtobcmlmbblgcdaaGreatDoorBuiltP
import Derived.Deep.RegionHeld3
import Derived.Test.YtobcmlmbblgcdaaGreatDoorG16
import Derived.Test.YtobcmlmbblgcdaaGreatDoorG05
import Derived.Test.YtobcmlmbblgcdaaGreatDoorShelf
import Derived.Lib.ConvBytes
import Derived.Lib.SlBytesRow
namespace Go.Proofs.YtobcmlmbblgcdaaGreatDoor
set_option maxRecDepth 100000
section
open Go.RowKit
def nG:Nat:=max 0 (max 6 (max 7 1))+1
theorem g_syn : Tryz.prog.globalNamed "strconv.ErrSyntax" = some 6 := by kernel_rfl
theorem g_rng : Tryz.prog.globalNamed "strconv.ErrRange" = some 7 := by kernel_rfl
theorem g_pow : Tryz.prog.globalNamed "internal/strconv.uint64pow10" = some 1 := by kernel_rfl
structure Env0 (w:World):Prop where
 size:nG≤w.heap.size
 maxLen:∃ m,w.cell? ⟨0,0,none⟩=some (.int .i64 m)
 pow : Lib.TabIs Tryz.prog w "internal/strconv.uint64pow10" .u64 Lib.pow10Tab
structure Env (w:World):Prop extends Env0 w where
 syn : ∃ tp p, w.var? Tryz.prog "strconv.ErrSyntax" = some #[.iface tp p]
 rng : ∃ tp p, w.var? Tryz.prog "strconv.ErrRange" = some #[.iface tp p]
instance {w:World}:Coe (Env w) (Env0 w):=⟨Env.toEnv0⟩
theorem Env0.keep {w w':World} {B:Nat} (h:Env0 w) (hb:Below B w w') (hB:nG≤B):Env0 w':=by
 refine ⟨Nat.le_trans h.size hb.size,?_,?_⟩
 · obtain ⟨m,hm⟩:=h.maxLen
   exact ⟨m,(hb.cell (p:=⟨0,0,none⟩) (Nat.lt_of_lt_of_le (by decide) hB)).trans hm⟩
 · exact var?_below hb g_pow (Nat.lt_of_lt_of_le (by decide) hB) h.pow
theorem Env0.go {w w':World} (h:Env0 w) (hb:Below w.heap.size w w'):Env0 w':=h.keep hb h.size
theorem Env.keep {w w':World} {B:Nat} (h:Env w) (hb:Below B w w') (hB:nG≤B):Env w':=by
 refine ⟨h.toEnv0.keep hb hB,?_,?_⟩
 · obtain ⟨tp,p,hv⟩:=h.syn
   exact ⟨tp,p,var?_below hb g_syn (Nat.lt_of_lt_of_le (by decide) hB) hv⟩
 · obtain ⟨tp,p,hv⟩:=h.rng
   exact ⟨tp,p,var?_below hb g_rng (Nat.lt_of_lt_of_le (by decide) hB) hv⟩
theorem Env.go {w w':World} (h:Env w) (hb:Below w.heap.size w w'):Env w':=h.keep hb h.size
theorem Cut_any (s sep:ByteArray) (w:World) (h:Env0 w) (hs:s.size<4294967281) :
 Calls Tryz.prog 159 #[.string s,.string sep] w fun e w'=>e=.returned (.tuple #[.string (bs (Lib.cut (L s) (L sep)).1),.string (bs (Lib.cut (L s) (L sep)).2.1),.bool (Lib.cut (L s) (L sep)).2.2])∧∃ n,w.drewN n=w':=by
 obtain ⟨m,hm⟩:=h.maxLen
 exact (Tryz.strings_Cut s sep m w hs hm).mono fun e w' ⟨h1,n,h2⟩=>⟨h1,n,h2.symm⟩
theorem prefix_one (r:Str) (c:UInt8):Lib.hasPrefix r [c]=(r.head? == some c):=by
 cases r with
 | nil=>rfl
 | cons b t => 
   show ([c].isPrefixOf (b :: t))=_
   simp only [List.isPrefixOf,Bool.and_true,List.head?_cons]
   rw [Bool.eq_iff_iff]
   simp
   exact eq_comm
theorem bracesS_no {r:Str} (h:Lib.hasPrefix r [123]=false):bracesS r=none:=by
 rw [prefix_one] at h
 cases r with
 | nil=>rfl
 | cons b t =>
   have hb:b≠123:=by simpa using h
   rw [bracesS]
   simp only [hb,if_false]
theorem bracesS_yes {r:Str} (h:Lib.hasPrefix r [123]=true):bracesS r=if (Lib.cut (r.drop 1) [125]).2.2 then some ((Lib.cut (r.drop 1) [125]).1,(Lib.cut (r.drop 1) [125]).2.1) else none:=by
 rw [prefix_one] at h
 cases r with
 | nil=>simp at h
 | cons b t =>
   have hb:b=123:=by simpa using h
   rw [bracesS]
   simp only [hb,if_true,List.drop_succ_cons,List.drop_zero]
theorem cut_len (s sep:Str):(Lib.cut s sep).1.length≤s.length∧(Lib.cut s sep).2.1.length≤s.length:=by
 unfold Lib.cut
 split
 · exact ⟨by rw [List.length_take];omega,by rw [List.length_drop];omega⟩
 · exact ⟨Nat.le_refl _,Nat.zero_le _⟩
theorem Rd.c1 {w:World} {g:Nat} {r:ByteArray} {ps:List Pc} (h:Rd w g r ps):∃ v,w.cell? ⟨g,1,none⟩=some v∧∀ k,v.ownBlock=some k→k<w.heap.size:=by
 obtain ⟨v,hh,ho⟩:=h.ex
 exact ⟨v,by rw [cell_of_row _ _ 1 _ _ _ hh];rfl,fun k hk=>(ho.lt k hk).2⟩
theorem Rd.other {w:World} {g:Nat} {r:ByteArray} {ps:List Pc} (h:Rd w g r ps) {v:Value} (hv:w.cell? ⟨g,1,none⟩=some v) {B:Nat} (hne:v.ownBlock≠some B) (hB:g≠B) (i:Nat) (x:Value):Rd (w.setCell ⟨B,i,none⟩ x) g r ps:=by
 obtain ⟨v',hh,ho⟩:=h.ex
 have:v'=v:=by
  have:=(cell_of_row w g 1 _ _ _ hh).symm.trans hv
  exact Option.some.inj this
 subst this
 have hk:∀ k,some k≠some B→(w.setCell ⟨B,i,none⟩ x).heap[k]? = w.heap[k]?:=fun k hk=>Below.heap_setCell w ⟨B,i,none⟩ x k (fun e=>hk (by rw [e]))
 refine ⟨v',by rw [hk g (by simpa using hB)];exact hh,?_⟩
 exact ho.kept (row:=some B) ⟨rfl,rfl,rfl,(KeepsWalks.setCell w _ x).size,fun k _ h2=>hk k h2⟩ (.inr hne)
def BrPost (g:Nat) (rest:ByteArray) (ps:List Pc) (w:World) (e:Ending) (w':World):Prop :=
 ∃ t rest',e=.returned (.tuple #[.string t,.bool (bracesS (L rest)).isSome])∧(∀ a b,bracesS (L rest)=some (a,b)→t=bs a∧rest'=bs b)∧t.size≤rest.size∧rest'.size≤rest.size∧Rd w' g rest' ps∧Below g w w'∧w.grownBy w' (some g)∧w'.cell? ⟨g,1,none⟩=w.cell? ⟨g,1,none⟩
set_option maxHeartbeats 1000000 in
theorem braces_any (g:Nat) (rest:ByteArray) (ps:List Pc) (w:World) (h:Rd w g rest ps) (hE:Env w) (hr:rest.size≤1000) :
 Calls Tryz.prog 238 #[.pointer (some ⟨g,0,none⟩)] w (BrPost g rest ps w):=by
 have HP:=HasPrefix_any rest ⟨#[123]⟩ w
 obtain ⟨v,hh,ho⟩:=h.ex
 have c0:w.cell? ⟨g,0,none⟩=some (.string rest):=by rw [cell_of_row _ _ 0 _ _ _ hh];rfl
 have f0:w.frozen? ⟨g,0,none⟩=false:=frozen_of_row _ _ _ _ _ hh
 have HH:=Lib.hid h
 have hlt:=h.lt
 clear hh ho h
 change Calls _ _ _ _ (fun e w'=>e=.returned (.bool (Lib.hasPrefix (L rest) [123]))∧w=w') at HP
 cases hp:Lib.hasPrefix (L rest) [123]
 · rw [hp] at HP
   have Hp:=Lib.hid (bracesS_no hp)
   clear hp
   go_enter Tryz.func238,Tryz.ntmps238
   go_wp2_with (go_at_call 102;refine HP.mono ?_;rintro e w' ⟨rfl,rfl⟩)
   go_ret2
   exact ⟨⟨#[]⟩,rest,by rw [Hp.out];rfl,(fun a b e=>by rw [Hp.out] at e;cases e),Nat.zero_le _,Nat.le_refl _,HH.out,Below.refl _ _,grown_refl _ _,rfl⟩
 · rw [hp] at HP
   have Hp:=Lib.hid (bracesS_yes hp)
   have h1:(1:Int)≤(rest.size:Int):=by
    have:=Lib.hasPrefix_le hp
    rw [len_L] at this
    simp at this
    omega
   have hd:L (rest.extract 1 rest.size)=(L rest).drop 1:=by rw [L_extract,List.take_of_length_le (by rw [len_L];exact Nat.le_refl _)]
   have HC:=Cut_any (rest.extract 1 rest.size) ⟨#[125]⟩ w hE (by rw [size_extract];omega)
   change Calls _ _ _ _ (fun e w'=>e=.returned (.tuple #[.string (bs (Lib.cut (L (rest.extract 1 rest.size)) [125]).1),.string (bs (Lib.cut (L (rest.extract 1 rest.size)) [125]).2.1),.bool (Lib.cut (L (rest.extract 1 rest.size)) [125]).2.2])∧∃ n,w.drewN n=w') at HC
   rw [hd] at HC
   have hz:=cut_len ((L rest).drop 1) [125]
   rw [List.length_drop,len_L] at hz
   obtain ⟨z1,z2⟩:=hz
   generalize Lib.cut ((L rest).drop 1) [125]=cc at *
   obtain ⟨c1,c2,c3⟩:=cc
   have Hz:=Lib.hid z1
   have Hz2:=Lib.hid z2
   clear hp hd z1 z2
   go_enter Tryz.func238,Tryz.ntmps238
   go_wp2_with (first | (go_at_call 102;refine HP.mono ?_;rintro e w' ⟨rfl,rfl⟩) | (go_at_call 159;refine HC.mono ?_;rintro e w' ⟨rfl,n,rfl⟩))
   go_ret2
   have e1:(bs c1).size≤rest.size:=by rw [size_bs];have:=Hz.out;omega
   have e2:(bs c2).size≤rest.size:=by rw [size_bs];have:=Hz2.out;omega
   refine ⟨bs c1,bs c2,?_,fun a b e=>?_,e1,e2,?_,?_,?_,?_⟩
   · rw [Hp.out];cases c3 <;> rfl
   · rw [Hp.out] at e
     cases c3
     · cases e
     · simp at e
       exact ⟨by rw [e.1],by rw [e.2]⟩
   · exact (HH.out.keep (below_drewN (Below.refl _ _) n)).cut _
   · exact (below_drewN (Below.refl _ _) n).setCell (p:=⟨g,0,none⟩) (Nat.le_refl _) _
   · exact (grown_drewN w n (some g)).trans (grownBy_setCell' _ g _)
   · exact (World.cell?_setCell_other _ _ _ _ (by simp)).trans rfl
end
section
open Go.RowKit
theorem dec_lt10 (n:Nat) (h:n<10):Lib.decDigits n=[UInt8.ofNat (48+n)]:=by rw [Lib.decDigits,dif_pos h]
theorem dec_lt100 (n:Nat) (h1:10≤n) (h:n<100):Lib.decDigits n=[UInt8.ofNat (48+n / 10),UInt8.ofNat (48+n % 10)]:=by
 rw [Lib.decDigits,dif_neg (by omega),dec_lt10 _ (by omega)];rfl
theorem atoi1:∀ n:Fin 10,Lib.atoiAll [UInt8.ofNat (48+n.val)]=.ok (n.val:Int):=by decide
theorem atoi2:∀ n:Fin 100,Lib.atoiAll [UInt8.ofNat (48+n.val / 10),UInt8.ofNat (48+n.val % 10)]=.ok (n.val:Int):=by decide
theorem atoi_dec (n:Nat) (h:n<100):Lib.atoiAll (Lib.decDigits n)=.ok (n:Int):=by
 rcases Nat.lt_or_ge n 10 with h1 | h1
 · rw [dec_lt10 n h1];exact atoi1 ⟨n,h1⟩
 · rw [dec_lt100 n h1 h];exact atoi2 ⟨n,h⟩
theorem itoa_dec (n:Nat):Lib.itoa (n:Int)=Lib.decDigits n:=by rw [Lib.itoa,if_neg (by omega)];rfl
theorem dec_inj {m n:Nat} (hm:m<100) (hn:n<100) (h:Lib.decDigits m=Lib.decDigits n):m=n:=by
 have h1:=atoi_dec m hm
 rw [h,atoi_dec n hn] at h1
 injection h1 with h1
 omega
theorem countS_ok (t:Str) (v:Int) (h:Lib.atoiAll (Lib.trimSuffix t [43])=.ok v) :
 countS t=if (Lib.itoa v == Lib.trimSuffix t [43]) && decide (1≤v) && decide (v≤99) then some (v,Lib.hasSuffix t [43]) else none:=by
 by_cases hc:(Lib.itoa v == Lib.trimSuffix t [43])=true∧1≤v∧v≤99
 · obtain ⟨h1,h2,h3⟩:=hc
   obtain ⟨n,rfl⟩:=Int.eq_ofNat_of_zero_le (show 0≤v by omega)
   rw [itoa_dec] at h1
   have e:=find_first (fun n=>decide (1≤n) && Lib.decDigits n == Lib.trimSuffix t [43]) 100 n (by omega) (by simp only [h1];simp;omega) (fun j hj=>by
    by_cases hj1:Lib.decDigits j == Lib.trimSuffix t [43]
    · have:=dec_inj (m:=j) (n:=n) (by omega) (by omega) (by rw [beq_iff_eq.1 hj1,beq_iff_eq.1 h1])
      omega
    · simp [hj1])
   rw [countS,e]
   rw [itoa_dec,h1]
   simp
   omega
 · have e:(List.range 100).find? (fun n=>decide (1≤n) && Lib.decDigits n == Lib.trimSuffix t [43])=none:=by
    rw [List.find?_eq_none]
    intro n hn hp
    have hn':=List.mem_range.1 hn
    simp only [Bool.and_eq_true,decide_eq_true_eq,beq_iff_eq] at hp
    have h1:=atoi_dec n hn'
    rw [hp.2,h] at h1
    injection h1 with h1
    exact hc ⟨by rw [h1,itoa_dec,hp.2];simp,by omega,by omega⟩
   rw [countS,e]
   rw [if_neg (fun h=>hc (by simp only [Bool.and_eq_true,decide_eq_true_eq] at h;exact ⟨h.1.1,h.1.2,h.2⟩))]
theorem countS_bad (t:Str) (h:∀ v,Lib.atoiAll (Lib.trimSuffix t [43])≠.ok v):countS t=none:=by
 have e:(List.range 100).find? (fun n=>decide (1≤n) && Lib.decDigits n == Lib.trimSuffix t [43])=none:=by
  rw [List.find?_eq_none]
  intro n hn hp
  have hn':=List.mem_range.1 hn
  simp only [Bool.and_eq_true,decide_eq_true_eq,beq_iff_eq] at hp
  have h1:=atoi_dec n hn'
  rw [hp.2] at h1
  exact h _ h1
 rw [countS,e]
theorem Itoa_any (n:Int) (h0 : -9223372036854775808≤n) (h1:n≤9223372036854775807) (w:World) (hE:Env0 w) :
 Calls Tryz.prog 34 #[.int .i64 n] w fun e w'=>e=.returned (.string (bs (Lib.itoa n)))∧Below w.heap.size w w' :=
 (Tryz.strconv_Itoa n h0 h1 w hE.pow).mono fun e w' ⟨he,k,os,hw⟩=>⟨he,by rw [hw];exact Lib.below_grow _ _ (Nat.le_refl _) _ _⟩
theorem Atoi_ok (s:ByteArray) (v:Int) (h:Lib.atoiAll (L s)=.ok v) (hs:s.size≤1000000) (w:World) :
 Calls Tryz.prog 224 #[.string s] w fun e w'=>e=.returned (.tuple #[.int .i64 v,.nilIface])∧Below w.heap.size w w' :=
 (Tryz.strconv_Atoi_ok s (by omega) v h w).mono fun e w' ⟨he,hw⟩=>⟨he,by
   rcases hw with hw | ⟨t,hw⟩
   · rw [hw];exact Below.refl _ _
   · rw [hw];exact Joins.below_bytesWorld _ _ _ _ (Nat.le_refl _)⟩
theorem Atoi_bad (s:ByteArray) (h:∀ v,Lib.atoiAll (L s)≠.ok v) (hs:s.size≤1000000) (w:World) (hE:Env w) :
 Calls Tryz.prog 224 #[.string s] w fun e w'=>∃ v T x,e=.returned (.tuple #[.int .i64 v,.iface T x])∧Below w.heap.size w w':=by
 rcases hA:Lib.atoiAll (L s) with v | _ | _
 · exact absurd hA (h v)
 · obtain ⟨tp,p,hv⟩:=hE.syn
   exact (Any.strconv_Atoi_syntax_var Tryz.laysC172 s (by omega) hA tp p w hv).mono fun e w' ⟨N,he,_,_,hb⟩=>⟨_,_,_,he,hb⟩
 · obtain ⟨tp,p,hv⟩:=hE.rng
   exact (Tryz.strconv_Atoi_range_var s (by omega) hA tp p w hv).mono fun e w' ⟨N,he,_,_,hb⟩=>⟨_,_,_,he,hb⟩
theorem atoi_rng (l:Str) (v:Int) (h:Lib.atoiAll l=.ok v) : -9223372036854775808≤v∧v≤9223372036854775807:=by
 unfold Lib.atoiAll at h
 split at h
 · cases h
 · dsimp only at h
   split at h
   · cases h
   · cases h
   · split at h
     · cases h
     · split at h
       · cases h
       · injection h with h
         subst h
         split <;> omega
def WordPost (t:ByteArray) (w:World) (e:Ending) (w':World):Prop :=
 ∃ n m,e=.returned (.tuple #[.int .i64 n,.bool m,.bool (countS (L t)).isSome])∧(∀ a b,countS (L t)=some (a,b)→n=a∧m=b)∧Below w.heap.size w w'
set_option maxHeartbeats 1000000 in
theorem word_any (t:ByteArray) (w:World) (hE:Env w) (hr:t.size≤1000) :
 Calls Tryz.prog 239 #[.string t] w (WordPost t w):=by
 have HS:Calls Tryz.prog 264 #[.string t,.string ⟨#[43]⟩] w (fun e w'=>e=.returned (.tuple #[.string (bs (Lib.trimSuffix (L t) [43])),.bool (Lib.hasSuffix (L t) [43])])∧w=w') :=
  (Tryz.strings_CutSuffix t ⟨#[43]⟩ w (by omega)).mono fun e w' ⟨h1,h2⟩=>⟨h1,h2.symm⟩
 have hz:(Lib.trimSuffix (L t) [43]).length≤(L t).length:=by
  unfold Lib.trimSuffix
  split
  · rw [List.length_take];omega
  · exact Nat.le_refl _
 rw [len_L] at hz
 have hbad:=countS_bad (L t)
 have hok:=countS_ok (L t)
 generalize Lib.trimSuffix (L t) [43]=tr at *
 generalize Lib.hasSuffix (L t) [43]=more at *
 have hzz:(bs tr).size≤1000000:=by rw [size_bs];omega
 have hLt:=L_bs tr
 by_cases hA:∃ v,Lib.atoiAll tr=.ok v
 · obtain ⟨v,hv⟩:=hA
   have hc:=hok v hv
   obtain ⟨r1,r2⟩:=atoi_rng tr v hv
   have HA:=fun W=>Atoi_ok (bs tr) v (by rw [hLt];exact hv) hzz W
   have HI:=fun W (hW:Env W)=>Itoa_any v r1 r2 W hW
   have eq:((bs (Lib.itoa v)).toList == (bs tr).toList)=(Lib.itoa v == tr):=by rw [tl,tl,L_bs,L_bs]
   cases hq:(Lib.itoa v == tr)
   all_goals
    rw [hq] at eq hc
    generalize bs (Lib.itoa v)=it at *
    generalize bs tr=s at *
    have HE:=Lib.hid hE
    clear hbad hok hE hv hLt hzz hz hq
    by_cases h1:1≤v
    all_goals
     by_cases h99:v≤99
     all_goals
      first
       | (exfalso;omega)
       | (have hc2:=hc
          simp [h1,h99] at hc2
          have Hc:=Lib.hid hc2
          clear hc2 hc
          go_enter Tryz.func239,Tryz.ntmps239
          go_wp2_with (first | (go_at_call 264;refine HS.mono ?_;rintro e w' ⟨rfl,rfl⟩) | (go_at_call 224;refine (HA _).mono ?_;rintro e w1 ⟨rfl,hb1⟩) | (go_at_call 34;refine (HI _ (HE.out.go hb1)).mono ?_;rintro e w2 ⟨rfl,hb2⟩))
          refine bodyPost_ret (by simp [results,Tryz.results239,go_sem];try rfl) rfl ?_
          refine ⟨v,more,?_,?_,?_⟩
          · rw [Hc.out];first | rfl | (simp;omega)
          · intro a b e;rw [Hc.out] at e;first | (cases e;done) | (simp at e;exact e)
          · first | exact hb1 | exact bt hb1 hb2)
 · have HA:=fun W (hW:Env W)=>Atoi_bad (bs tr) (by rw [hLt];exact fun v hv=>hA ⟨v,hv⟩) hzz W hW
   have Hc:=Lib.hid (hbad fun v hv=>hA ⟨v,hv⟩)
   generalize bs tr=s at *
   have HE:=Lib.hid hE
   clear hbad hok hE hLt hzz hz hA
   go_enter Tryz.func239,Tryz.ntmps239
   go_wp2_with (first | (go_at_call 264;refine HS.mono ?_;rintro e w' ⟨rfl,rfl⟩) | (go_at_call 224;refine (HA _ HE.out).mono ?_;rintro e w1 ⟨v,T,x,rfl,hb1⟩))
   refine bodyPost_ret (by simp [results,Tryz.results239,go_sem];try rfl) rfl ?_
   exact ⟨v,more,by rw [Hc.out];rfl,(fun a b e=>by rw [Hc.out] at e;cases e),hb1⟩
end
section
open Go.RowKit Go.Shelf Go.Maps
def OutL (w:World) (l:List At) (e:Ending) (w':World):Prop:=∃ A c,e=.returned (.slice A l.length c)∧LsN 2 encAt w' ⟨A,c,l⟩∧Below w.heap.size w w'
theorem OutIn.outL {w:World} {l:List At} {v:Value} {w':World} (h:OutIn w l v w'):OutL w l (.returned v) w':=by
 obtain ⟨h1,h2⟩:=h
 obtain ⟨A,c,rfl⟩:=own_slice h1
 exact ⟨A,c,rfl,(LsN.of_own h1).1,h2⟩
set_option maxHeartbeats 1000000 in
theorem bset_any (y:Ls At) (k v:ByteArray) (w:World) (h:LsN 2 encAt w y) (hl:y.l.length≤10000) (ha:AscA y.l) :
 Calls Tryz.prog 33 #[.slice y.A y.l.length y.c,.string k,.string v] w (OutL w (setN y.l k v)):=by
 have HS:=Lib.hid (PSet_any y k v w h hl ha)
 have HH:=Lib.hid h
 clear h hl ha
 obtain ⟨A,c,l⟩:=y
 dsimp only at *
 have hE:(v.toList=[]∧v.toList.isEmpty=true∧setN l k v=l)∨(¬ v.toList=[]∧v.toList.isEmpty=false∧setN l k v=setP l ⟨k,v⟩):=by
  unfold setN
  rcases Classical.em (v.toList=[]) with he | he
  · exact Or.inl ⟨he,by rw [he];rfl,by rw [←tl,he];rfl⟩
  · exact Or.inr ⟨he,by rw [tl];exact L_ne he,by rw [L_ne he];rfl⟩
 rcases hE with ⟨n1,n2,n3⟩ | ⟨n1,n2,n3⟩
 · rw [n3]
   clear n3
   generalize hN:l.length=N
   go_enter Tryz.func33,Tryz.ntmps33
   go_wp2_with fail
   go_ret
   exact ⟨A,c,by rw [hN];rfl,HH.out,Below.refl _ _⟩
 · rw [n3]
   clear n3
   generalize hN:l.length=N at *
   go_enter Tryz.func33,Tryz.ntmps33
   go_wp2_with (go_at_call 56;refine HS.out.mono ?_;rintro e w2 ⟨v,rfl,hO⟩)
   go_ret
   exact hO.outL
theorem Numd_any (k:Int) (w:World):Calls Tryz.prog 54 #[.int .i64 k] w fun e w'=>e=.returned (.bool (decide (k=2∨k=3)))∧w'=w:=by
 by_cases h2:k=2
 · subst h2
   go_enter Tryz.func54,Tryz.ntmps54
   go_wp2_with fail
   go_ret
   exact ⟨rfl,rfl⟩
 · by_cases h3:k=3
   · subst h3
     go_enter Tryz.func54,Tryz.ntmps54
     go_wp2_with fail
     go_ret
     exact ⟨rfl,rfl⟩
   · go_enter Tryz.func54,Tryz.ntmps54
     go_wp2_with fail
     go_ret
     exact ⟨by simp [h2,h3],rfl⟩
theorem Repl_one (s n:ByteArray) (o:UInt8) (W:World) (hE:Env0 W) (hs:s.size≤100000) (hn:n.size≤1) :
 Calls Tryz.prog 55 #[.string s,.string ⟨#[o]⟩,.string n] W fun e w'=>e=.returned (.string (bs (Lib.replaceAll (L s) [o] (L n))))∧Below W.heap.size W w':=by
 obtain ⟨m,hm⟩:=hE.maxLen
 have hc:=Lib.countB_le ⟨#[o]⟩ (by show 1≤1;omega) s.size s (Nat.le_refl _)
 have h:=Tryz.strings_ReplaceAll s ⟨#[o]⟩ n m W (by omega) hm (by show 1≤1;omega) (by have:=Nat.mul_le_mul_left (Lib.countB s ⟨#[o]⟩) hn;omega)
 exact h
set_option maxHeartbeats 1000000 in
theorem Node_any (d:Dv) (w:World) (hE:Env0 w) (hs:d.og.size≤1000) :
 Calls Tryz.prog 32 #[.agg (dvA d)] w fun e w'=>e=.returned (.tuple #[.string ((nodeB d.d).getD ⟨#[]⟩),.bool (nodeB d.d).isSome])∧Below w.heap.size w w':=by
 have hb:=below_alloc w (.cells (dvA d) devT)
 have HR:=Lib.hid (Repl_one d.og ⟨#[47]⟩ 33 _ (hE.go hb) (by omega) (by show 1≤1;omega))
 have HB:=Lib.hid hb
 have HN:=Lib.hid (Numd_any d.kd)
 have hd:nodeB d.d=if d.kd=2∨d.kd=3 then some (bs (Lib.replaceAll (L d.og) [33] [47])) else none:=rfl
 rw [hd]
 clear hd hE hb hs
 unfold dvA at *
 by_cases hk:d.kd=2∨d.kd=3
 · rw [if_pos hk]
   have hq:decide (d.kd=2∨d.kd=3)=true:=decide_eq_true hk
   rw [hq] at HN
   clear hk hq
   go_enter Tryz.func32,Tryz.ntmps32
   go_wp2_with (first | (go_at_call 54;refine (HN.out _).mono ?_;rintro e w2 ⟨rfl,rfl⟩) | (go_at_call 55;refine HR.out.mono ?_;rintro e w2 ⟨rfl,hb2⟩;have HB2:=Lib.hid hb2;clear hb2))
   go_ret2
   exact ⟨rfl,bt HB.out HB2.out⟩
 · rw [if_neg hk]
   have hq:decide (d.kd=2∨d.kd=3)=false:=decide_eq_false hk
   rw [hq] at HN
   clear hk hq
   go_enter Tryz.func32,Tryz.ntmps32
   go_wp2_with (first | (go_at_call 54;refine (HN.out _).mono ?_;rintro e w2 ⟨rfl,rfl⟩) | (go_at_call 55;refine HR.out.mono ?_;rintro e w2 ⟨rfl,hb2⟩;have HB2:=Lib.hid hb2;clear hb2))
   go_ret2
   exact ⟨rfl,HB.out⟩
end
section
open Go.RowKit
structure EdR (w:World) (g:Nat) (y:Dm) (w':World) (y':Dm):Prop where
 fr:∀ b,b<w.heap.size→b≠g→(∀ a∈y.as,∀ p,a=some p→p.block≠b)→w'.heap[b]? = w.heap[b]?
 sz:w.heap.size≤w'.heap.size
 rows:∀ a∈y'.as,∀ p,a=some p→w.heap.size≤p.block∨∃ a'∈y.as,∃ q,a'=some q∧q.block=p.block
theorem EdR.trans {w w1 w2:World} {g:Nat} {y y1 y2:Dm} (h:EdR w g y w1 y1) (h2:EdR w1 g y1 w2 y2):EdR w g y w2 y2:=by
 refine ⟨fun b hb hg hn=>(h2.fr b (Nat.lt_of_lt_of_le hb h.sz) hg (fun a ha p e k=>?_)).trans (h.fr b hb hg hn),Nat.le_trans h.sz h2.sz,fun a ha p e=>?_⟩
 · rcases h.rows a ha p e with k1 | ⟨a',k1,q,k2,k3⟩
   · omega
   · exact hn a' k1 q k2 (k3.trans k)
 · rcases h2.rows a ha p e with k1 | ⟨a',k1,q,k2,k3⟩
   · exact Or.inl (Nat.le_trans h.sz k1)
   · rcases h.rows a' k1 q k2 with k4 | ⟨a2,k4,q2,k5,k6⟩
     · exact Or.inl (by omega)
     · exact Or.inr ⟨a2,k4,q2,k5,k6.trans k3⟩
theorem EdR.same {w w':World} {g:Nat} {y:Dm} (hb:Below w.heap.size w w'):EdR w g y w' y:=⟨fun b h _ _=>hb.block b h,hb.size,fun a ha p e=>Or.inr ⟨a,ha,p,e,rfl⟩⟩
def EdP (B g:Nat) (y:Dm) (w:World) (d':Dr) (e:Ending) (w':World):Prop:=e=.returned (.tuple #[])∧∃ y',y'.d=d'∧EdO B w' g y'∧EdR w g y w' y'∧Below B w w'
theorem EdP.same {B g:Nat} {y:Dm} {w w':World} (h:EdO B w g y) (hb:Below w.heap.size w w'):EdP B g y w y.d (.returned (.tuple #[])) w':=⟨rfl,y,rfl,h.below hb,EdR.same hb,hb.mono (Nat.le_trans h.lo (Nat.le_of_lt (blk_lt' h.box)))⟩
theorem cont7 (l:List ByteArray) (x:ByteArray):Lib.containsS l x=(l.map L).contains (L x):=by
 rw [Bool.eq_iff_iff,Lib.containsS_iff,List.contains_iff_mem,List.mem_map]
 exact ⟨fun h=>⟨x,h,rfl⟩,fun ⟨a,h1,h2⟩=>by rw [←bs_L x,←h2,bs_L];exact h1⟩
abbrev keysB:List ByteArray:=[⟨#[68,69,86,78,65,77,69]⟩,⟨#[68,69,86,80,65,84,72]⟩,⟨#[68,82,73,86,69,82]⟩,⟨#[73,78,84,69,82,70,65,67,69]⟩,⟨#[77,79,68,65,76,73,65,83]⟩,⟨#[78,85,77,66,69,82]⟩,⟨#[83,85,66,83,89,83,84,69,77]⟩]
theorem Cont7_any (x:ByteArray) (T:TypeId) (w:World):Calls Tryz.prog 230 #[.slice (some ⟨w.heap.size,0,none⟩) 7 7,.string x] (w.alloc (.cells #[.string ⟨#[68,69,86,78,65,77,69]⟩,.string ⟨#[68,69,86,80,65,84,72]⟩,.string ⟨#[68,82,73,86,69,82]⟩,.string ⟨#[73,78,84,69,82,70,65,67,69]⟩,.string ⟨#[77,79,68,65,76,73,65,83]⟩,.string ⟨#[78,85,77,66,69,82]⟩,.string ⟨#[83,85,66,83,89,83,84,69,77]⟩] T)) fun e w'=>e=.returned (.bool (baseB (L x)))∧w.alloc (.cells #[.string ⟨#[68,69,86,78,65,77,69]⟩,.string ⟨#[68,69,86,80,65,84,72]⟩,.string ⟨#[68,82,73,86,69,82]⟩,.string ⟨#[73,78,84,69,82,70,65,67,69]⟩,.string ⟨#[77,79,68,65,76,73,65,83]⟩,.string ⟨#[78,85,77,66,69,82]⟩,.string ⟨#[83,85,66,83,89,83,84,69,77]⟩] T)=w':=by
 have h:=Tryz.slices_Contains_string w.heap.size 0 7 7 keysB x (w.alloc (.cells #[.string ⟨#[68,69,86,78,65,77,69]⟩,.string ⟨#[68,69,86,80,65,84,72]⟩,.string ⟨#[68,82,73,86,69,82]⟩,.string ⟨#[73,78,84,69,82,70,65,67,69]⟩,.string ⟨#[77,79,68,65,76,73,65,83]⟩,.string ⟨#[78,85,77,66,69,82]⟩,.string ⟨#[83,85,66,83,89,83,84,69,77]⟩] T)) (by simp) (by omega) (fun j hj=>by
  rw [Nat.zero_add,cell_of_row _ _ j _ _ _ (heap_alloc_new w _)]
  rcases (by simp at hj;omega:j=0∨j=1∨j=2∨j=3∨j=4∨j=5∨j=6) with rfl | rfl | rfl | rfl | rfl | rfl | rfl <;> rfl)
 rw [List.take_of_length_le (by simp),cont7] at h
 exact h.mono fun _ _ ⟨h1,h2⟩=>⟨h1,h2.symm⟩
theorem BKey_any (k:ByteArray) (w:World):Calls Tryz.prog 195 #[.string k] w fun e w'=>e=.returned (.bool (baseB (L k)))∧Below w.heap.size w w':=by
 have HC:=Lib.hid (Cont7_any k 9 w)
 go_enter Tryz.func195,Tryz.ntmps195
 go_wp2_with (go_at_call 230;refine HC.out.mono ?_;rintro e w2 ⟨rfl,rfl⟩)
 go_ret
 exact ⟨rfl,below_alloc _ _⟩
end
section
open Go.RowKit
theorem parts_any (w:World):Calls Tryz.prog 244 #[] w fun e w'=>e=.returned (.agg (setA partS))∧Below w.heap.size w w':=by
 have hzc:=zero_set
 have Hi:=Lib.hid (zero_of_info set_info).2
 have h1:=size_setA (addS commonS [64,35,61,37])
 have h2:=setA_one (addS commonS [64,35,61,37])
 have h0:=size_setA noneS
 have HP:Hid (setA partS=setA (addS commonS [64,35,61,37])):=Lib.hid rfl
 have HC:Hid (∀ W,Calls Tryz.prog 189 #[.agg (setA commonS),.string ⟨#[64,35,61,37]⟩] W fun e w'=>e=.returned (.agg (setA (addS commonS [64,35,61,37])))∧Below W.heap.size W w'):=Lib.hid fun W=>plus_any _ _ _ (by decide)
 have HN:=Lib.hid hzc
 rw [HP.out]
 clear hzc
 generalize setA (addS commonS [64,35,61,37])=S at *
 have HSz:=Lib.hid h1
 have HS1:=Lib.hid h2
 have HS0:=Lib.hid h0
 clear h1 h2 h0
 go_enter Tryz.func244,Tryz.ntmps244
 go_upto_region 1 with fail
 rw [HN.out]
 generalize setA noneS=S0 at *
 obtain ⟨w1,hw1⟩:∃ w1,w.alloc (.cells S0 259)=w1:=⟨_,rfl⟩
 have H1:=Lib.hid (show w1.heap[w.heap.size]? = some (.cells S0 259 (0,0)) by rw [←hw1];exact heap_alloc_new _ _)
 have HB1:=Lib.hid (show Below w.heap.size w w1 by rw [←hw1];exact below_alloc _ _)
 rw [hw1]
 clear hw1
 go_wp2_with (first
  | (go_at_call 220;refine (common_any _).mono ?_;rintro e w2 ⟨rfl,hb2⟩;have HB2:=Lib.hid hb2;clear hb2)
  | (go_at_call 189;refine (HC.out _).mono ?_;rintro e w3 ⟨rfl,hb3⟩;have HB3:=Lib.hid (bt HB2.out hb3);have HX:=Lib.hid ((HB3.out.block _ (blk_lt' H1.out)).trans H1.out);clear hb3)
  | (refine wpList_store_row rfl 259 _ _ rfl _ _ rfl rfl _ _ HX.out (by rw [HSz.out];exact Hi.out) (by rw [HS0.out,HSz.out]) HS1.out ?_))
 refine post_cr1 rfl (by rfl) (setRow_heap _ _ _ _ _ _ HX.out) Tryz.underlying259 rfl (by rw [HSz.out];exact Hi.out) (by rfl) ?_
 exact ⟨rfl,bRow (bt HB1.out HB3.out) (Nat.le_refl _)⟩
theorem ld_ns (v:Value):Instr.loadAt 259 v=ldG 259 v:=by unfold ldG;rfl
theorem ldSet_at {w:World} {G:Nat} {f:Nat→Bool} (hG:w.heap[G]? = some (.cells (setA f) 259 (0,0))):(ldG 259 (.pointer (some ⟨G,0,none⟩))).run Tryz.prog w=.ok (.agg (setA f)) w:=by
 have h:=ldG_row (P:=Tryz.prog) (w:=w) (T:=259) (n:=256) (g:=G) (o:=0) (l:=(setA f).toList) Tryz.isAgg259 Tryz.sizeOf259 (by rw [Array.length_toList,size_setA]) (fun j u hu=>by
  rw [Nat.zero_add,cell_of_row _ _ j _ _ _ hG,←Array.getElem?_toList];exact hu)
 rw [h]
attribute [local go_sem ↓] ld_ns
set_option maxHeartbeats 2000000 in
theorem linkC_any (s:ByteArray) (G:Nat) (w:World) (hs:s.size≤1000000) (hG:w.heap[G]? = some (.cells (setA partS) 259 (0,0))) :
 Calls Tryz.prog 270 #[.string s,.pointer (some ⟨G,0,none⟩)] w fun e w'=>e=.returned (.bool (compB (L s)))∧Below w.heap.size w w':=by
 have HG:=Lib.hid hG
 have Hi:=Lib.hid (zero_of_info set_info).2
 have HD:=Lib.hid (dots_any s w)
 have HH:=Lib.hid (has_any partS s w (by omega))
 have HSz:=Lib.hid (size_setA partS)
 have hE:compB (L s)=(!(L s).isEmpty && !(L s == [46] || L s == [46,46]) && hasS partS (L s)):=rfl
 rw [hE]
 have hld:=ldSet_at hG
 clear hE hG
 generalize setA partS=S at *
 by_cases h0:s.toList=[]
 · have h1:(L s).isEmpty=true:=by rw [L_nil h0];rfl
   rw [h1]
   go_enter Tryz.func270,Tryz.ntmps270
   go_wp2
   go_ret
   exact ⟨rfl,Below.refl _ _⟩
 · have h1:(L s).isEmpty=false:=L_ne h0
   have h2:s.toList.isEmpty=false:=by rw [tl];exact h1
   rw [h1]
   cases hd:(L s == [46] || L s == [46,46]) with
   | true =>
     have HD2:=HD.out
     rw [hd] at HD2
     have HD3:=Lib.hid HD2
     clear HD2 hd
     go_enter Tryz.func270,Tryz.ntmps270
     go_wp2_with (go_at_call 219;refine HD3.out.mono ?_;rintro e w2 ⟨rfl,rfl⟩)
     go_ret
     exact ⟨rfl,Below.refl _ _⟩
   | false =>
     have HD2:=HD.out
     rw [hd] at HD2
     have HD3:=Lib.hid HD2
     clear HD2 hd
     generalize hasS partS (L s)=b at *
     go_enter Tryz.func270,Tryz.ntmps270
     go_wp2_with (first
      | (go_at_call 219;refine HD3.out.mono ?_;rintro e w2 ⟨rfl,rfl⟩)
      | (go_at_call 190;refine HH.out.mono ?_;rintro e w3 ⟨rfl,hb3⟩))
     go_ret
     exact ⟨by cases b <;> rfl,hb3⟩
theorem allC_any (x:ByteArray) (G B:Nat) (w:World) (b:Bool) (hc:w.cell? ⟨B,0,none⟩=some (.func (.func 270) #[] #[.pointer (some ⟨G,0,none⟩)]))
 (hL:Calls Tryz.prog 270 #[.string x,.pointer (some ⟨G,0,none⟩)] w fun e w'=>e=.returned (.bool b)∧Below w.heap.size w w') :
 Calls Tryz.prog 297 #[.string x,.pointer (some ⟨B,0,none⟩)] w fun e w'=>e=.returned (.bool (!b))∧Below w.heap.size w w':=by
 have HL:=Lib.hid hL
 clear hL
 go_enter Tryz.func297,Tryz.ntmps297
 go_wp2_with (go_at_call 270;refine HL.out.mono ?_;rintro e w2 ⟨rfl,hb2⟩)
 go_ret
 exact ⟨rfl,hb2⟩
theorem All_any (G:Nat) (A:Option Addr) (c:Nat) (xs:List ByteArray) (w:World) (hG:w.heap[G]? = some (.cells (setA partS) 259 (0,0))) (hx:∀ x∈xs,x.size≤1000000) (hr:RowAt w w.heap.size A 1 xs.length (xs.map Value.string)) (hl:xs.length≤1000000000) :
 Calls Tryz.prog 269 #[.slice A xs.length c,.func (.func 270) #[] #[.pointer (some ⟨G,0,none⟩)]] w fun e w'=>e=.returned (.bool (xs.all fun x=>compB (L x)))∧Below w.heap.size w w':=by
 obtain ⟨w1,hw1⟩:∃ w1,w.alloc (.cells #[.func (.func 270) #[] #[.pointer (some ⟨G,0,none⟩)]] 142)=w1:=⟨_,rfl⟩
 have hb1:Below w.heap.size w w1:=by rw [←hw1];exact below_alloc _ _
 have hs1:w.heap.size<w1.heap.size:=by rw [←hw1];simp
 have hc1:w1.cell? ⟨w.heap.size,0,none⟩=some (.func (.func 270) #[] #[.pointer (some ⟨G,0,none⟩)]):=by rw [←hw1];exact cellOf (heap_alloc_new w _) rfl
 have hP:PredS 297 #[.pointer (some ⟨w.heap.size,0,none⟩)] (fun x => !compB (L x)) xs w1:=fun x hm W hW=>by
  have h1:=allC_any x G w.heap.size W (compB (L x)) ((hW.cell (p:=⟨w.heap.size,0,none⟩) hs1).trans hc1) (linkC_any x G W (hx x hm) ((hW.block _ (Nat.lt_of_lt_of_le (blk_lt' hG) hb1.size)).trans ((hb1.block _ (blk_lt' hG)).trans hG)))
  exact h1.mono fun _ _ ⟨h2,h3⟩=>⟨h2,bt hW h3⟩
 have HC:=Lib.hid (ContB_any 297 #[.pointer (some ⟨w.heap.size,0,none⟩)] (fun _ _=>rfl) (fun x => !compB (L x)) A c xs w1 ((hr.keep hb1).up hb1.size) hl hP)
 have hE:(xs.all fun x=>compB (L x)) = !(xs.any fun x => !compB (L x)):=by rw [List.not_any_eq_all_not];simp
 rw [hE]
 have HB1:=Lib.hid hb1
 have HW1:=Lib.hid hw1
 clear hE hP hc1 hs1 hb1 hw1 hG hr hx
 generalize (xs.any fun x => !compB (L x))=b at *
 generalize xs.length=N at *
 go_enter Tryz.func269,Tryz.ntmps269
 go_upto_region 1 with fail
 rw [HW1.out]
 go_wp2_with (go_at_call 140;refine HC.out.mono ?_;rintro e w2 ⟨rfl,hb2⟩)
 go_ret
 exact ⟨rfl,bt HB1.out hb2⟩
theorem SplitC_any (s:ByteArray) (w:World) (hE:Env0 w) (hs:s.size≤4000000) :
 Calls Tryz.prog 101 #[.string s,.string ⟨#[47]⟩] w fun e w'=>e=.returned (.slice (some ⟨w.heap.size,0,none⟩) (partsC 47 s).length (partsC 47 s).length)∧w.alloc (.cells ((partsC 47 s).map Value.string).toArray 9)=w':=by
 obtain ⟨m,hm⟩:=hE.maxLen
 have h:=Tryz.strings_Split s ⟨#[47]⟩ m w (by omega) hm (by show 1≤1;omega)
 have e:(partsC 47 s).length=Lib.countB s ⟨#[47]⟩+1:=Lib.splitB_all ⟨#[47]⟩ (by show 1≤1;omega) 0 _ s rfl
 rw [e]
 exact h.mono fun e w' h=>⟨h.1,h.2.symm⟩
end
section
open Go.RowKit
theorem partsC_len (s:ByteArray) (c:UInt8):(partsC c s).length=Lib.countB s ⟨#[c]⟩+1:=Lib.splitB_all ⟨#[c]⟩ (by show 1≤1;omega) 0 _ s rfl
theorem partsC_le (s:ByteArray) (c:UInt8):(partsC c s).length≤s.size+1:=by
 rw [partsC_len]
 exact Nat.succ_le_succ (Lib.countB_le ⟨#[c]⟩ (by show 1≤1;omega) s.size s (Nat.le_refl _))
theorem splitK_mem:∀ (m:Nat) (d:UInt8) (s:Str),∀ x∈Lib.splitK [d] 0 m s,x.length≤s.length
 | 0,d,s,x,hx=>by
   rw [Lib.splitK,List.mem_singleton] at hx
   rw [hx];exact Nat.le_refl _
 | m + 1,d,s,x,hx=>by
   rw [Lib.splitK] at hx
   split at hx
   · rw [List.mem_singleton] at hx
     rw [hx];exact Nat.le_refl _
   · rcases List.mem_cons.1 hx with rfl | hx
     · rw [List.length_take];omega
     · have:=splitK_mem m d _ x hx
       rw [List.length_drop] at this
       omega
theorem partsC_mem (s:ByteArray) (c:UInt8):∀ x∈partsC c s,x.size≤s.size:=by
 intro x hx
 have h:=Lib.splitB_data ⟨#[c]⟩ 0 (Lib.countB s ⟨#[c]⟩) s
 have h3:(partsC c s).map L=Lib.splitK [c] 0 (Lib.countB s ⟨#[c]⟩) (L s):=h
 have h1:=splitK_mem (Lib.countB s ⟨#[c]⟩) c (L s) (L x) (by rw [←h3];exact List.mem_map.2 ⟨x,hx,rfl⟩)
 rwa [len_L,len_L] at h1
theorem strRow (W:World) (xs:List ByteArray):RowAt (W.alloc (.cells (xs.map Value.string).toArray 9)) (W.heap.size+1) (some ⟨W.heap.size,0,none⟩) 1 xs.length (xs.map Value.string) :=
 ⟨by simp,fun _=>⟨W.heap.size,0,rfl,Nat.lt_succ_self _,fun j u hu=>by
  rw [Nat.zero_add]
  exact cellOf (heap_alloc_new W _) (by rw [List.getElem?_toArray];exact hu)⟩⟩
theorem setNew {w2:World} {f:Nat→Bool}:((w2.alloc (.cells Tryz.zeroCells259 259)).setRow w2.heap.size (setA f)).heap[w2.heap.size]? = some (.cells (setA f) 259 (0,0))∧Below w2.heap.size w2 ((w2.alloc (.cells Tryz.zeroCells259 259)).setRow w2.heap.size (setA f)) :=
 ⟨setRow_heap _ _ _ _ _ _ (heap_alloc_new w2 _),bRow (below_alloc w2 _) (Nat.le_refl _)⟩
set_option maxHeartbeats 2000000 in
theorem Link_any (s:ByteArray) (w:World) (hE:Env0 w) (hs:s.size≤4611686018427387904) :
 Calls Tryz.prog 245 #[.string s] w fun e w'=>e=.returned (.bool (linkB s))∧Below w.heap.size w w':=by
 have Hi:=Lib.hid (zero_of_info set_info).2
 have HSz:=Lib.hid (size_setA partS)
 have HS1:=Lib.hid (setA_one partS)
 have HPt:=Lib.hid parts_any
 have HNw:Hid (∀ w2:World,_∧_):=Lib.hid fun w2=>setNew (w2:=w2) (f:=partS)
 have hE2:linkB s=(decide (s.size≤256) && (partsC 47 s).all fun p=>compB (L p)):=rfl
 rw [hE2]
 have HEn:=Lib.hid hE
 clear hE hE2
 by_cases h256:s.size≤256
 · have h256i:(s.size:Int)≤256:=by omega
   rw [decide_eq_true h256,Bool.true_and]
   have HSp:=Lib.hid (fun (W:World) (hW:Below w.heap.size w W)=>SplitC_any s W (HEn.out.go hW) (by omega))
   have HA:=Lib.hid (fun (G:Nat) (W:World) (hG:W.heap[G]? = some (.cells (setA partS) 259 (0,0)))=>All_any G (some ⟨W.heap.size,0,none⟩) (partsC 47 s).length (partsC 47 s) (W.alloc (.cells ((partsC 47 s).map Value.string).toArray 9)) (((below_alloc W _).block _ (blk_lt' hG)).trans hG) (fun x hx=>by have:=partsC_mem s 47 x hx;omega) (by have:=strRow W (partsC 47 s);simpa using this) (by have:=partsC_le s 47;omega))
   generalize ((partsC 47 s).all fun p=>compB (L p))=b at *
   generalize partsC 47 s=ps at *
   generalize hN:ps.length=N at *
   clear hN
   generalize setA partS=S at *
   go_enter Tryz.func245,Tryz.ntmps245
   go_upto_region 2 with (first
    | (go_at_call 244;refine (HPt.out _).mono ?_;rintro e w2 ⟨rfl,hb2⟩;have HB2:=Lib.hid hb2;clear hb2)
    | (refine wpList_store_row rfl 259 _ _ rfl _ _ rfl rfl _ _ (heap_alloc_new _ _) (by rw [HSz.out];exact Hi.out) (by rw [zero_set,size_setA,HSz.out]) HS1.out ?_))
   obtain ⟨hG,hbG⟩:=HNw.out w2
   generalize hW3:(w2.alloc (.cells Tryz.zeroCells259 259)).setRow w2.heap.size S=W3 at *
   have HG:=Lib.hid hG
   have HB3:=Lib.hid (bt HB2.out hbG)
   clear hW3 hG hbG
   go_wp2_with (first
    | (go_at_call 101;refine (HSp.out _ HB3.out).mono ?_;rintro e w4 ⟨rfl,rfl⟩)
    | (go_at_call 269;refine (HA.out _ _ HG.out).mono ?_;rintro e w5 ⟨rfl,hb5⟩))
   go_ret
   exact ⟨rfl,bt HB3.out (bt (below_alloc _ _) hb5)⟩
 · have h256i:¬ (s.size:Int)≤256:=by omega
   rw [decide_eq_false h256,Bool.false_and]
   generalize setA partS=S at *
   go_enter Tryz.func245,Tryz.ntmps245
   go_upto_region 2 with (first
    | (go_at_call 244;refine (HPt.out _).mono ?_;rintro e w2 ⟨rfl,hb2⟩;have HB2:=Lib.hid hb2;clear hb2)
    | (refine wpList_store_row rfl 259 _ _ rfl _ _ rfl rfl _ _ (heap_alloc_new _ _) (by rw [HSz.out];exact Hi.out) (by rw [zero_set,size_setA,HSz.out]) HS1.out ?_))
   go_wp2
   go_ret
   exact ⟨rfl,bt HB2.out (HNw.out w2).2⟩
end
section
open Go.RowKit
theorem pieceInfo:(Tryz.prog.info? 249).map (fun i=>(i.zero,i.size,i.bytes))=some (some (.agg #[.int .i64 0,.string ⟨#[]⟩,.int .i64 0,.bool false]),4,40):=by kernel_rfl
theorem addP_app {l:List Pc} {p:Pc} (h:¬(p.kind=1∧(l.getLast?.map (·.kind))=some 1)):addP l p=l++[p]:=by rw [addP,if_neg h]
theorem own_keep {w w':World} {base k n:Nat} {e:TypeId} {v:Value} {xs:List Value} (h:w.ownsRow base e k v n xs) (hb:Below w.heap.size w w'):w'.ownsRow base e k v n xs :=
 h.kept (row:=none) ⟨hb.os,hb.tape,hb.output,hb.size,fun k hk _=>hb.block k hk⟩ (by
  rcases h.2 with ⟨h1,_⟩ | ⟨g',cap,cur,h1,_⟩
  · left;rw [h1];rfl
  · right;rw [h1];simp [Value.ownBlock])
theorem encPc_one (p:Pc):∀ u∈encPc p,u.oneCell'=true:=by
 intro u hu
 simp only [encPc,List.mem_cons,List.not_mem_nil,or_false] at hu
 rcases hu with h | h | h | h <;> subst h <;> rfl
theorem own_ne {w:World} {g k n:Nat} {e:TypeId} {v:Value} {xs:List Value} (h:w.ownsRow (g+1) e k v n xs):v.ownBlock≠some g:=fun he=>by
 have:=(h.lt g he).1
 omega
theorem cell_grown1 {w W w2:World} {g i:Nat} {u:Value} {row:Option Nat} (c1:w.cell? ⟨g,i,none⟩=some u) (f1:w.frozen? ⟨g,i,none⟩=false) (hne:row≠some g) (hb:Below w.heap.size w W) (hg:W.grownBy w2 row) :
 w2.cell? ⟨g,i,none⟩=some u∧w2.frozen? ⟨g,i,none⟩=false:=by
 have hlt:=block_lt_of_cell c1
 have hlt2:(⟨g,i,none⟩:Addr).block<W.heap.size:=Nat.lt_of_lt_of_le hlt hb.size
 exact ⟨(hg.cell_far _ hlt2 (Ne.symm hne)).trans ((hb.cell (p:=⟨g,i,none⟩) hlt).trans c1),(hg.frozen_far _ hlt2 (Ne.symm hne)).trans ((hb.frozen (p:=⟨g,i,none⟩) hlt).trans f1)⟩
theorem Rd.appended {w W w2:World} {g g2 cap:Nat} {rest:ByteArray} {ps:List Pc} {p:Pc} {A:Option Addr} {c:Nat} (hh:w.heap[g]? = some (.cells #[.string rest,.slice A ps.length c] 273 (0,0)))
 (ho:w.ownsRow (g+1) 249 4 (.slice A ps.length c) ps.length (cellsOf encPc ps)) (hb:Below w.heap.size w W) (hg:W.grownBy w2 (Value.slice A ps.length c).ownBlock)
 (h2:w2.ownsRow (g+1) 249 4 (.slice (some ⟨g2,0,none⟩) (ps.length+1) cap) (ps.length+1) (cellsOf encPc ps++encPc p)) :
 Rd (w2.setCell ⟨g,1,none⟩ (.slice (some ⟨g2,0,none⟩) (ps.length+1) cap)) g rest (ps++[p])∧Below g w (w2.setCell ⟨g,1,none⟩ (.slice (some ⟨g2,0,none⟩) (ps.length+1) cap)):=by
 have hlt:=blk_lt hh
 have hh2:w2.heap[g]? = some (.cells #[.string rest,.slice A ps.length c] 273 (0,0)):=by
  rw [hg.block g (Nat.lt_of_lt_of_le hlt hb.size) (Ne.symm (own_ne ho)),hb.block g hlt];exact hh
 refine ⟨⟨.slice (some ⟨g2,0,none⟩) (ps.length+1) cap,by rw [heap_setCell_same _ _ _ _ _ _ hh2];rfl,?_⟩,?_⟩
 · have e:cellsOf encPc (ps++[p])=cellsOf encPc ps++encPc p:=by simp [cellsOf]
   rw [List.length_append,List.length_singleton,e]
   exact ownsRow_setCell_below h2 (by simp) _
 · have h3:Below g w w2:=(hb.mono (Nat.le_of_lt hlt)).grown hg (Nat.le_trans (Nat.le_of_lt hlt) hb.size) (fun k hk=>by have:=(ho.lt k hk).1;omega)
   exact h3.setCell (p:=⟨g,1,none⟩) (Nat.le_refl _) _
def AddPost (g:Nat) (rest:ByteArray) (ps:List Pc) (p:Pc) (w:World) (e:Ending) (w':World):Prop :=
 e=.returned (.tuple #[])∧Rd w' g rest (addP ps p)∧Below g w w'
set_option maxHeartbeats 2000000 in
theorem add_app (g:Nat) (rest:ByteArray) (ps:List Pc) (p:Pc) (w:World) (h:Rd w g rest ps) (hn:ps.length≤10000) (hk:p.kind≠1) :
 Calls Tryz.prog 199 #[.pointer (some ⟨g,0,none⟩),.agg #[.int .i64 p.kind,.string p.text,.int .i64 p.word,.bool p.more]] w (AddPost g rest ps p w):=by
 obtain ⟨v,hh,hown⟩:=h.ex
 have c1:w.cell? ⟨g,1,none⟩=some v:=by rw [cell_of_row _ _ 1 _ _ _ hh];rfl
 have f1:w.frozen? ⟨g,1,none⟩=false:=frozen_of_row _ _ _ _ _ hh
 have hk1:(p.kind == 1)=false:=by simpa using hk
 obtain ⟨i0,hi0,hz0,hz1,hz2⟩:=info_parts pieceInfo
 obtain ⟨A,c,rfl⟩:∃ A c,v=.slice A ps.length c:=by
  rcases hown.2 with ⟨h1,h2⟩ | ⟨g',cap,cur,h1,_⟩
  · exact ⟨_,_,by rw [h2];exact h1⟩
  · exact ⟨_,_,h1⟩
 have HH:=Lib.hid h
 have hlt:=h.lt
 have Hh:=Lib.hid hh
 have Ho:=Lib.hid hown
 clear h hh hown
 have Hk:=Lib.hid hk
 clear hk
 go_enter Tryz.func199,Tryz.ntmps199
 go_wp2
 go_region_law (first | (refine step_append_lies _ (by rfl) _ _ _ (by rfl) (g+1) 249 i0 _ 4 40 Tryz.underlying240 hi0 hz0 hz1 hz2 rfl (by omega) (.slice A ps.length c) ps.length (cellsOf encPc ps) (by rfl) (own_keep Ho.out (by go_grown)) _ 1 1 (encPc p) (by rfl) (by rfl) (by exact World.news_of_block (B:=w.heap.size+1) (heap_alloc2_new w _ _)) (encPc_one p) (by omega) (by unfold maxLen;omega) (by omega) (by simp;omega) _ rfl ?_;intro g2 cap w2 hown2 hgrow2 hat2 hlt2;have c2:=cell_grown1 c1 f1 (own_ne Ho.out) (by go_grown) hgrow2;obtain ⟨c2a,c2b⟩:=c2))
 all_goals
  go_end0
  have hR:=Rd.appended (p:=p) Hh.out Ho.out (by go_grown) hgrow2 hown2
  exact ⟨rfl,by rw [addP_app (fun h=>Hk.out h.1)];exact hR.1,hR.2⟩
set_option maxHeartbeats 2000000 in
theorem add_new (g:Nat) (rest:ByteArray) (ps:List Pc) (t:ByteArray) (w:World) (h:Rd w g rest ps) (hn:ps.length≤10000) (hk:(ps.getLast?.map (·.kind))≠some 1) :
 Calls Tryz.prog 199 #[.pointer (some ⟨g,0,none⟩),.agg #[.int .i64 1,.string t,.int .i64 0,.bool false]] w (AddPost g rest ps (txt t) w):=by
 obtain ⟨v,hh,hown⟩:=h.ex
 have c1:w.cell? ⟨g,1,none⟩=some v:=by rw [cell_of_row _ _ 1 _ _ _ hh];rfl
 have f1:w.frozen? ⟨g,1,none⟩=false:=frozen_of_row _ _ _ _ _ hh
 obtain ⟨i0,hi0,hz0,hz1,hz2⟩:=info_parts pieceInfo
 have HH:=Lib.hid h
 have hlt:=h.lt
 have Hh:=Lib.hid hh
 have Ho:=Lib.hid hown
 have Hk:=Lib.hid hk
 clear h hh hown hk
 obtain ⟨A,c,rfl⟩:∃ A c,v=.slice A ps.length c:=by
  rcases Ho.out.2 with ⟨h1,h2⟩ | ⟨g',cap,cur,h1,_⟩
  · exact ⟨_,_,by rw [h2];exact h1⟩
  · exact ⟨_,_,h1⟩
 rcases List.eq_nil_or_concat ps with h0 | ⟨m,q,h0⟩
 · subst h0
   simp only [List.length_nil] at c1 hn
   go_enter Tryz.func199,Tryz.ntmps199
   go_wp2
   go_region_law (first | (refine step_append_lies _ (by rfl) _ _ _ (by rfl) (g+1) 249 i0 _ 4 40 Tryz.underlying240 hi0 hz0 hz1 hz2 rfl (by omega) (.slice A 0 c) 0 (cellsOf encPc []) (by rfl) (own_keep Ho.out (by go_grown)) _ 1 1 (encPc (txt t)) (by rfl) (by rfl) (by exact World.news_of_block (B:=w.heap.size+1) (heap_alloc2_new w _ _)) (encPc_one _) (by omega) (by unfold maxLen;omega) (by omega) (by simp;omega) _ rfl ?_;intro g2 cap w2 hown2 hgrow2 hat2 hlt2;have c2:=cell_grown1 c1 f1 (own_ne Ho.out) (by go_grown) hgrow2;obtain ⟨c2a,c2b⟩:=c2))
   all_goals
    go_end0
    have hR:=Rd.appended (p:=txt t) Hh.out Ho.out (by go_grown) hgrow2 hown2
    exact ⟨rfl,by rw [addP_app (fun h=>Hk.out h.2)];exact hR.1,hR.2⟩
 · rw [List.concat_eq_append] at h0
   subst h0
   have hq:q.kind≠1:=fun e=>Hk.out (by simp [e])
   have hq1:(q.kind == 1)=false:=by simpa using hq
   obtain ⟨b,cap,hA,hbg,hb⟩:=Ho.out.form (by simp)
   obtain ⟨rfl,rfl⟩:A=some ⟨b,0,none⟩∧c=cap:=by injection hA with h1 h2 h3;exact ⟨h1,h3⟩
   have cq:w.cell? ⟨b,m.length*4,none⟩=some (.int .i64 q.kind):=by
    rw [Ho.out.cellAt (m.length*4) (by simp),cellsOf_append,List.getElem?_append_right (by rw [cellsOf_len encPc 4 encPc_len];omega),cellsOf_len encPc 4 encPc_len,Nat.sub_self]
    rfl
   simp only [List.length_append,List.length_singleton] at c1 hn
   have Hoo:Hid (w.ownsRow (g+1) 249 4 (.slice (some ⟨b,0,none⟩) (m.length+1) c) (m.length+1) (cellsOf encPc (m++[q]))):=by
    have:=Ho.out
    simp only [List.length_append,List.length_singleton] at this
    exact this
   clear hq hA hbg
   go_enter Tryz.func199,Tryz.ntmps199
   go_wp2
   go_region_law (first | (refine step_append_lies _ (by rfl) _ _ _ (by rfl) (g+1) 249 i0 _ 4 40 Tryz.underlying240 hi0 hz0 hz1 hz2 rfl (by omega) (.slice (some ⟨b,0,none⟩) (m.length+1) c) (m.length+1) (cellsOf encPc (m++[q])) (by rfl) (own_keep Hoo.out (by go_grown)) _ 1 1 (encPc (txt t)) (by rfl) (by rfl) (by exact World.news_of_block (B:=w.heap.size+1) (heap_alloc2_new w _ _)) (encPc_one _) (by omega) (by unfold maxLen;omega) (by omega) (by simp;omega) _ rfl ?_;intro g2 cap w2 hown2 hgrow2 hat2 hlt2;have c2:=cell_grown1 c1 f1 (own_ne Hoo.out) (by go_grown) hgrow2;obtain ⟨c2a,c2b⟩:=c2))
   all_goals
    go_end0
    have hh1:=Hh.out
    have ho1:=Hoo.out
    have e1:m.length+1=(m++[q]).length:=by simp
    rw [e1] at ho1 hown2
    have hR:=Rd.appended (p:=txt t) hh1 ho1 (by go_grown) hgrow2 hown2
    rw [←e1] at hR
    exact ⟨rfl,by rw [addP_app (fun h=>Hk.out h.2)];exact hR.1,hR.2⟩
theorem cells_setLast (m:List Pc) (q:Pc) (u:ByteArray):(cellsOf encPc (m++[q])).set (m.length*4+1) (.string u)=cellsOf encPc (m++[{ q with text:=u }]):=by
 have hl:=cellsOf_len encPc 4 encPc_len m
 rw [cellsOf_append,cellsOf_append,List.set_append_right _ _ (by rw [hl];omega),hl,Nat.add_sub_cancel_left]
 rfl
theorem Rd.joined {w W:World} {g b c:Nat} {rest t:ByteArray} {m:List Pc} {q:Pc} (hh:w.heap[g]? = some (.cells #[.string rest,.slice (some ⟨b,0,none⟩) (m++[q]).length c] 273 (0,0)))
 (ho:w.ownsRow (g+1) 249 4 (.slice (some ⟨b,0,none⟩) (m++[q]).length c) (m++[q]).length (cellsOf encPc (m++[q]))) (hbg:g+1≤b) (hb:Below w.heap.size w W) :
 Rd (W.setCell ⟨b,m.length*4+1,none⟩ (.string (q.text++t))) g rest (m++[{ q with text:=q.text++t }])∧Below g w (W.setCell ⟨b,m.length*4+1,none⟩ (.string (q.text++t))):=by
 have hlt:=blk_lt hh
 refine ⟨⟨.slice (some ⟨b,0,none⟩) (m++[q]).length c,?_,?_⟩,?_⟩
 · rw [heap_setCell_other _ _ _ _ (by simp;omega),hb.block g hlt];exact hh
 · have h1:=((own_keep ho hb).stored (m.length*4+1) (.string (q.text++t))).1
   rw [cells_setLast] at h1
   have e:(m++[{ q with text:=q.text++t }]).length=(m++[q]).length:=by simp
   rw [e]
   exact h1
 · exact (hb.mono (Nat.le_of_lt hlt)).setCell (p:=⟨b,m.length*4+1,none⟩) (by simp;omega) _
set_option maxHeartbeats 2000000 in
theorem add_join (g:Nat) (rest:ByteArray) (m:List Pc) (q:Pc) (t:ByteArray) (w:World) (h:Rd w g rest (m++[q])) (hn:m.length≤10000) (hk:q.kind=1) (hq:q.text.size≤1000000) (ht:t.size≤1000000) :
 Calls Tryz.prog 199 #[.pointer (some ⟨g,0,none⟩),.agg #[.int .i64 1,.string t,.int .i64 0,.bool false]] w (AddPost g rest (m++[q]) (txt t) w):=by
 obtain ⟨v,hh,hown⟩:=h.ex
 have hlt:=h.lt
 obtain ⟨b,c,hA,hbg,hb⟩:=hown.form (by simp)
 subst hA
 have c1:w.cell? ⟨g,1,none⟩=some (.slice (some ⟨b,0,none⟩) (m.length+1) c):=by rw [cell_of_row _ _ 1 _ _ _ hh];simp
 have cq:w.cell? ⟨b,m.length*4,none⟩=some (.int .i64 1):=by
  rw [hown.cellAt (m.length*4) (by simp),cellsOf_append,List.getElem?_append_right (by rw [cellsOf_len encPc 4 encPc_len];omega),cellsOf_len encPc 4 encPc_len,Nat.sub_self,←hk]
  rfl
 have ct:w.cell? ⟨b,m.length*4+1,none⟩=some (.string q.text):=by
  rw [hown.cellAt (m.length*4+1) (by simp;omega),cellsOf_append,List.getElem?_append_right (by rw [cellsOf_len encPc 4 encPc_len];omega),cellsOf_len encPc 4 encPc_len,Nat.add_sub_cancel_left]
  rfl
 have ft:w.frozen? ⟨b,m.length*4+1,none⟩=false:=hown.frozenAt _
 have Hh:=Lib.hid hh
 have Ho:=Lib.hid hown
 have Hk:=Lib.hid hk
 have Hbg:=Lib.hid hbg
 clear hh hown hk h hbg
 go_enter Tryz.func199,Tryz.ntmps199
 go_wp2
 go_region
 all_goals go_wp2
 all_goals
  refine bodyPost_ret (results_none rfl _ _ _) rfl ?_
  have hR:=Rd.joined (t:=t) Hh.out Ho.out Hbg.out (W:=w) (Below.refl _ _)
  have hB:=hR.1.lt
  refine ⟨rfl,?_,(hR.2.alloc (Nat.le_of_lt hB) _).drew⟩
  rw [addP,if_pos ⟨rfl,by simp [Hk.out]⟩,setLast_snoc]
  exact hR.1.keep (((Below.refl _ _).alloc (Nat.le_refl _) _).drew)
theorem add_any (g:Nat) (rest:ByteArray) (ps:List Pc) (p:Pc) (w:World) (h:Rd w g rest ps) (hn:ps.length≤10000) (hq:∀ q∈ps,q.text.size≤1000000) (ht:p.text.size≤1000000) (hp:p.kind=1→p=txt p.text) :
 Calls Tryz.prog 199 #[.pointer (some ⟨g,0,none⟩),.agg #[.int .i64 p.kind,.string p.text,.int .i64 p.word,.bool p.more]] w (AddPost g rest ps p w):=by
 by_cases hk:p.kind=1
 · rw [hp hk] at ht ⊢
   by_cases hl:(ps.getLast?.map (·.kind))=some 1
   · rcases List.eq_nil_or_concat ps with h0 | ⟨m,q,h0⟩
     · subst h0;simp at hl
     · rw [List.concat_eq_append] at h0
       subst h0
       have hqk:q.kind=1:=by simpa using hl
       exact add_join g rest m q p.text w h (by simp at hn;omega) hqk (hq q (by simp)) ht
   · exact add_new g rest ps p.text w h hn hl
 · exact add_app g rest ps p w h hn hk
end
end Go.Proofs.YtobcmlmbblgcdaaGreatDoor
