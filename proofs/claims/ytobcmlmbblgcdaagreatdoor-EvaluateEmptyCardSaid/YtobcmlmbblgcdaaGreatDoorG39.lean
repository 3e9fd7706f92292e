/-
  Contract of the reference's Set of attributes: some list of no other attributes.
  Contract of coldplugworld's Attrs: some short list of attributes, names too.
  What is said of a made tree.
  Contracts of coldplugworld's Helpers and Some: some right helpers, some number. (Printed by gen_whelp.py.)
  The reference's Base properties: some list of few properties; world's Some.
-/
import Derived.Test.YtobcmlmbblgcdaaGreatDoorG05
import Derived.Test.YtobcmlmbblgcdaaGreatDoorG01
import Derived.Test.YtobcmlmbblgcdaaGreatDoorG00
import Derived.Test.YtobcmlmbblgcdaaGreatDoorWtF
import Derived.Test.YtobcmlmbblgcdaaGreatDoorG26
import Derived.Deep.AppendLies
import Derived.Lib.ItoaLen
namespace Go.Proofs.YtobcmlmbblgcdaaGreatDoor
set_option maxRecDepth 100000
section
open Go.RowKit
theorem atInfo:(Tryz.prog.info? 104).map (fun i=>(i.zero,i.size,i.bytes))=some (some (.agg #[.string ⟨#[]⟩,.string ⟨#[]⟩]),2,32):=by kernel_rfl
theorem encAt_one2 (t:At):∀ u∈encAt t,u.oneCell'=true:=by simp [encAt,Value.oneCell']
def AtOf (l:List At) (y:At) (m:List At):Prop:=∀ x∈m,x∈l∨x=y
theorem AtOf.snoc {l m:List At} {x y:At} (h:AtOf l y m) (hx:x∈l∨x=y):AtOf l y (m++[x]):=fun z hz=>by
 rcases List.mem_append.1 hz with hz | hz
 · exact h z hz
 · obtain rfl:=List.mem_singleton.1 hz;exact hx
theorem own_ap {α:Type} {enc:α→List Value} {W:World} {base k n c:Nat} {e:TypeId} {A:Option Addr} {l2:List α} {xs:List Value} (h:W.ownsRow base e k (.slice A n c) n xs) (hn:n=l2.length) (hx:xs=cellsOf enc l2):W.ownsRow base e k (.slice A l2.length c) l2.length (cellsOf enc l2):=by
 subst hn hx;exact h
def AtSetPost (l:List At) (y:At) (w:World) (e:Ending) (w':World):Prop:=∃ v m,e=.returned v∧w'.ownsRow w.heap.size 104 2 v m.length (cellsOf encAt m)∧m.length≤l.length+1∧AtOf l y m∧Below w.heap.size w w'
set_option maxHeartbeats 8000000 in
theorem RSet_at (A:Option Addr) (c:Nat) (l:List At) (nm vl:ByteArray) (w:World) (hl:l.length≤1000) (h:RowAt w w.heap.size A 2 l.length (cellsOf encAt l)) :
 Calls Tryz.prog 23 #[.slice A l.length c,.string nm,.string vl] w (AtSetPost l ⟨nm,vl⟩ w):=by
 have H:=Lib.hid h
 clear h
 obtain ⟨i0,hi0,hz0,hz1,hz2⟩:=info_parts atInfo
 have Hi0:=Lib.hid hi0
 have Hz0:=Lib.hid hz0
 have Hz1:=Lib.hid hz1
 have Hz2:=Lib.hid hz2
 clear hi0 hz0 hz1 hz2
 obtain ⟨N,hN⟩:∃ N,l.length=N:=⟨_,rfl⟩
 have HN:=Lib.hid hN
 have HEnd:Hid (∀ (v:Value) (m:List At) (W:World),W.ownsRow w.heap.size 104 2 v m.length (cellsOf encAt m)→m.length≤N+1→AtOf l ⟨nm,vl⟩ m→Below w.heap.size w W→AtSetPost l ⟨nm,vl⟩ w (.returned v) W):=Lib.hid fun v m W h1 h2 h3 h4=>⟨v,m,rfl,h1,by rw [hN];exact h2,h3,h4⟩
 rw [hN] at hl ⊢
 clear hN
 generalize hP:AtSetPost l ⟨nm,vl⟩ w=P at *
 clear hP
 go_enter Tryz.func23,Tryz.ntmps23
 go_wp2_with fail
 go_loopg [7,8,9] (N+1) (fun gk s7 s8 s9 wr=>∃ (k:Nat) (B:Option Addr) (d:Nat) (m:List At) (b:Bool),s7=.slice B m.length d∧s8=.bool b∧s9=.int .i64 k∧k+gk=N+1∧k≤N∧m.length≤k+1∧(b=false→m.length≤k)∧Hid (wr.ownsRow w.heap.size 104 2 (.slice B m.length d) m.length (cellsOf encAt m))∧Hid (AtOf l ⟨nm,vl⟩ m)∧Hid (Below w.heap.size w wr))
 case atStart=>exact ⟨0,none,0,[],_,rfl,rfl,rfl,by omega,Nat.zero_le _,by simp,fun _=>by simp,World.ownsRow_nil _ _ _ _,(fun x hx=>by cases hx),Below.refl _ _⟩
 case round =>
  obtain ⟨k,B,d,m,b,rfl,rfl,rfl,hkg,hkN,hmk,hmb,hO,hA,hB⟩:=hrel
  obtain ⟨wo,rfl⟩:∃ wo:World,wo=wr:=⟨_,rfl⟩
  have hwz:=hB.out.size
  by_cases hlt:k<N
  · have hltI:(k:Int)<(N:Int):=by omega
    have hk2:k<l.length:=by rw [HN.out];exact hlt
    obtain ⟨ba,off,rfl,hba,hc⟩:=H.out.cell encAt_len hk2
    have hx:l[k]? = some l[k]:=List.getElem?_eq_getElem hk2
    have HC:Hid (∀ W,Below w.heap.size w W→W.cell? ⟨ba,off+k*2,none⟩=some (.string l[k].name)∧W.cell? ⟨ba,off+k*2+1,none⟩=some (.string l[k].val)):=Lib.hid fun W hW =>
     ⟨(hW.cell (p:=⟨ba,off+k*2,none⟩) hba).trans (hc k _ hx 0 _ rfl),(hW.cell (p:=⟨ba,off+k*2+1,none⟩) hba).trans (hc k _ hx 1 _ rfl)⟩
    have HIn:Hid (l[k]∈l):=Lib.hid (List.getElem_mem _)
    obtain ⟨c0,c1⟩:=HC.out wo hB.out
    generalize l[k]=x at *
    obtain ⟨xn,xv⟩:=x
    dsimp only at c0 c1 HC
    clear hc hx hk2
    cases hq2:(xn.toList == nm.toList)
    · cases b
      · have hm0:=hmb rfl
        clear hmb
        cases hq1:Op.bytesLess xn.toList nm.toList
        · skip
          go_wp2_with (first
           | (at_builtin;go_loud (refine wpList_append_lies _ rfl (.tmp 29) (.tmp 33) _ (by rfl) w.heap.size 104 i0 _ 2 32 Tryz.underlying31 Hi0.out Hz0.out Hz1.out Hz2.out rfl (by omega) (.slice B m.length d) (m.length) (cellsOf encAt m) (by rfl) (hO.out.alloc _) _ 1 1 (encAt (⟨nm,vl⟩:At)) (by rfl) (by rfl) (by exact World.news_of_block (heap_alloc_new _ _)) (encAt_one2 _) (by omega) (by unfold maxLen;omega) (by omega) (by simp;omega) _ rfl ?_;intro g1 cap1 w1 hown1 hgrow1 hat1 hlt1;have HO1:=Lib.hid hown1;have HB1:Hid (Below w.heap.size w w1):=Lib.hid ((bt hB.out (below_alloc _ _)).grown hgrow1 (bt hB.out (below_alloc _ _)).size (fun j e=>(hO.out.lt j e).1));obtain ⟨x10,x11⟩:=HC.out w1 HB1.out;have hz1:=HB1.out.size;clear hown1 hgrow1 hat1 hlt1))
           | (at_builtin;go_loud (refine wpList_append_lies _ rfl (.tmp 42) (.tmp 47) _ (by rfl) w.heap.size 104 i0 _ 2 32 Tryz.underlying31 Hi0.out Hz0.out Hz1.out Hz2.out rfl (by omega) (.slice (some ⟨g1,0,none⟩) (m.length+1) cap1) (m.length+1) (cellsOf encAt m++encAt (⟨nm,vl⟩:At)) (by rfl) (HO1.out.alloc _) _ 1 1 (encAt (⟨xn,xv⟩:At)) (by rfl) (by rfl) (by exact World.news_of_block (heap_alloc_new _ _)) (encAt_one2 _) (by omega) (by unfold maxLen;omega) (by omega) (by simp;omega) _ rfl ?_;intro g2 cap2 w2 hown2 hgrow2 hat2 hlt2;have HO2:=Lib.hid hown2;have HB2:Hid (Below w.heap.size w w2):=Lib.hid ((bt HB1.out (below_alloc _ _)).grown hgrow2 (bt HB1.out (below_alloc _ _)).size (fun j e=>(HO1.out.lt j e).1));obtain ⟨x20,x21⟩:=HC.out w2 HB2.out;have hz2:=HB2.out.size;clear hown2 hgrow2 hat2 hlt2)))
          go_roundg (gk - 1)
          case measure=>omega
          case rel=>exact ⟨k+1,_,_,((m++[(⟨nm,vl⟩:At)])++[(⟨xn,xv⟩:At)]),true,by rw [List.length_append,List.length_append];rfl,rfl,by go_num,by omega,by omega,by simp;omega,(fun h=>by cases h),own_ap HO2.out (by simp) (by simp [cellsOf]),(AtOf.snoc (hA.out.snoc (Or.inr rfl)) (Or.inl HIn.out)),HB2.out⟩
        · skip
          go_wp2_with (first
           | (at_builtin;go_loud (refine wpList_append_lies _ rfl (.tmp 42) (.tmp 47) _ (by rfl) w.heap.size 104 i0 _ 2 32 Tryz.underlying31 Hi0.out Hz0.out Hz1.out Hz2.out rfl (by omega) (.slice B m.length d) (m.length) (cellsOf encAt m) (by rfl) (hO.out.alloc _) _ 1 1 (encAt (⟨xn,xv⟩:At)) (by rfl) (by rfl) (by exact World.news_of_block (heap_alloc_new _ _)) (encAt_one2 _) (by omega) (by unfold maxLen;omega) (by omega) (by simp;omega) _ rfl ?_;intro g2 cap2 w2 hown2 hgrow2 hat2 hlt2;have HO2:=Lib.hid hown2;have HB2:Hid (Below w.heap.size w w2):=Lib.hid ((bt hB.out (below_alloc _ _)).grown hgrow2 (bt hB.out (below_alloc _ _)).size (fun j e=>(hO.out.lt j e).1));obtain ⟨x20,x21⟩:=HC.out w2 HB2.out;have hz2:=HB2.out.size;clear hown2 hgrow2 hat2 hlt2)))
          go_roundg (gk - 1)
          case measure=>omega
          case rel=>exact ⟨k+1,_,_,(m++[(⟨xn,xv⟩:At)]),false,by rw [List.length_append];rfl,rfl,by go_num,by omega,by omega,by simp;omega,(fun _=>by simp;omega),own_ap HO2.out (by simp) (by simp [cellsOf]),(AtOf.snoc hA.out (Or.inl HIn.out)),HB2.out⟩
      · clear hmb
        go_wp2_with (first
         | (at_builtin;go_loud (refine wpList_append_lies _ rfl (.tmp 42) (.tmp 47) _ (by rfl) w.heap.size 104 i0 _ 2 32 Tryz.underlying31 Hi0.out Hz0.out Hz1.out Hz2.out rfl (by omega) (.slice B m.length d) (m.length) (cellsOf encAt m) (by rfl) (hO.out.alloc _) _ 1 1 (encAt (⟨xn,xv⟩:At)) (by rfl) (by rfl) (by exact World.news_of_block (heap_alloc_new _ _)) (encAt_one2 _) (by omega) (by unfold maxLen;omega) (by omega) (by simp;omega) _ rfl ?_;intro g2 cap2 w2 hown2 hgrow2 hat2 hlt2;have HO2:=Lib.hid hown2;have HB2:Hid (Below w.heap.size w w2):=Lib.hid ((bt hB.out (below_alloc _ _)).grown hgrow2 (bt hB.out (below_alloc _ _)).size (fun j e=>(hO.out.lt j e).1));obtain ⟨x20,x21⟩:=HC.out w2 HB2.out;have hz2:=HB2.out.size;clear hown2 hgrow2 hat2 hlt2)))
        go_roundg (gk - 1)
        case measure=>omega
        case rel=>exact ⟨k+1,_,_,(m++[(⟨xn,xv⟩:At)]),true,by rw [List.length_append];rfl,rfl,by go_num,by omega,by omega,by simp;omega,(fun h=>by cases h),own_ap HO2.out (by simp) (by simp [cellsOf]),(AtOf.snoc hA.out (Or.inl HIn.out)),HB2.out⟩
    · cases b
      · have hm0:=hmb rfl
        clear hmb
        cases hq1:Op.bytesLess xn.toList nm.toList
        · skip
          go_wp2_with (first
           | (at_builtin;go_loud (refine wpList_append_lies _ rfl (.tmp 29) (.tmp 33) _ (by rfl) w.heap.size 104 i0 _ 2 32 Tryz.underlying31 Hi0.out Hz0.out Hz1.out Hz2.out rfl (by omega) (.slice B m.length d) (m.length) (cellsOf encAt m) (by rfl) (hO.out.alloc _) _ 1 1 (encAt (⟨nm,vl⟩:At)) (by rfl) (by rfl) (by exact World.news_of_block (heap_alloc_new _ _)) (encAt_one2 _) (by omega) (by unfold maxLen;omega) (by omega) (by simp;omega) _ rfl ?_;intro g1 cap1 w1 hown1 hgrow1 hat1 hlt1;have HO1:=Lib.hid hown1;have HB1:Hid (Below w.heap.size w w1):=Lib.hid ((bt hB.out (below_alloc _ _)).grown hgrow1 (bt hB.out (below_alloc _ _)).size (fun j e=>(hO.out.lt j e).1));obtain ⟨x10,x11⟩:=HC.out w1 HB1.out;have hz1:=HB1.out.size;clear hown1 hgrow1 hat1 hlt1)))
          go_roundg (gk - 1)
          case measure=>omega
          case rel=>exact ⟨k+1,_,_,(m++[(⟨nm,vl⟩:At)]),true,by rw [List.length_append];rfl,rfl,by go_num,by omega,by omega,by simp;omega,(fun h=>by cases h),own_ap HO1.out (by simp) (by simp [cellsOf]),(hA.out.snoc (Or.inr rfl)),HB1.out⟩
        · skip
          go_wp2
          go_roundg (gk - 1)
          case measure=>omega
          case rel=>exact ⟨k+1,_,_,m,false,rfl,rfl,by go_num,by omega,by omega,by omega,(fun _=>by omega),hO.out,hA.out,hB.out⟩
      · clear hmb
        go_wp2
        go_roundg (gk - 1)
        case measure=>omega
        case rel=>exact ⟨k+1,_,_,m,true,rfl,rfl,by go_num,by omega,by omega,by omega,(fun h=>by cases h),hO.out,hA.out,hB.out⟩
  · obtain rfl:k=N:=by omega
    cases b
    · have hm0:=hmb rfl
      go_wp2_with (at_builtin;go_loud (refine wpList_append_lies _ rfl (.tmp 51) (.tmp 55) _ (by rfl) w.heap.size 104 i0 _ 2 32 Tryz.underlying31 Hi0.out Hz0.out Hz1.out Hz2.out rfl (by omega) (.slice B m.length d) m.length (cellsOf encAt m) (by rfl) (hO.out.alloc _) _ 1 1 (encAt (⟨nm,vl⟩:At)) (by rfl) (by rfl) (by exact World.news_of_block (heap_alloc_new _ _)) (encAt_one2 _) (by omega) (by unfold maxLen;omega) (by omega) (by simp;omega) _ rfl ?_;intro g2 cap2 w2 hown2 hgrow2 hat2 hlt2;have HO2:=Lib.hid hown2;have HB2:Hid (Below w.heap.size w w2):=Lib.hid ((bt hB.out (below_alloc _ _)).grown hgrow2 (bt hB.out (below_alloc _ _)).size (fun j e=>(hO.out.lt j e).1));clear hown2 hgrow2 hat2 hlt2))
      exact HEnd.out _ (m++[(⟨nm,vl⟩:At)]) _ (by have:=own_ap (l2:=m++[(⟨nm,vl⟩:At)]) (enc:=encAt) HO2.out (by simp) (by simp [cellsOf]);rw [List.length_append] at this ⊢;exact this) (by simp;omega) (hA.out.snoc (Or.inr rfl)) HB2.out
    · go_wp2
      exact HEnd.out _ m _ hO.out (by omega) hA.out hB.out
end
section
open Go.RowKit
abbrev ARow:=TRow (α:=At) 104 2 encAt
abbrev AtS (x:At):Prop:=x.val.size≤200∧x.name.size≤200
def SomeAts (hi:Nat) (w0:World) (b n p d:Nat) (w:World) (e:Ending) (w':World):Prop:=∃ v l,e=.returned v∧l.length≤hi∧(∀ x∈l,AtS x)∧ARow w0 b n p d w v l w'
theorem ARow.set {w0 w W W1:World} {b n p d:Nat} {v v':Value} {l m:List At} (h:ARow w0 b n p d w v l W) (hown:W1.ownsRow W.heap.size 104 2 v' m.length (cellsOf encAt m)) (hb:Below W.heap.size W W1):ARow w0 b n p d w v' m W1 :=
 ⟨h.nx.grownR (grown_below hb none) (fun _ e=>by cases e),own_base hown h.nx.gr.size,h.lo⟩
theorem ats_small {l m:List At} {y:At} (h:∀ x∈l,AtS x) (hy:AtS y) (hm:AtOf l y m):∀ x∈m,AtS x:=fun x hx=>by
 rcases hm x hx with h1 | rfl
 · exact h x h1
 · exact hy
set_option maxHeartbeats 8000000 in
theorem Attrs_any {w0 w:World} {b n p d:Nat} (h:TSt w0 b n p d w) (h3:p+d≤90000) :
 Calls Tryz.prog 61 #[.pointer (some ⟨b,0,none⟩)] w (SomeAts 3 w0 b n p (d+10) w):=by
 have H:=Lib.hid h
 have hlb:=h.lt
 have hws:=h.size
 clear h
 unfold SomeAts
 go_enter Tryz.func61,Tryz.ntmps61
 go_wp2_with fail
 (with_reducible refine (Next_t (n:=n) (p:=p) _ H.out (by omega) (by omega) (by omega)).mono ?_)
 rintro e w1 ⟨r,r0,r1,rfl,hT1⟩
 obtain ⟨rn,rfl⟩:=Int.eq_ofNat_of_zero_le r0
 have hrn:rn≤3:=by omega
 have HT1:=Lib.hid (TRow.go (TRow.start (T:=104) (kk:=2) (enc:=encAt) H.out) hT1)
 clear hT1 r0 r1
 go_wp2_with fail
 go_loopg [3,4] 4 (fun gk s3 s4 wr=>∃ (k:Nat) (A:Option Addr) (c:Nat) (l:List At) (D:Nat),s3=.slice A l.length c∧s4=.int .i64 k∧k+1≤gk∧k≤3∧l.length+k≤3∧D+2*k≤d+10∧Hid (∀ x∈l,AtS x)∧Hid (ARow w0 b n p D w (.slice A l.length c) l wr))
 case atStart=>exact ⟨rn,none,0,[],d+1,rfl,rfl,by omega,hrn,by simp;omega,by omega,(fun x hx=>by cases hx),HT1.out⟩
 case round =>
  obtain ⟨k,A,c,l,D,rfl,rfl,hkg,hk2,hlk,hD,hZ,hR⟩:=hrel
  by_cases hk:0<k
  · have hkI:(0:Int)<(k:Int):=by omega
    go_wp2_with fail
    (with_reducible refine (One_b (n:=n) (p:=p) 60 _ _ _ _ _ hR.out.nx.st (by decide) (by simp) (by decide) (by decide) (by simp) (by omega)).mono ?_)
    rintro e w2 ⟨s1,hs1,rfl,hT2⟩
    have HR2:=Lib.hid (hR.out.go hT2)
    clear hT2
    go_wp2_with fail
    (with_reducible refine (One_b (n:=n) (p:=p) 60 _ _ _ _ _ HR2.out.nx.st (by decide) (by simp) (by decide) (by decide) (by simp) (by omega)).mono ?_)
    rintro e w3 ⟨s2,hs2,rfl,hT3⟩
    have HR3:=Lib.hid (HR2.out.go hT3)
    clear hT3
    go_wp2_with fail
    refine (RSet_at A c l s1 s2 w3 (by omega) (RowAt.of_own HR3.out.own)).mono ?_
    rintro e w4 ⟨v4,m,rfl,hown4,hml,hat4,hb4⟩
    obtain ⟨A4,c4,rfl⟩:=own_slice hown4
    have HR4:=Lib.hid (ARow.set HR3.out hown4 hb4)
    have HZ4:=Lib.hid (ats_small hZ.out (y:=⟨s1,s2⟩) ⟨by show s2.size≤200;omega,by show s1.size≤200;omega⟩ hat4)
    clear hown4 hb4 hat4
    go_wp2
    go_roundg (gk - 1)
    case measure=>omega
    case rel=>exact ⟨k - 1,A4,c4,m,D+2,rfl,by rw [show ((k - 1:Nat):Int)=(k:Int) - 1 from by omega],by omega,by omega,by omega,by omega,HZ4.out,HR4.out⟩
  · obtain rfl:k=0:=by omega
    go_wp2
    go_ret
    exact ⟨_,l,rfl,by omega,hZ.out,hR.out.more (by omega)⟩
end
section
open Go.RowKit
theorem Env0.nxW {w0 w w':World} {b n p d:Nat} (h:Env0 w) (hT:TNx w0 b n p d w w') (hb:nG≤b):Env0 w':=by
 have h1:=h.size
 refine h.keep (B:=nG) ⟨hT.gr.os,hT.gr.tape,hT.gr.output,hT.gr.size,fun k hk=>hT.gr.block k (by omega) (fun e=>?_)⟩ (Nat.le_refl _)
 have:=Option.some.inj e
 omega
theorem TNx.belowW {w0 W W1 W2:World} {b n p d:Nat} (h:TNx w0 b n p d W W1) (hb:Below W1.heap.size W1 W2):TNx w0 b n p d W W2:=h.grownR (grown_below hb none) (fun _ e=>by cases e)
abbrev treeT:TypeId:=30
structure DvY (K:Int) (x:Dv):Prop where
 nam:x.nam.size≤200
 og:x.og.size≤200
 sb:x.sb.size≤200
 dr:x.dr.size≤200
 al:x.al.size≤200
 ats:∀ y∈x.ats.l,AtS y
 len:x.ats.l.length≤4
 ix1:1≤x.ix
 ix2:x.ix≤K
 pa1:0≤x.pa
 pa2:x.pa≤K
 nb1:0≤x.nb
 nb2:x.nb≤100
structure TrW (K:Int) (ds:List Dv):Prop where
 wf:WfT (dsD ds)
 dv:∀ d∈ds,DvY K d
theorem DvY.mono {K K':Int} {x:Dv} (h:DvY K x) (hk:K≤K'):DvY K' x:=⟨h.nam,h.og,h.sb,h.dr,h.al,h.ats,h.len,h.ix1,Int.le_trans h.ix2 hk,h.pa1,Int.le_trans h.pa2 hk,h.nb1,h.nb2⟩
theorem TrW.nil {K:Int}:TrW K []:=⟨trivial,fun d hd=>by cases hd⟩
theorem mem_insert {α:Type} {l:List α} {x y:α} {m:Nat} (h:y∈l.take m++x :: l.drop m):y=x∨y∈l:=by
 rcases List.mem_append.1 h with h | h
 · exact Or.inr (List.mem_of_mem_take h)
 · rcases List.mem_cons.1 h with h | h
   · exact Or.inl h
   · exact Or.inr (List.mem_of_mem_drop h)
end
section
open Go.RowKit
abbrev hpT:TypeId:=99
def helpL:List Hp:=[⟨⟨#[112,114,111,98,101,32,115,100,42]⟩,⟨#[111,110,101,32,116,119,111,59,73,68,95,65,61,49,59,73,68,95,66,61,120,32,121]⟩,false,2⟩,⟨⟨#[112,114,111,98,101,32,42]⟩,⟨#[73,68,95,65,61,55]⟩,true,1⟩,⟨⟨#[115,99,97,110,32,63]⟩,⟨#[73,68,95,70,83,95,85,85,73,68,61,117,57,59,68,82,73,86,69,82,61,110,111,59,98,97,100]⟩,false,3⟩,⟨⟨#[101,110,118]⟩,⟨#[73,68,95,66,61,50,59,73,68,95,67,61,51]⟩,false,0⟩,⟨⟨#[115,108,111,119,42]⟩,⟨#[108,97,116,101]⟩,false,50⟩,⟨⟨#[97,99,116,32,42,124,108,111,103]⟩,⟨#[100,111,110,101]⟩,false,1⟩]
def helpA:Array Value:=#[.string ⟨#[112,114,111,98,101,32,115,100,42]⟩,.string ⟨#[111,110,101,32,116,119,111,59,73,68,95,65,61,49,59,73,68,95,66,61,120,32,121]⟩,.bool false,.int .i64 2,.string ⟨#[112,114,111,98,101,32,42]⟩,.string ⟨#[73,68,95,65,61,55]⟩,.bool true,.int .i64 1,.string ⟨#[115,99,97,110,32,63]⟩,.string ⟨#[73,68,95,70,83,95,85,85,73,68,61,117,57,59,68,82,73,86,69,82,61,110,111,59,98,97,100]⟩,.bool false,.int .i64 3,.string ⟨#[101,110,118]⟩,.string ⟨#[73,68,95,66,61,50,59,73,68,95,67,61,51]⟩,.bool false,.int .i64 0,.string ⟨#[115,108,111,119,42]⟩,.string ⟨#[108,97,116,101]⟩,.bool false,.int .i64 50,.string ⟨#[97,99,116,32,42,124,108,111,103]⟩,.string ⟨#[100,111,110,101]⟩,.bool false,.int .i64 1]
theorem helpA_is:helpA.toList=cellsOf encHp helpL:=rfl
theorem help_ok:∀ x∈helpL,0≤x.ticks∧x.out.size≤256∧x.cmd.size≤256:=by decide
theorem hpInfo:(Tryz.prog.info? hpT).map (fun i=>(i.zero,i.size,i.bytes))=some (some (.agg #[.string ⟨#[]⟩,.string ⟨#[]⟩,.bool false,.int .i64 0]),4,48):=by kernel_rfl
theorem encHp_one (t:Hp):∀ u∈encHp t,u.oneCell'=true:=by simp [encHp,Value.oneCell']
abbrev HRow:=TRow (α:=Hp) hpT 4 encHp
def SomeHps (w0:World) (b n p d:Nat) (w:World) (e:Ending) (w':World):Prop:=∃ v l z,e=.returned (.tuple #[v,.int .i64 z])∧l.length≤6∧(∀ x∈l,x∈helpL)∧1≤z∧z≤60∧HRow w0 b n p d w v l w'
theorem hp_cells {W:World} {HA:Option Addr} {l:List Hp} (h:RowAt W W.heap.size HA 4 l.length (cellsOf encHp l)) {k:Nat} (hk:k<l.length):∃ ba off,HA=some ⟨ba,off,none⟩∧ba<W.heap.size∧W.cell? ⟨ba,off+k*4,none⟩=some (.string l[k].cmd)∧W.cell? ⟨ba,off+k*4+1,none⟩=some (.string l[k].out)∧W.cell? ⟨ba,off+k*4+2,none⟩=some (.bool l[k].fails)∧W.cell? ⟨ba,off+k*4+3,none⟩=some (.int .i64 l[k].ticks):=by
 obtain ⟨ba,off,e,hb,hc⟩:=h.cell (enc:=encHp) (fun _=>rfl) hk
 have h0:=hc k l[k] (List.getElem?_eq_getElem hk) 0 _ rfl
 have h1:=hc k l[k] (List.getElem?_eq_getElem hk) 1 _ rfl
 have h2:=hc k l[k] (List.getElem?_eq_getElem hk) 2 _ rfl
 have h3:=hc k l[k] (List.getElem?_eq_getElem hk) 3 _ rfl
 rw [←Nat.add_assoc] at h0 h1 h2 h3
 exact ⟨ba,off,e,hb,h0,h1,h2,h3⟩
set_option maxHeartbeats 8000000 in
theorem Helpers_any {w0 w:World} {b n p d:Nat} (h:TSt w0 b n p d w) (h3:p+d≤90000) :
 Calls Tryz.prog 19 #[.pointer (some ⟨b,0,none⟩)] w (SomeHps w0 b n p (d+10) w):=by
 have hws:=h.size
 have hlb:=h.lt
 obtain ⟨w1,hw1⟩:∃ w1,w.alloc (.cells #[.string ⟨#[112,114,111,98,101,32,115,100,42]⟩,.string ⟨#[111,110,101,32,116,119,111,59,73,68,95,65,61,49,59,73,68,95,66,61,120,32,121]⟩,.bool false,.int .i64 2,.string ⟨#[112,114,111,98,101,32,42]⟩,.string ⟨#[73,68,95,65,61,55]⟩,.bool true,.int .i64 1,.string ⟨#[115,99,97,110,32,63]⟩,.string ⟨#[73,68,95,70,83,95,85,85,73,68,61,117,57,59,68,82,73,86,69,82,61,110,111,59,98,97,100]⟩,.bool false,.int .i64 3,.string ⟨#[101,110,118]⟩,.string ⟨#[73,68,95,66,61,50,59,73,68,95,67,61,51]⟩,.bool false,.int .i64 0,.string ⟨#[115,108,111,119,42]⟩,.string ⟨#[108,97,116,101]⟩,.bool false,.int .i64 50,.string ⟨#[97,99,116,32,42,124,108,111,103]⟩,.string ⟨#[100,111,110,101]⟩,.bool false,.int .i64 1] hpT)=w1:=⟨_,rfl⟩
 have hb1:Below w.heap.size w w1:=by rw [←hw1];exact below_alloc _ _
 have hr1:w1.heap[w.heap.size]? = some (.cells helpA hpT (0,0)):=by rw [←hw1];exact heap_alloc_new _ _
 obtain ⟨HA,hHA⟩:∃ HA:Option Addr,some ⟨w.heap.size,0,none⟩=HA:=⟨_,rfl⟩
 have HRw:Hid (RowN w1 HA 4 helpL.length (cellsOf encHp helpL)):=Lib.hid (by rw [←hHA];exact ⟨⟨rfl,fun _=>⟨w.heap.size,0,rfl,blk_lt' hr1,fun j u hu=>by rw [Nat.zero_add];exact cellOf hr1 (by rw [←Array.getElem?_toList,helpA_is];exact hu)⟩⟩,fun a e=>by injection e with e;rw [←e];exact ⟨rfl,blk_lt' hr1⟩⟩)
 have HAb:Hid (∀ a,HA=some a→a.block≠b):=Lib.hid (fun a e=>by rw [←hHA] at e;injection e with e;rw [←e];show w.heap.size≠b;omega)
 have HT1:Hid (HRow w0 b n p d w1 (.slice none 0 0) [] w1):=Lib.hid (TRow.start (h.below hb1))
 have HEnd:Hid (∀ (d':Nat) (v:Value) (l:List Hp) (W:World),HRow w0 b n p d' w1 v l W→HRow w0 b n p d' w v l W):=Lib.hid (fun d' v l W hR=>⟨hR.nx.of_below hb1,own_base hR.own hb1.size,hws⟩)
 have HW1:=Lib.hid hw1
 have HHA:=Lib.hid hHA
 clear hb1 hr1 hw1 hHA h
 obtain ⟨i0,hi0,hz0,hz1,hz2⟩:=info_parts hpInfo
 have Hi0:=Lib.hid hi0
 have Hz0:=Lib.hid hz0
 have Hz1:=Lib.hid hz1
 have Hz2:=Lib.hid hz2
 clear hi0 hz0 hz1 hz2
 unfold SomeHps
 go_enter Tryz.func19,Tryz.ntmps19
 go_upto_region 2 with fail
 rw [HHA.out,HW1.out]
 go_wp2_with fail
 go_loopg [5,6] 7 (fun gk s5 s6 wr=>∃ (k:Nat) (v:Value) (l:List Hp),v=s5∧s6=.int .i64 k∧k+gk=7∧k≤6∧l.length≤k∧Hid (∀ x∈l,x∈helpL)∧Hid (HRow w0 b n p (d+k) w1 v l wr))
 case atStart=>exact ⟨0,_,[],rfl,rfl,rfl,by omega,by simp,Lib.hid (fun x hx=>by cases hx),HT1.out⟩
 case round =>
 obtain ⟨k,v,l,rfl,rfl,hkg,hk6,hlk,HM,HR⟩:=hrel
 by_cases hlt:k<6
 · have hltI:(k:Int)<6:=by omega
   go_wp2_with fail
   (with_reducible refine (Next_t (n:=n) (p:=p) _ HR.out.nx.st (by omega) (by omega) (by omega)).mono ?_)
   rintro e w2 ⟨r,r0,r1,rfl,hT⟩
   have HR2:=Lib.hid (HR.out.go hT)
   clear hT
   by_cases hr:0<r
   · have hk6':k<helpL.length:=by show k<6;exact hlt
     obtain ⟨ba,off,rfl,hba,x0,x1,x2,x3⟩:=hp_cells (HRw.out.grown HR2.out.nx.gr (fun a ha q=>HAb.out a ha (Option.some.inj q))).row hk6'
     have HMem:Hid (helpL[k]∈helpL):=Lib.hid (List.getElem_mem hk6')
     generalize helpL[k]=x at *
     have HS2:Hid (∀ y∈l++[x],y∈helpL):=Lib.hid (fun y hy=>by
      rcases List.mem_append.1 hy with hy | hy
      · exact HM.out y hy
      · rw [List.mem_singleton.1 hy];exact HMem.out)
     have hw2:=HR2.out.nx.gr.size
     clear hk6'
     go_wp2_with (refine wpList_append_lies _ rfl _ _ _ (by rfl) w1.heap.size hpT i0 _ 4 48 Tryz.underlying35 Hi0.out Hz0.out Hz1.out Hz2.out rfl (by omega) v l.length (cellsOf encHp l) (by rfl) (HR2.out.alloc _).own _ 1 1 (encHp x) (by rfl) (by rfl) (by exact World.news_of_block (B:=w2.heap.size) (heap_alloc_new _ _)) (encHp_one _) (by omega) (by unfold maxLen;omega) (by omega) (by simp;omega) _ rfl ?_;intro g2 cap w3 hown2 hgrow2 hat2 hlt2)
     have HR3:=Lib.hid ((HR2.out.alloc _).snoc hown2 hgrow2)
     clear hown2 hgrow2 hat2
     go_wp2
     go_roundg (gk - 1)
     case measure=>omega
     case rel=>exact ⟨k+1,_,l++[x],rfl,by go_num,by omega,by omega,by simp;omega,HS2,HR3⟩
   · go_wp2
     go_roundg (gk - 1)
     case measure=>omega
     case rel=>exact ⟨k+1,v,l,rfl,by go_num,by omega,by omega,by omega,HM,HR2⟩
 · obtain rfl:k=6:=by omega
   go_wp2_with fail
   (with_reducible refine (Next_t (n:=n) (p:=p) _ HR.out.nx.st (by omega) (by omega) (by omega)).mono ?_)
   rintro e w2 ⟨r,r0,r1,rfl,hT⟩
   have HR2:=Lib.hid (HR.out.go hT)
   clear hT
   go_wp2
   refine bodyPost_ret (v:=.tuple #[v,.int .i64 (1+r)]) (by simp [results,Tryz.results19,go_sem, *]) rfl ?_
   exact ⟨v,l,1+r,rfl,hlk,HM.out,by omega,by omega,HEnd.out _ _ _ _ (HR2.out.more (by omega))⟩
def SomeIx (w0:World) (b n p d:Nat) (w:World) (e:Ending) (w':World):Prop:=∃ z:Int,e=.returned (.int .i64 z) ∧ -1≤z∧z≤1000∧TNx w0 b n p d w w'
set_option maxHeartbeats 8000000 in
theorem Some_any {w0 w:World} {b n p d:Nat} (h:TSt w0 b n p d w) (h3:p+d≤90000) (A:Option Addr) (c:Nat) (ds:List Dv) (hD:TrN w A ds) (hF:From w0.heap.size A) (hz:∀ x∈ds,DvY 1000 x) :
 Calls Tryz.prog 18 #[.pointer (some ⟨b,0,none⟩),trV A ds c] w (SomeIx w0 b n p (d+3) w):=by
 have hlb:=h.lt
 have hws:=h.size
 have hlen:=hD.len
 obtain ⟨w1,hw1⟩:∃ w1,w.alloc (.cells #[.slice A ds.length c] treeT)=w1:=⟨_,rfl⟩
 have hb1:Below w.heap.size w w1:=by rw [←hw1];exact below_alloc _ _
 have hr1:w1.heap[w.heap.size]? = some (.cells #[.slice A ds.length c] treeT (0,0)):=by rw [←hw1];exact heap_alloc_new _ _
 have H1:=Lib.hid (h.below hb1)
 have HD1:=Lib.hid (hD.keep hb1).row
 have HFr:=Lib.hid hF
 have HZ:=Lib.hid hz
 have HEnd:Hid (∀ (D:Nat) (z:Int) (W:World),D≤d+3→TNx w0 b n p D w1 W → -1≤z→z≤1000→SomeIx w0 b n p (d+3) w (.returned (.int .i64 z)) W):=Lib.hid fun D z W hD hT h1 h2=>⟨z,rfl,h1,h2,(hT.of_below hb1).more hD⟩
 have HR1:=Lib.hid hr1
 have HW1:=Lib.hid hw1
 have hlW:w.heap.size<w1.heap.size:=blk_lt' hr1
 clear hD hF hz h hb1 hr1 hw1
 unfold trV
 obtain ⟨N,hN⟩:∃ N,ds.length=N:=⟨_,rfl⟩
 have HN:=Lib.hid hN
 rw [hN] at hlen HR1 HW1 ⊢
 clear hN
 go_enter Tryz.func18,Tryz.ntmps18
 go_upto_region 1 with fail
 rw [HW1.out]
 have t0:=cellOf (j:=0) HR1.out rfl
 by_cases h0:N=0
 · subst h0
   go_wp2_with fail
   (with_reducible refine (Next_t (n:=n) (p:=p) _ H1.out (by omega) (by omega) (by omega)).mono ?_)
   rintro e w2 ⟨r,r0,r1,rfl,hT⟩
   go_wp2
   go_ret
   exact HEnd.out _ _ _ (by omega) hT (by omega) (by omega)
 · have hkp:(0:Int)<(N:Int):=by omega
   go_wp2_with fail
   (with_reducible refine (Next_t (n:=n) (p:=p) _ H1.out (by omega) (by omega) (by omega)).mono ?_)
   rintro e w2 ⟨r8,r80,r81,rfl,hT⟩
   have HT2:=Lib.hid hT
   have hl2:=Nat.lt_of_lt_of_le hlW hT.gr.size
   have HD2:=Lib.hid (HD1.out.grown hT.gr (fun a ha e=>by have:=HFr.out a ha;have:=Option.some.inj e;omega))
   have HTc:=Lib.hid (hT.blk HR1.out (by omega))
   clear hT
   by_cases hr:0<r8
   · have t1:=cellOf (j:=0) HTc.out rfl
     obtain ⟨ba,off,rfl,hba,hcx⟩:=HD2.out.row.cell encDv_len (by rw [HN.out];omega)
     obtain ⟨rr,r0,r1,hNx⟩:=Next_fix (n:=n) (p:=p) (N:Int) HT2.out.st (by omega) (by omega) (by omega)
     obtain ⟨rn,rfl⟩:=Int.eq_ofNat_of_zero_le r0
     have hrn:rn<ds.length:=by rw [HN.out];omega
     have hcx0:=hcx rn ds[rn] (List.getElem?_eq_getElem hrn) 0 _ rfl
     rw [Nat.add_zero] at hcx0
     have hyz:=HZ.out ds[rn] (List.getElem_mem hrn)
     have hy1:=hyz.ix1
     have hy2:=hyz.ix2
     generalize ds[rn].ix=yi at *
     have HFk:=Lib.hid (HFr.out _ rfl)
     have hbn:ba≠b:=by have:=HFk.out;have h2:(⟨ba,off,none⟩:Addr).block=ba:=rfl;omega
     have HNx:=Lib.hid hNx
     have HX0:=Lib.hid hcx0
     have hrk:(rn:Int)<(N:Int):=r1
     clear hcx hrn hNx hyz t0
     obtain ⟨wd,hwd⟩:∃ wd,w2.drew=wd:=⟨_,rfl⟩
     have HBd:Hid (Below w2.heap.size w2 wd):=Lib.hid (by rw [←hwd];exact (Below.refl _ _).drew)
     have HWd:=Lib.hid hwd
     clear hwd
     go_upto_region 3 with fail
     go_region_with (go_at_call 13;go_loud (rw [HWd.out]);go_loud ((with_reducible refine (HNx.out _ HBd.out).mono ?_));rintro e w9 ⟨rfl,hT⟩;have HT9:=Lib.hid ((HT2.out.belowW HBd.out).trans hT);have t9:=cellOf (j:=0) (hT.blk ((HBd.out.block _ (blk_lt' HTc.out)).trans HTc.out) (by omega)) rfl;have x9:=(hT.cell ba (off+rn*10) (Nat.lt_of_lt_of_le hba HBd.out.size) hbn).trans ((HBd.out.cell (p:=⟨ba,off+rn*10,none⟩) hba).trans HX0.out);clear hT)
     all_goals
      go_wp2
      go_ret
      exact HEnd.out _ _ _ (by omega) HT9.out (by omega) (by omega)
   · go_wp2_with fail
     (with_reducible refine (Next_t (n:=n) (p:=p) _ HT2.out.st (by omega) (by omega) (by omega)).mono ?_)
     rintro e w3 ⟨r,r0,r1,rfl,hT⟩
     go_wp2
     go_ret
     exact HEnd.out _ _ _ (by omega) (HT2.out.trans hT) (by omega) (by omega)
end
section
open Go.RowKit
abbrev attX:TypeId:=104
structure BsS (w0:World) (k:Nat) (W:World) (A:Option Addr) (c:Nat) (l:List At):Prop where
 own:W.ownsRow w0.heap.size attX 2 (.slice A l.length c) l.length (cellsOf encAt l)
 len:l.length≤k
 sz:∀ x∈l,x.name.size≤100∧x.val.size≤300000
 bl:Below w0.heap.size w0 W
theorem BsS.keep {w0 W W1:World} {k:Nat} {A:Option Addr} {c:Nat} {l:List At} (h:BsS w0 k W A c l) (hb:Below W.heap.size W W1):BsS w0 k W1 A c l:=⟨own_below2 h.own hb,h.len,h.sz,bt h.bl hb⟩
theorem BsS.more {w0 W:World} {k k':Nat} {A:Option Addr} {c:Nat} {l:List At} (h:BsS w0 k W A c l) (hk:k≤k'):BsS w0 k' W A c l:=⟨h.own,Nat.le_trans h.len hk,h.sz,h.bl⟩
theorem BsS.nil {w0 W:World} (hb:Below w0.heap.size w0 W):BsS w0 0 W none 0 []:=⟨World.ownsRow_nil _ _ _ _,Nat.le_refl _,(fun x hx=>by cases hx),hb⟩
theorem RSet_k {w0 W:World} {k:Nat} {A:Option Addr} {c:Nat} {l:List At} (h:BsS w0 k W A c l) (hk:k≤100) (nm vl:ByteArray) (hn:nm.size≤100) (hv:vl.size≤300000) :
 Calls Tryz.prog 23 #[.slice A l.length c,.string nm,.string vl] W fun e w'=>∃ A' c' m,e=.returned (.slice A' m.length c')∧BsS w0 (k+1) w' A' c' m∧Below W.heap.size W w':=by
 refine (RSet_at A c l nm vl W (by have:=h.len;omega) (RowAt.of_own h.own)).mono ?_
 rintro e w' ⟨v,m,rfl,hown,hml,hat,hb⟩
 obtain ⟨A',c',rfl⟩:=own_slice hown
 refine ⟨A',c',m,rfl,⟨own_base hown h.bl.size,by have:=h.len;omega,fun x hx=>?_,bt h.bl hb⟩,hb⟩
 rcases hat x hx with h1 | rfl
 · exact h.sz x h1
 · exact ⟨hn,hv⟩
def SomeAl (hi:Nat) (w:World) (e:Ending) (w':World):Prop:=∃ A c l,e=.returned (.slice A l.length c)∧BsS w hi w' A c l
theorem itoa_sz (n:Int) (h0 : -9223372036854775808≤n) (h1:n≤9223372036854775807):(bs (Lib.itoa n)).size≤300000:=by
 have:=Lib.itoa_length_le n h0 h1
 rw [size_bs];omega
set_option maxHeartbeats 4000000 in
theorem RBase_any (A:Option Addr) (c:Nat) (ds:List Dv) (n:Int) (w:World) (hE:Env0 w) (h:TrN w A ds) (hl:ds.length≤100) (hz:∀ d∈ds,DvY 1000 d) :
 Calls Tryz.prog 22 #[trV A ds c,.int .i64 n] w (SomeAl 7 w):=by
 obtain ⟨w1,hw1⟩:∃ w1,w.alloc (.cells #[.slice A ds.length c] treeT)=w1:=⟨_,rfl⟩
 have hb1:Below w.heap.size w w1:=by rw [←hw1];exact below_alloc _ _
 have hr1:w1.heap[w.heap.size]? = some (.cells #[.slice A ds.length c] treeT (0,0)):=by rw [←hw1];exact heap_alloc_new _ _
 have HF:=Lib.hid (RFindD_any A c ds n w1 (h.keep hb1))
 have HPl:=Lib.hid (fun (W:World) (hW:Below w.heap.size w W)=>RPlace_any A c ds n W (h.keep hW) hl (fun d hd=>by have:=(hz d hd).og;omega))
 have HNd:=Lib.hid (fun (ix pa:Int) (nam og sb dr al:ByteArray) (kd nb:Int) (A:Option Addr) (n c:Nat) (W:World) (hW:Below w.heap.size w W) (hs:og.size≤1000)=>RNodeV_any ix pa nam og sb dr al kd nb A n c W (hE.go hW) hs)
 have HIt:=Lib.hid (fun (nb:Int) (h1:0≤nb) (h2:nb≤100) (W:World) (hW:Below w.heap.size w W)=>Itoa_any nb (by omega) (by omega) W (hE.go hW))
 unfold trV at HF HPl
 have HZ:=Lib.hid hz
 have HTr:Hid (∀ W:World,Below w1.heap.size w1 W→W.cell? ⟨w.heap.size,0,none⟩=some (.slice A ds.length c)):=Lib.hid fun W hW=>cellOf ((hW.block _ (blk_lt' hr1)).trans hr1) rfl
 have HB1:=Lib.hid hb1
 have HW1:=Lib.hid hw1
 have hlW:w.heap.size<w1.heap.size:=blk_lt' hr1
 have c0:=HTr.out w1 (Below.refl _ _)
 clear hb1 hr1 hw1 h hE hl hz
 unfold trV SomeAl
 obtain ⟨N,hN⟩:∃ N,ds.length=N:=⟨_,rfl⟩
 rw [hN] at HF HPl HTr HW1 c0 ⊢
 clear hN
 go_enter Tryz.func22,Tryz.ntmps22
 go_upto_region 1 with fail
 rw [HW1.out]
 cases hfx:findX ds n with
 | none =>
   rw [hfx] at HF
   unfold RFindP dvV at HF
   dsimp only [Option.getD,Option.isSome] at HF
   go_wp2_with (go_at_call 20;refine HF.out.mono ?_;rintro e w3 ⟨rfl,hb3⟩)
   go_ret
   exact ⟨none,0,[],rfl,(BsS.nil (bAl (bt HB1.out hb3))).more (Nat.zero_le _)⟩
 | some x =>
   rw [hfx] at HF
   unfold RFindP dvV at HF
   dsimp only [Option.getD,Option.isSome] at HF
   have hzx:=HZ.out x (findX_mem hfx).1
   obtain ⟨ix,pa,nam,og,sb,dr,al,kd,nb,⟨SA,sc,l⟩⟩:=x
   have z1:=hzx.og
   have z2:=hzx.sb
   have z3:=hzx.dr
   have z4:=hzx.al
   have z5:=hzx.nb1
   have z6:=hzx.nb2
   dsimp only at z1 z2 z3 z4 z5 z6 HF
   clear hzx hfx HZ
   generalize l.length=ln at *
   go_upto_region 4 with (go_at_call 20;refine HF.out.mono ?_;rintro e w3 ⟨rfl,hb3⟩;have HB3:=Lib.hid hb3;clear hb3)
   obtain ⟨w4,hw4⟩:∃ w4,w3.alloc (.cells #[.int .i64 ix,.int .i64 pa,.string nam,.string og,.string sb,.string dr,.string al,.int .i64 kd,.int .i64 nb,.slice SA ln sc] devT)=w4:=⟨_,rfl⟩
   have hb4:Below w1.heap.size w1 w4:=by rw [←hw4];exact bAl HB3.out
   have hq4:w4.heap[w3.heap.size]? = some (.cells #[.int .i64 ix,.int .i64 pa,.string nam,.string og,.string sb,.string dr,.string al,.int .i64 kd,.int .i64 nb,.slice SA ln sc] devT (0,0)):=by rw [←hw4];exact heap_alloc_new _ _
   have HQ:=Lib.hid (fun (W:World) (hW:Below w4.heap.size w4 W)=>(box10 ((hW.block _ (blk_lt' hq4)).trans hq4)).1)
   have hlq:w3.heap.size<w4.heap.size:=blk_lt' hq4
   have hl4:w.heap.size<w4.heap.size:=Nat.lt_of_lt_of_le hlW hb4.size
   have HB4:=Lib.hid hb4
   have HB04:=Lib.hid (bt HB1.out hb4)
   rw [hw4]
   clear hw4 hb4 hq4 c0
   generalize w3.heap.size=q at *
   have c0:=HTr.out w4 HB4.out
   obtain ⟨a0,a1,a2,a3,a4,a5,a6,a7,a8,a9⟩:=HQ.out w4 (Below.refl _ _)
   go_upto_region 10 with (first
    | (go_at_call 21;refine (HPl.out _ HB04.out).mono ?_;rintro e w5 ⟨s5,rfl,hs5,hb5⟩;have H0:=Lib.hid (BsS.nil (w0:=w) (bt HB04.out hb5));have HBa:=Lib.hid hb5;(have hs5':s5.size≤300000:=by omega);clear hb5)
    | (go_at_call 46;refine (HNd.out _ _ _ _ _ _ _ _ _ _ _ _ _ (bt HB04.out HBe.out) (by omega)).mono ?_;rintro e wn ⟨sn,bn,rfl,hsn,hbn⟩;have H5:=Lib.hid (H4.out.keep hbn);have HBf:=Lib.hid (bt HBe.out hbn);obtain ⟨f0,f1,f2,f3,f4,f5,f6,f7,f8,f9⟩:=HQ.out _ (bt HBe.out hbn);clear hbn)
    | (go_at_call 23;(with_reducible refine (RSet_k H3.out (by decide) _ _ (by decide) (by omega)).mono ?_);rintro e w9 ⟨X4,x4,m4,rfl,h4,hb⟩;have H4:=Lib.hid h4;have HBe:=Lib.hid (bt HBd.out hb);obtain ⟨e0,e1,e2,e3,e4,e5,e6,e7,e8,e9⟩:=HQ.out _ (bt HBd.out hb);clear h4 hb)
    | (go_at_call 23;(with_reducible refine (RSet_k H2.out (by decide) _ _ (by decide) (by omega)).mono ?_);rintro e w8 ⟨X3,x3,m3,rfl,h3,hb⟩;have H3:=Lib.hid h3;have HBd:=Lib.hid (bt HBc.out hb);obtain ⟨d0,d1,d2,d3,d4,d5,d6,d7,d8,d9⟩:=HQ.out _ (bt HBc.out hb);clear h3 hb)
    | (go_at_call 23;(with_reducible refine (RSet_k H1.out (by decide) _ _ (by decide) (by omega)).mono ?_);rintro e w7 ⟨X2,x2,m2,rfl,h2,hb⟩;have H2:=Lib.hid h2;have HBc:=Lib.hid (bt HBb.out hb);obtain ⟨b0,b1,b2,b3,b4,b5,b6,b7,b8,b9⟩:=HQ.out _ (bt HBb.out hb);clear h2 hb)
    | (go_at_call 23;refine (RSet_k H0.out (by decide) _ _ (by decide) (by omega)).mono ?_;rintro e w6 ⟨X1,x1,m1,rfl,h1,hb⟩;have H1:=Lib.hid h1;have HBb:=Lib.hid (bt HBa.out hb);obtain ⟨b0,b1,b2,b3,b4,b5,b6,b7,b8,b9⟩:=HQ.out _ (bt HBa.out hb);clear h1 hb))
   clear a0 a1 a2 a3 a4 a5 a6 a7 a8 a9 b0 b1 b2 b3 b4 b5 b6 b7 b8 b9 d0 d1 d2 d3 d4 d5 d6 d7 d8 d9 e0 e1 e2 e3 e4 e5 e6 e7 e8 e9
   by_cases hk:kd=4
   · subst hk
     cases bn with
     | true =>
       go_wp2_with (first
        | (go_at_call 34;refine (HIt.out nb z5 z6 _ (bt HB04.out HBg.out)).mono ?_;rintro e wi ⟨rfl,hbi⟩;have H6i:=Lib.hid (H6.out.keep hbi);have HBh:=Lib.hid (bt HBg.out hbi);(have hiz:=itoa_sz nb (by omega) (by omega));obtain ⟨u0,u1,u2,u3,u4,u5,u6,u7,u8,u9⟩:=HQ.out _ (bt HBg.out hbi);clear hbi)
        | (go_at_call 23;(with_reducible refine (RSet_k H7.out (by decide) _ _ (by decide) (by omega)).mono ?_);rintro e wz ⟨X8,x8,m8,rfl,h8,hb⟩;have H8:=Lib.hid h8;clear h8 hb)
        | (go_at_call 23;(with_reducible refine (RSet_k H6i.out (by decide) _ _ (by decide) hiz).mono ?_);rintro e wy ⟨X7,x7,m7,rfl,h7,hb⟩;have H7:=Lib.hid h7;obtain ⟨v0,v1,v2,v3,v4,v5,v6,v7,v8,v9⟩:=HQ.out _ (bt HBh.out hb);clear h7 hb)
        | (go_at_call 23;(with_reducible refine (RSet_k H5.out (by decide) _ _ (by decide) (by omega)).mono ?_);rintro e wg ⟨X6,x6,m6,rfl,h6,hb⟩;have H6:=Lib.hid h6;have HBg:=Lib.hid (bt HBf.out hb);obtain ⟨g0,g1,g2,g3,g4,g5,g6,g7,g8,g9⟩:=HQ.out _ (bt HBf.out hb);clear h6 hb))
       go_ret
       first
        | exact ⟨_,_,m8,rfl,H8.out⟩
        | exact ⟨_,_,m7,rfl,H7.out.more (by decide)⟩
        | exact ⟨_,_,m6,rfl,H6.out.more (by decide)⟩
        | exact ⟨_,_,m4,rfl,H5.out.more (by decide)⟩
     | false =>
       go_wp2_with (first
        | (go_at_call 34;refine (HIt.out nb z5 z6 _ (bt HB04.out HBg.out)).mono ?_;rintro e wi ⟨rfl,hbi⟩;have H6i:=Lib.hid (H6.out.keep hbi);have HBh:=Lib.hid (bt HBg.out hbi);(have hiz:=itoa_sz nb (by omega) (by omega));obtain ⟨u0,u1,u2,u3,u4,u5,u6,u7,u8,u9⟩:=HQ.out _ (bt HBg.out hbi);clear hbi)
        | (go_at_call 23;(with_reducible refine (RSet_k H7.out (by decide) _ _ (by decide) (by omega)).mono ?_);rintro e wz ⟨X8,x8,m8,rfl,h8,hb⟩;have H8:=Lib.hid h8;clear h8 hb)
        | (go_at_call 23;(with_reducible refine (RSet_k H6i.out (by decide) _ _ (by decide) hiz).mono ?_);rintro e wy ⟨X7,x7,m7,rfl,h7,hb⟩;have H7:=Lib.hid h7;obtain ⟨v0,v1,v2,v3,v4,v5,v6,v7,v8,v9⟩:=HQ.out _ (bt HBh.out hb);clear h7 hb)
        | (go_at_call 23;(with_reducible refine (RSet_k H5.out (by decide) _ _ (by decide) (by omega)).mono ?_);rintro e wg ⟨X6,x6,m6,rfl,h6,hb⟩;have H6:=Lib.hid h6;have HBg:=Lib.hid (bt HBf.out hb);obtain ⟨g0,g1,g2,g3,g4,g5,g6,g7,g8,g9⟩:=HQ.out _ (bt HBf.out hb);clear h6 hb))
       go_ret
       first
        | exact ⟨_,_,m8,rfl,H8.out⟩
        | exact ⟨_,_,m7,rfl,H7.out.more (by decide)⟩
        | exact ⟨_,_,m6,rfl,H6.out.more (by decide)⟩
        | exact ⟨_,_,m4,rfl,H5.out.more (by decide)⟩
   · have hk2:(kd == 4)=false:=by simpa using hk
     cases bn with
     | true =>
       go_wp2_with (first
        | (go_at_call 34;refine (HIt.out nb z5 z6 _ (bt HB04.out HBg.out)).mono ?_;rintro e wi ⟨rfl,hbi⟩;have H6i:=Lib.hid (H6.out.keep hbi);have HBh:=Lib.hid (bt HBg.out hbi);(have hiz:=itoa_sz nb (by omega) (by omega));obtain ⟨u0,u1,u2,u3,u4,u5,u6,u7,u8,u9⟩:=HQ.out _ (bt HBg.out hbi);clear hbi)
        | (go_at_call 23;(with_reducible refine (RSet_k H7.out (by decide) _ _ (by decide) (by omega)).mono ?_);rintro e wz ⟨X8,x8,m8,rfl,h8,hb⟩;have H8:=Lib.hid h8;clear h8 hb)
        | (go_at_call 23;(with_reducible refine (RSet_k H6i.out (by decide) _ _ (by decide) hiz).mono ?_);rintro e wy ⟨X7,x7,m7,rfl,h7,hb⟩;have H7:=Lib.hid h7;obtain ⟨v0,v1,v2,v3,v4,v5,v6,v7,v8,v9⟩:=HQ.out _ (bt HBh.out hb);clear h7 hb)
        | (go_at_call 23;(with_reducible refine (RSet_k H5.out (by decide) _ _ (by decide) (by omega)).mono ?_);rintro e wg ⟨X6,x6,m6,rfl,h6,hb⟩;have H6:=Lib.hid h6;have HBg:=Lib.hid (bt HBf.out hb);obtain ⟨g0,g1,g2,g3,g4,g5,g6,g7,g8,g9⟩:=HQ.out _ (bt HBf.out hb);clear h6 hb))
       go_ret
       first
        | exact ⟨_,_,m8,rfl,H8.out⟩
        | exact ⟨_,_,m7,rfl,H7.out.more (by decide)⟩
        | exact ⟨_,_,m6,rfl,H6.out.more (by decide)⟩
        | exact ⟨_,_,m4,rfl,H5.out.more (by decide)⟩
     | false =>
       go_wp2_with (first
        | (go_at_call 34;refine (HIt.out nb z5 z6 _ (bt HB04.out HBg.out)).mono ?_;rintro e wi ⟨rfl,hbi⟩;have H6i:=Lib.hid (H6.out.keep hbi);have HBh:=Lib.hid (bt HBg.out hbi);(have hiz:=itoa_sz nb (by omega) (by omega));obtain ⟨u0,u1,u2,u3,u4,u5,u6,u7,u8,u9⟩:=HQ.out _ (bt HBg.out hbi);clear hbi)
        | (go_at_call 23;(with_reducible refine (RSet_k H7.out (by decide) _ _ (by decide) (by omega)).mono ?_);rintro e wz ⟨X8,x8,m8,rfl,h8,hb⟩;have H8:=Lib.hid h8;clear h8 hb)
        | (go_at_call 23;(with_reducible refine (RSet_k H6i.out (by decide) _ _ (by decide) hiz).mono ?_);rintro e wy ⟨X7,x7,m7,rfl,h7,hb⟩;have H7:=Lib.hid h7;obtain ⟨v0,v1,v2,v3,v4,v5,v6,v7,v8,v9⟩:=HQ.out _ (bt HBh.out hb);clear h7 hb)
        | (go_at_call 23;(with_reducible refine (RSet_k H5.out (by decide) _ _ (by decide) (by omega)).mono ?_);rintro e wg ⟨X6,x6,m6,rfl,h6,hb⟩;have H6:=Lib.hid h6;have HBg:=Lib.hid (bt HBf.out hb);obtain ⟨g0,g1,g2,g3,g4,g5,g6,g7,g8,g9⟩:=HQ.out _ (bt HBf.out hb);clear h6 hb))
       go_ret
       first
        | exact ⟨_,_,m8,rfl,H8.out⟩
        | exact ⟨_,_,m7,rfl,H7.out.more (by decide)⟩
        | exact ⟨_,_,m6,rfl,H6.out.more (by decide)⟩
        | exact ⟨_,_,m4,rfl,H5.out.more (by decide)⟩
end
end Go.Proofs.YtobcmlmbblgcdaaGreatDoor
