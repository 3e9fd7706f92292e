/-
  Contract of the builtins' Base.
  Contract of the builtins' Path.
-/
import Derived.Test.YtobcmlmbblgcdaaGreatDoorG18
import Derived.Test.YtobcmlmbblgcdaaGreatDoorG13
namespace Go.Proofs.YtobcmlmbblgcdaaGreatDoor
set_option maxRecDepth 100000
section
open Go.RowKit Go.Shelf Go.Maps
structure AtL (w:World) (A:Option Addr) (c N n:Nat) (l:List At):Prop where
 len:l.length=N
 row:LsN 2 encAt w ⟨A,c,l⟩
 asc:AscA l
 le:N≤n
theorem AtL.nil (w:World):AtL w none 0 0 0 []:=⟨rfl,LsN.empty,List.Pairwise.nil,Nat.le_refl _⟩
theorem AtL.keep {w w':World} {A:Option Addr} {c N n:Nat} {l:List At} (h:AtL w A c N n l) (hb:Below w.heap.size w w'):AtL w' A c N n l:=⟨h.len,h.row.keep hb,h.asc,h.le⟩
theorem AtL.dr {w:World} {A:Option Addr} {c N n:Nat} {l:List At} (h:AtL w A c N n l):AtL w.drew A c N n l:=h.keep (bDr (Below.refl _ _))
theorem AtL.outL {w w':World} {A:Option Addr} {c N n:Nat} {l:List At} (h:AtL w' A c N n l) (hb:Below w.heap.size w w'):OutL w l (.returned (.slice A N c)) w':=⟨A,c,by rw [h.len],h.row,hb⟩
theorem ascN {l:List At} (h:AscA l) (k v:ByteArray):AscA (setN l k v):=by
 unfold setN
 split
 · exact h
 · exact ascA_set h _
theorem lenN (l:List At) (k v:ByteArray):(setN l k v).length≤l.length+1:=by
 unfold setN
 split
 · omega
 · exact len_setP _ _
theorem bset_n {A:Option Addr} {c N n:Nat} {l:List At} (k v:ByteArray) (w:World) (h:AtL w A c N n l) (hn:n≤10000) :
 Calls Tryz.prog 33 #[.slice A N c,.string k,.string v] w fun e w'=>∃ A' c' N',e=.returned (.slice A' N' c')∧AtL w' A' c' N' (n+1) (setN l k v)∧Below w.heap.size w w':=by
 have:=bset_any ⟨A,c,l⟩ k v w h.row (by have h1:=h.le;have h2:=h.len;show l.length≤10000;omega) h.asc
 have e:(⟨A,c,l⟩:Ls At).l.length=N:=h.len
 rw [e] at this
 refine this.mono ?_
 rintro e w' ⟨A',c',rfl,h1,h2⟩
 exact ⟨A',c',(setN l k v).length,rfl,⟨rfl,h1,ascN h.asc k v,by have h3:=lenN l k v;have h1:=h.le;have h2:=h.len;omega⟩,h2⟩
theorem treeSize:(Tryz.prog.info? 30).map (·.size)=some 1:=by kernel_rfl
theorem laidDev (w:World) (x:Dv):Below w.heap.size w ((w.alloc (.cells (dvA dv0) devT)).setRow w.heap.size (dvA x))∧((w.alloc (.cells (dvA dv0) devT)).setRow w.heap.size (dvA x)).heap[w.heap.size]? = some (.cells (dvA x) devT (0,0)) :=
 ⟨bRow (bAl (Below.refl _ _)) (Nat.le_refl _),setRow_heap _ _ _ _ _ _ (heap_alloc_new w _)⟩
set_option maxHeartbeats 8000000 in
theorem Base_any (A:Option Addr) (c:Nat) (ds:List Dv) (n:Int) (w:World) (h:TrN w A ds) (hi:∀ d∈dsD ds,DdI d) (r1 : -9223372036854775808≤n) (r2:n≤9223372036854775807) (hE:Env0 w) (hnb:∀ d∈dsD ds,-9223372036854775808≤d.nb∧d.nb≤9223372036854775807) :
 Calls Tryz.prog 11 #[trV A ds c,.int .i64 n] w (OutL w (baseS (dsD ds) n)):=by
 obtain ⟨w1,hw1⟩:∃ w1,w.alloc (.cells #[.slice A ds.length c] 30)=w1:=⟨_,rfl⟩
 have hb1:Below w.heap.size w w1:=by rw [←hw1];exact below_alloc _ _
 have HF:=Lib.hid (Find_any A c ds n w1 (h.keep hb1))
 have HO:=Lib.hid (fun (W:World) (hb:Below w.heap.size w W)=>Origin_any A c ds n W (h.keep hb) hi r1 r2)
 have HB1:=Lib.hid hb1
 have HE:=Lib.hid hE
 have HW:=Lib.hid hw1
 have h0:w1.heap[w.heap.size]? = some (.cells #[.slice A ds.length c] 30 (0,0)):=by rw [←hw1];exact heap_alloc_new _ _
 have H0:=Lib.hid h0
 cases hf:findD (dsD ds) n with
 | none =>
   have hr:baseS (dsD ds) n=[]:=by unfold baseS;rw [hf]
   rw [hr]
   rw [hf] at HF
   unfold FindP at HF
   clear hr hf h hi r1 r2 hE hnb hb1 HO h0 hw1
   unfold trV at *
   generalize ds.length=N at *
   go_enter Tryz.func11,Tryz.ntmps11
   go_upto_region 1 with fail
   rw [HW.out]
   go_wp2_with (first
    | (refine wpList_load_row rfl 30 _ rfl _ rfl _ _ _ _ H0.out Tryz.underlying30 rfl (by exact treeSize) ?_)
    | (go_at_call 29;refine HF.out.mono ?_;rintro e w2 ⟨rfl,hb2⟩;have HB2:=Lib.hid (bt HB1.out hb2);have hsz:=hb2.size;have hrow:=heap_alloc_new w2 (.cells (dvA dv0) devT);clear hb2)
    | (refine wpList_store_row rfl 67 _ _ rfl _ _ rfl rfl _ _ hrow (by exact devSize) rfl (by simp [Value.oneCell']) ?_))
   go_ret
   exact ⟨none,0,rfl,LsN.empty,bRow (bAl HB2.out) (HB2.out.size)⟩
 | some d =>
   have hr:baseS (dsD ds) n=baseD d (orgB (dsD ds) n):=by unfold baseS;rw [hf]
   rw [hr]
   rw [hf] at HF
   have hnbd:=hnb d (findD_some hf).1
   have hogd:=(hi d (findD_some hf).1).og
   unfold FindP at HF
   generalize orgB (dsD ds) n=og at *
   generalize (!(chS (dsD ds) n).isEmpty)=okb at *
   clear hr hf h hi r1 r2 hE hnb hb1 h0 hw1
   unfold trV at *
   generalize ds.length=N at *
   go_enter Tryz.func11,Tryz.ntmps11
   go_upto_region 1 with fail
   rw [HW.out]
   go_upto_region 5 with (first
    | (go_at_call 29;refine HF.out.mono ?_;rintro e w2 ⟨x,rfl,hx,-,-,hb2⟩;have Hx:=Lib.hid hx;clear hx;have HB2:=Lib.hid (bt HB1.out hb2);have hc0:=(hb2.block _ (blk_lt' H0.out)).trans H0.out;have hrow:=heap_alloc_new w2 (.cells (dvA dv0) devT);have hc1:=Lib.hid (((laidDev w2 x).1.block _ (blk_lt' hc0)).trans hc0);have HL:=Lib.hid (laidDev w2 x);clear hb2 hc0)
    | (refine wpList_load_row rfl 30 _ rfl _ rfl _ _ _ _ (by first | exact hc1.out | exact H0.out) Tryz.underlying30 rfl (by exact treeSize) ?_)
    | (refine wpList_store_row rfl 67 _ _ rfl _ _ rfl rfl _ _ hrow (by exact devSize) rfl (by simp [Value.oneCell']) ?_)
    | (go_at_call 31;refine (HO.out _ (bRow (bAl HB2.out) (HB2.out.size))).mono ?_;rintro e w4 ⟨rfl,hb4⟩))
   have hrow4:w4.heap[w2.heap.size]? = some (.cells (dvA x) devT (0,0)):=(hb4.block _ (blk_lt' HL.out.2)).trans HL.out.2
   have HB4:=Lib.hid (bt HB2.out (bt HL.out.1 hb4))
   have HSc:Hid (∀ W,Below w4.heap.size w4 W→W.heap[w2.heap.size]? = some (.cells (dvA x) devT (0,0))):=Lib.hid fun W hW=>(hW.block _ (blk_lt' hrow4)).trans hrow4
   have HCl:Hid (∀ W,Below w4.heap.size w4 W→W.cell? ⟨w2.heap.size,4,none⟩=some (.string x.sb)∧W.cell? ⟨w2.heap.size,5,none⟩=some (.string x.dr)∧W.cell? ⟨w2.heap.size,6,none⟩=some (.string x.al)):=Lib.hid fun W hW=>by
    obtain ⟨⟨c0,c1,c2,c3,c4,c5,c6,c7,c8,c9⟩,_⟩:=box10 (HSc.out W hW)
    exact ⟨c4,c5,c6⟩
   have HCr:Hid (∀ W,Below w4.heap.size w4 W→W.cell? ⟨w2.heap.size,3,none⟩=some (.string x.og)∧W.cell? ⟨w2.heap.size,7,none⟩=some (.int .i64 x.kd)):=Lib.hid fun W hW=>by
    obtain ⟨⟨c0,c1,c2,c3,c4,c5,c6,c7,c8,c9⟩,_⟩:=box10 (HSc.out W hW)
    exact ⟨c3,c7⟩
   have HCn:Hid (∀ W,Below w4.heap.size w4 W→W.cell? ⟨w2.heap.size,8,none⟩=some (.int .i64 x.nb)):=Lib.hid fun W hW=>by
    obtain ⟨⟨c0,c1,c2,c3,c4,c5,c6,c7,c8,c9⟩,_⟩:=box10 (HSc.out W hW)
    exact c8
   have hxd:x.d=d:=Hx.out
   subst hxd
   have HN:=Lib.hid (fun (W:World) (h:Env0 W)=>Node_any x W h hogd)
   have HI:=Lib.hid (fun (W:World) (h:Env0 W)=>Itoa_any x.nb hnbd.1 hnbd.2 W h)
   clear hrow4 hb4 hogd hnbd hc1 HL hrow
   obtain ⟨q4,q5,q6⟩:=HCl.out w4 (Below.refl _ _)
   go_region_held3 (fun W'=>W'.cell? ⟨w2.heap.size,4,none⟩=some (.string x.sb)∧W'.cell? ⟨w2.heap.size,5,none⟩=some (.string x.dr)∧W'.cell? ⟨w2.heap.size,6,none⟩=some (.string x.al)) ((refine HCl.out _ ?_;first | exact hB8 | exact hB7 | exact hB6 | exact hB5 | exact bDr (Below.refl _ _))) (first
    | (go_at_call 33;refine (bset_n (n:=3) _ _ _ (by first | exact l7 | exact l7.dr) (by omega)).mono ?_;rintro e w8 ⟨A8,c8,N8,rfl,l8,hb8⟩;have hB8:=bt hB7 hb8)
    | (go_at_call 33;refine (bset_n (n:=2) _ _ _ (by first | exact l6 | exact l6.dr) (by omega)).mono ?_;rintro e w7 ⟨A7,c7,N7,rfl,l7,hb7⟩;have hB7:=bt hB6 hb7)
    | (go_at_call 33;refine (bset_n (n:=1) _ _ _ (by first | exact l5 | exact l5.dr) (by omega)).mono ?_;rintro e w6 ⟨A6,c6,N6,rfl,l6,hb6⟩;have hB6:=bt hB5 hb6)
    | (go_at_call 33;refine (bset_n (n:=0) _ _ _ (AtL.nil _) (by omega)).mono ?_;rintro e w5 ⟨A5,c5,N5,rfl,l5,hb5⟩;have hB5:Below w4.heap.size w4 w5:=bt (bDr (Below.refl _ _)) hb5))
   obtain ⟨L8,hL8⟩:∃ L8,setN (setN (setN (setN [] kDevpath og) kSubsys x.sb) kDriver x.dr) kModal x.al=L8:=⟨_,rfl⟩
   have HL8:=Lib.hid hL8
   have H8:Hid (AtL w8 A8 c8 N8 4 L8):=Lib.hid (by rw [←hL8];exact l8)
   have HB8:=Lib.hid hB8
   clear hL8 l8 l7 l6 l5 hb8 hb7 hb6 hb5 hB8 hB7 hB6 hB5
   cases hnd:nodeB x.d with
   | none =>
     rw [hnd] at HN
     simp only [Option.getD_none,Option.isSome_none] at HN
     by_cases hk:x.kd=4
     · skip
       have hbase:baseD x.d og=setN (L8) kIface x.og:=by unfold baseD;rw [hnd];show (if x.kd=4 then _ else _)=_;rw [if_pos hk,←HL8.out];rfl
       have HBs:=Lib.hid hbase
       clear hbase hnd
       obtain ⟨q3,q7⟩:=HCr.out w8 HB8.out
       go_wp2_with (first
        | (refine wpList_load_row rfl 67 _ rfl _ rfl _ _ _ _ (HSc.out _ HB8.out) Tryz.underlying67 rfl (by exact devSize) ?_)
        | (go_at_call 32;refine (HN.out _ (HE.out.go (bt HB4.out HB8.out))).mono ?_;rintro e w9 ⟨rfl,hb9⟩;have HB9:=Lib.hid (bt HB8.out hb9);have H9:=Lib.hid (H8.out.keep hb9);clear hb9;obtain ⟨q3,q7⟩:=HCr.out w9 HB9.out)
        | (go_at_call 33;refine (bset_n (n:=4) _ _ _ H9.out (by omega)).mono ?_;rintro e wz ⟨Az,cz,Nz,rfl,lz,hbz⟩;have HBz:=Lib.hid (bt HB9.out hbz);have Hz:=Lib.hid lz;clear hbz lz))
       go_ret
       rw [HBs.out]
       exact Hz.out.outL (bt HB4.out HBz.out)
     · skip
       have hbase:baseD x.d og=L8:=by unfold baseD;rw [hnd];show (if x.kd=4 then _ else _)=_;rw [if_neg hk,←HL8.out];rfl
       have HBs:=Lib.hid hbase
       clear hbase hnd
       obtain ⟨q3,q7⟩:=HCr.out w8 HB8.out
       go_wp2_with (first
        | (refine wpList_load_row rfl 67 _ rfl _ rfl _ _ _ _ (HSc.out _ HB8.out) Tryz.underlying67 rfl (by exact devSize) ?_)
        | (go_at_call 32;refine (HN.out _ (HE.out.go (bt HB4.out HB8.out))).mono ?_;rintro e w9 ⟨rfl,hb9⟩;have HB9:=Lib.hid (bt HB8.out hb9);have H9:=Lib.hid (H8.out.keep hb9);clear hb9;obtain ⟨q3,q7⟩:=HCr.out w9 HB9.out))
       go_ret
       rw [HBs.out]
       exact H9.out.outL (bt HB4.out HB9.out)
   | some nv =>
     rw [hnd] at HN
     simp only [Option.getD_some,Option.isSome_some] at HN
     by_cases hk:x.kd=4
     · skip
       have hbase:baseD x.d og=setN (setN (setN L8 kDevname nv) kNumber (bs (Lib.itoa x.nb))) kIface x.og:=by unfold baseD;rw [hnd];show (if x.kd=4 then _ else _)=_;rw [if_pos hk,←HL8.out];rfl
       have HBs:=Lib.hid hbase
       clear hbase hnd
       go_upto_region 8 with (first
        | (refine wpList_load_row rfl 67 _ rfl _ rfl _ _ _ _ (HSc.out _ HB8.out) Tryz.underlying67 rfl (by exact devSize) ?_)
        | (go_at_call 32;refine (HN.out _ (HE.out.go (bt HB4.out HB8.out))).mono ?_;rintro e w9 ⟨rfl,hb9⟩;have HB9:=Lib.hid (bt HB8.out hb9);have H9:=Lib.hid (H8.out.keep hb9);clear hb9;have q8:=HCn.out w9 HB9.out))
       clear q4 q5 q6
       go_region_held3 (fun W'=>W'.cell? ⟨w2.heap.size,8,none⟩=some (.int .i64 x.nb)) ((refine HCn.out _ ?_;first | exact hB12 | exact hB11 | exact hB10 | exact bDr HB9.out)) (first
        | (go_at_call 33;refine (bset_n (n:=5) _ _ _ (l10.keep hb11) (by omega)).mono ?_;rintro e w12 ⟨A12,c12,N12,rfl,l12,hb12⟩;have hB12:=bt hB11 hb12)
        | (go_at_call 34;refine (HI.out _ (HE.out.go (bt HB4.out hB10))).mono ?_;rintro e w11 ⟨rfl,hb11⟩;have hB11:=bt hB10 hb11)
        | (go_at_call 33;refine (bset_n (n:=4) _ _ _ (by first | exact H9.out | exact H9.out.dr) (by omega)).mono ?_;rintro e w10 ⟨A10,c10,N10,rfl,l10,hb10⟩;have hB10:Below w4.heap.size w4 w10:=bt (bDr HB9.out) hb10))
       obtain ⟨q3,q7⟩:=HCr.out w12 hB12
       have H12:=Lib.hid l12
       have HB12:=Lib.hid hB12
       clear l12 hB12 l10 hb10 hb11 hb12 hB10 hB11
       go_wp2_with (go_at_call 33;refine (bset_n (n:=6) _ _ _ H12.out (by omega)).mono ?_;rintro e wz ⟨Az,cz,Nz,rfl,lz,hbz⟩;have HBz:=Lib.hid (bt HB12.out hbz);have Hz:=Lib.hid lz;clear hbz lz)
       go_ret
       rw [HBs.out]
       exact Hz.out.outL (bt HB4.out HBz.out)
     · skip
       have hbase:baseD x.d og=setN (setN L8 kDevname nv) kNumber (bs (Lib.itoa x.nb)):=by unfold baseD;rw [hnd];show (if x.kd=4 then _ else _)=_;rw [if_neg hk,←HL8.out];rfl
       have HBs:=Lib.hid hbase
       clear hbase hnd
       go_upto_region 8 with (first
        | (refine wpList_load_row rfl 67 _ rfl _ rfl _ _ _ _ (HSc.out _ HB8.out) Tryz.underlying67 rfl (by exact devSize) ?_)
        | (go_at_call 32;refine (HN.out _ (HE.out.go (bt HB4.out HB8.out))).mono ?_;rintro e w9 ⟨rfl,hb9⟩;have HB9:=Lib.hid (bt HB8.out hb9);have H9:=Lib.hid (H8.out.keep hb9);clear hb9;have q8:=HCn.out w9 HB9.out))
       clear q4 q5 q6
       go_region_held3 (fun W'=>W'.cell? ⟨w2.heap.size,8,none⟩=some (.int .i64 x.nb)) ((refine HCn.out _ ?_;first | exact hB12 | exact hB11 | exact hB10 | exact bDr HB9.out)) (first
        | (go_at_call 33;refine (bset_n (n:=5) _ _ _ (l10.keep hb11) (by omega)).mono ?_;rintro e w12 ⟨A12,c12,N12,rfl,l12,hb12⟩;have hB12:=bt hB11 hb12)
        | (go_at_call 34;refine (HI.out _ (HE.out.go (bt HB4.out hB10))).mono ?_;rintro e w11 ⟨rfl,hb11⟩;have hB11:=bt hB10 hb11)
        | (go_at_call 33;refine (bset_n (n:=4) _ _ _ (by first | exact H9.out | exact H9.out.dr) (by omega)).mono ?_;rintro e w10 ⟨A10,c10,N10,rfl,l10,hb10⟩;have hB10:Below w4.heap.size w4 w10:=bt (bDr HB9.out) hb10))
       obtain ⟨q3,q7⟩:=HCr.out w12 hB12
       have H12:=Lib.hid l12
       have HB12:=Lib.hid hB12
       clear l12 hB12 l10 hb10 hb11 hb12 hB10 hB11
       go_wp2_with fail
       go_ret
       rw [HBs.out]
       exact H12.out.outL (bt HB4.out HB12.out)
end
section
open Go.RowKit Go.Shelf Go.Maps
structure EnvU (w:World):Prop extends Env0 w where
 u8:Lib.Utf8Tabs 2 3 w
theorem bs_at2 (n:Nat) (parts:Array (Nat × Value)):Instr.buildSlice 31 n parts=bsG 31 n parts:=by unfold bsG;rfl
theorem ext_take {s:ByteArray} (h:s.size≤256):s.extract 0 256=s:=by
 have:L (s.extract 0 256)=L s:=by rw [L_extract,List.drop_zero,List.take_of_length_le (by rw [len_L];exact h)]
 have e:=congrArg bs this
 rwa [bs_L,bs_L] at e
attribute [local go_sem ↓] bs_at2
end
end Go.Proofs.YtobcmlmbblgcdaaGreatDoor
