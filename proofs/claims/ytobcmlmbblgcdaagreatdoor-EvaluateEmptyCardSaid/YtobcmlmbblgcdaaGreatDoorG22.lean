/-
  Contract of the editor's env. (Printed by gen_edb.py.)
  Contracts of the editor's more and of full. (Printed by gen_edc.py.)
  A draft under change: one of its rows turned. (Printed by gen_edd.py.)
  Contract of the editor's run.
  Contract of the program's Clean: the loop that turns the bytes.
  The reference's Origin and Place of devices.
  Contract of the editor's priority. (Printed by gen_edf.py.)
  Contract of slices.Insert of one text into a row of its own.
  Contract of the program's put.
  Contract of the program's drop (slices.DeleteFunc on a row of texts of its own).
  Contract of the editor's tag.
  Contract of the editor's link. (Printed by gen_edl.py.)
-/
import Derived.Test.YtobcmlmbblgcdaaGreatDoorG18
import Derived.Test.YtobcmlmbblgcdaaGreatDoorG19
import Derived.Maps.AppendAt
import Derived.Test.YtobcmlmbblgcdaaGreatDoorG20
import Derived.Test.YtobcmlmbblgcdaaGreatDoorG13
import Derived.Test.YtobcmlmbblgcdaaGreatDoorG05
import Derived.Test.YtobcmlmbblgcdaaGreatDoorShelf
import Derived.Test.YtobcmlmbblgcdaaGreatDoorIface
namespace Go.Proofs.YtobcmlmbblgcdaaGreatDoor
set_option maxRecDepth 100000
section
open Go.RowKit
theorem bCell2 {B:Nat} {w W:World} {g i:Nat} {u:Value} (h:Below B w W) (hs:B≤W.heap.size) (hg:B≤g):Below B w (W.setCell ⟨g,i,none⟩ u):=h.grown (grown_set _ _ _ _) hs (fun j e=>by cases e;exact hg)
theorem EdP.setProps {B g:Nat} {y:Dm} {w w1 w2:World} {l':List At} {A':Option Addr} {c':Nat} (h:EdO B w g y) (hb:Below w.heap.size w w1) (ho:OutIn w1 l' (.slice A' l'.length c') w2):EdP B g y w { y.d with props:=l' } (.returned (.tuple #[])) (w2.setCell ⟨g,0,none⟩ (.slice A' l'.length c')):=by
 have h1:=h.below hb
 refine ⟨rfl,{ y with props:=⟨A',c',l'⟩ },rfl,h1.setProps ho.2 ho.1,⟨fun b hb' hg hn=>?_,?_,fun a ha p e=>?_⟩,?_⟩
 · rw [heap_setCell_other _ _ _ _ hg]
   exact ((bt hb ho.2).block b hb')
 · have:=(bt hb ho.2).size
   simp only [World.setCell]
   simpa using this
 · have hs:({ y with props:=⟨A',c',l'⟩ }:Dm).as=y.as.set 0 A':=rfl
   rw [hs] at ha
   rcases List.mem_or_eq_of_mem_set ha with hm | rfl
   · exact Or.inr ⟨a,hm,p,e,rfl⟩
   · exact Or.inl (Nat.le_trans hb.size (own_rng ho.1 p e).1)
 · have hB:=Nat.le_trans h.lo (Nat.le_of_lt (blk_lt' h.box))
   exact bCell2 ((bt hb ho.2).mono hB) (Nat.le_trans hB (bt hb ho.2).size) h.lo
set_option maxHeartbeats 8000000 in
theorem PEnv_any (B g:Nat) (y:Dm) (k v:ByteArray) (w:World) (h:EdO B w g y) (hl:y.props.l.length≤1000) (ha:AscA y.props.l) (hv:v.size≤9223372036854775807) :
 Calls Tryz.prog 164 #[.pointer (some ⟨g,0,none⟩),.string k,.string v] w (EdP B g y w (envS y.d k v)):=by
 have hpr:=(LsN.of_own h.rows.pr).1
 have HQ:Hid (∀ W,Below w.heap.size w W→W.cell? ⟨g,0,none⟩=some (.slice y.props.A y.props.l.length y.props.c)∧W.frozen? ⟨g,0,none⟩=false):=Lib.hid fun W hW=>by
  have h1:=(h.below hW).box
  exact ⟨(box14 h1).1,frz h1 0⟩
 have HG0:=PGet_any y.props.A y.props.c y.props.l k w hpr.row.row (by omega)
 have HK0:=BKey_any k
 have HT0:=fun W=>Text_any v W hv
 have HS:=Lib.hid (fun (W:World) (hW:Below w.heap.size w W)=>PSet_any ⟨y.props.A,y.props.c,y.props.l⟩ k v W (hpr.keep hW) (by show y.props.l.length≤_;omega) ha)
 have HH:=Lib.hid h
 have hE:envS y.d k v=if (baseB (L k) || !textS (L v) || ((findF y.props.l (L k)).isNone && decide (64≤y.props.l.length))) then y.d else { y.d with props:=setP y.props.l ⟨k,v⟩ }:=rfl
 rw [hE]
 clear hE hpr h ha
 unfold GetPost getU at HG0
 dsimp only at HS
 obtain ⟨q0,f0⟩:=HQ.out w (Below.refl _ _)
 cases hk:baseB (L k) with
 | true =>
   simp only [Bool.true_or,if_true]
   simp only [hk] at HK0
   clear hk
   cases hf:findF y.props.l (L k) with
   | none =>
     rw [hf] at HG0
     clear hf
     have HK:=Lib.hid HK0
     have HT:=Lib.hid HT0
     have HG:=Lib.hid HG0
     clear HK0 HT0 HG0
     generalize hN:y.props.l.length=N at *
     have HN:=Lib.hid hN
     clear hN
     go_enter Tryz.func164,Tryz.ntmps164
     go_wp2_with (first | (go_at_call 27;refine HG.out.mono ?_;rintro e w2 ⟨rfl,hb2⟩;have HB2:=Lib.hid hb2;clear hb2) | (go_at_call 195;refine (HK.out _).mono ?_;rintro e w3 ⟨rfl,hb3⟩;have HB3:=Lib.hid (bt HB2.out hb3);obtain ⟨q3,f3⟩:=HQ.out w3 HB3.out;clear hb3))
     refine bodyPost_ret (v:=.tuple #[]) (results_none rfl _ _ _) rfl ?_
     exact EdP.same HH.out HB3.out
   | some z =>
     rw [hf] at HG0
     clear hf
     have HK:=Lib.hid HK0
     have HT:=Lib.hid HT0
     have HG:=Lib.hid HG0
     clear HK0 HT0 HG0
     generalize hN:y.props.l.length=N at *
     have HN:=Lib.hid hN
     clear hN
     go_enter Tryz.func164,Tryz.ntmps164
     go_wp2_with (first | (go_at_call 27;refine HG.out.mono ?_;rintro e w2 ⟨rfl,hb2⟩;have HB2:=Lib.hid hb2;clear hb2) | (go_at_call 195;refine (HK.out _).mono ?_;rintro e w3 ⟨rfl,hb3⟩;have HB3:=Lib.hid (bt HB2.out hb3);obtain ⟨q3,f3⟩:=HQ.out w3 HB3.out;clear hb3))
     refine bodyPost_ret (v:=.tuple #[]) (results_none rfl _ _ _) rfl ?_
     exact EdP.same HH.out HB3.out
 | false =>
   simp only [Bool.false_or]
   simp only [hk] at HK0
   clear hk
   cases ht:textS (L v) with
   | false =>
     simp only [Bool.not_false,Bool.true_or,if_true]
     simp only [ht] at HT0
     clear ht
     cases hf:findF y.props.l (L k) with
     | none =>
       rw [hf] at HG0
       clear hf
       have HK:=Lib.hid HK0
       have HT:=Lib.hid HT0
       have HG:=Lib.hid HG0
       clear HK0 HT0 HG0
       generalize hN:y.props.l.length=N at *
       have HN:=Lib.hid hN
       clear hN
       go_enter Tryz.func164,Tryz.ntmps164
       go_wp2_with (first | (go_at_call 27;refine HG.out.mono ?_;rintro e w2 ⟨rfl,hb2⟩;have HB2:=Lib.hid hb2;clear hb2) | (go_at_call 195;refine (HK.out _).mono ?_;rintro e w3 ⟨rfl,hb3⟩;have HB3:=Lib.hid (bt HB2.out hb3);obtain ⟨q3,f3⟩:=HQ.out w3 HB3.out;clear hb3) | (go_at_call 196;refine (HT.out _).mono ?_;rintro e w4 ⟨rfl,rfl⟩))
       refine bodyPost_ret (v:=.tuple #[]) (results_none rfl _ _ _) rfl ?_
       exact EdP.same HH.out HB3.out
     | some z =>
       rw [hf] at HG0
       clear hf
       have HK:=Lib.hid HK0
       have HT:=Lib.hid HT0
       have HG:=Lib.hid HG0
       clear HK0 HT0 HG0
       generalize hN:y.props.l.length=N at *
       have HN:=Lib.hid hN
       clear hN
       go_enter Tryz.func164,Tryz.ntmps164
       go_wp2_with (first | (go_at_call 27;refine HG.out.mono ?_;rintro e w2 ⟨rfl,hb2⟩;have HB2:=Lib.hid hb2;clear hb2) | (go_at_call 195;refine (HK.out _).mono ?_;rintro e w3 ⟨rfl,hb3⟩;have HB3:=Lib.hid (bt HB2.out hb3);obtain ⟨q3,f3⟩:=HQ.out w3 HB3.out;clear hb3) | (go_at_call 196;refine (HT.out _).mono ?_;rintro e w4 ⟨rfl,rfl⟩))
       refine bodyPost_ret (v:=.tuple #[]) (results_none rfl _ _ _) rfl ?_
       exact EdP.same HH.out HB3.out
   | true =>
     simp only [Bool.not_true,Bool.false_or]
     simp only [ht] at HT0
     clear ht
     cases hf:findF y.props.l (L k) with
     | some z =>
       simp only [Option.isNone_some,Bool.false_and,Bool.false_eq_true,if_false]
       rw [hf] at HG0
       clear hf
       have HK:=Lib.hid HK0
       have HT:=Lib.hid HT0
       have HG:=Lib.hid HG0
       clear HK0 HT0 HG0
       generalize hN:y.props.l.length=N at *
       have HN:=Lib.hid hN
       clear hN
       go_enter Tryz.func164,Tryz.ntmps164
       go_wp2_with (first | (go_at_call 27;refine HG.out.mono ?_;rintro e w2 ⟨rfl,hb2⟩;have HB2:=Lib.hid hb2;clear hb2) | (go_at_call 195;refine (HK.out _).mono ?_;rintro e w3 ⟨rfl,hb3⟩;have HB3:=Lib.hid (bt HB2.out hb3);obtain ⟨q3,f3⟩:=HQ.out w3 HB3.out;clear hb3) | (go_at_call 196;refine (HT.out _).mono ?_;rintro e w4 ⟨rfl,rfl⟩) | (go_at_call 56;refine (HS.out _ HB3.out).mono ?_;rintro e w5 ⟨v5,rfl,hO⟩;obtain ⟨A5,c5,rfl⟩:=own_slice hO.1;have HO:=Lib.hid hO;obtain ⟨q5,f5⟩:=HQ.out w5 (bt HB3.out hO.2);clear hO))
       refine bodyPost_ret (v:=.tuple #[]) (results_none rfl _ _ _) rfl ?_
       exact EdP.setProps HH.out HB3.out HO.out
     | none =>
       simp only [Option.isNone_none,Bool.true_and]
       rw [hf] at HG0
       clear hf
       by_cases hn:64≤y.props.l.length
       · rw [if_pos (decide_eq_true hn)]
         have hni:(64:Int)≤((y.props.l.length:Nat):Int):=by omega
         have HK:=Lib.hid HK0
         have HT:=Lib.hid HT0
         have HG:=Lib.hid HG0
         clear HK0 HT0 HG0
         generalize hN:y.props.l.length=N at *
         have HN:=Lib.hid hN
         clear hN
         go_enter Tryz.func164,Tryz.ntmps164
         go_wp2_with (first | (go_at_call 27;refine HG.out.mono ?_;rintro e w2 ⟨rfl,hb2⟩;have HB2:=Lib.hid hb2;clear hb2) | (go_at_call 195;refine (HK.out _).mono ?_;rintro e w3 ⟨rfl,hb3⟩;have HB3:=Lib.hid (bt HB2.out hb3);obtain ⟨q3,f3⟩:=HQ.out w3 HB3.out;clear hb3) | (go_at_call 196;refine (HT.out _).mono ?_;rintro e w4 ⟨rfl,rfl⟩))
         refine bodyPost_ret (v:=.tuple #[]) (results_none rfl _ _ _) rfl ?_
         exact EdP.same HH.out HB3.out
       · rw [if_neg (by simpa using hn)]
         have hni:¬ (64:Int)≤((y.props.l.length:Nat):Int):=by omega
         have HK:=Lib.hid HK0
         have HT:=Lib.hid HT0
         have HG:=Lib.hid HG0
         clear HK0 HT0 HG0
         generalize hN:y.props.l.length=N at *
         have HN:=Lib.hid hN
         clear hN
         go_enter Tryz.func164,Tryz.ntmps164
         go_wp2_with (first | (go_at_call 27;refine HG.out.mono ?_;rintro e w2 ⟨rfl,hb2⟩;have HB2:=Lib.hid hb2;clear hb2) | (go_at_call 195;refine (HK.out _).mono ?_;rintro e w3 ⟨rfl,hb3⟩;have HB3:=Lib.hid (bt HB2.out hb3);obtain ⟨q3,f3⟩:=HQ.out w3 HB3.out;clear hb3) | (go_at_call 196;refine (HT.out _).mono ?_;rintro e w4 ⟨rfl,rfl⟩) | (go_at_call 56;refine (HS.out _ HB3.out).mono ?_;rintro e w5 ⟨v5,rfl,hO⟩;obtain ⟨A5,c5,rfl⟩:=own_slice hO.1;have HO:=Lib.hid hO;obtain ⟨q5,f5⟩:=HQ.out w5 (bt HB3.out hO.2);clear hO))
         refine bodyPost_ret (v:=.tuple #[]) (results_none rfl _ _ _) rfl ?_
         exact EdP.setProps HH.out HB3.out HO.out
end
section
open Go.RowKit
theorem ext_all {s:ByteArray} {n:Nat} (h:s.size≤n):s.extract 0 n=s:=by
 have:L (s.extract 0 n)=L s:=by rw [L_extract,List.drop_zero,List.take_of_length_le (by rw [len_L];exact h)]
 have e:=congrArg bs this
 rwa [bs_L,bs_L] at e
theorem EdP.lift {B g:Nat} {y:Dm} {w w2:World} {d':Dr} {e:Ending} {w':World} (h:EdO B w g y) (hb:Below w.heap.size w w2) (hp:EdP B g y w2 d' e w'):EdP B g y w d' e w':=by
 obtain ⟨h1,y',h2,h3,h4,h5⟩:=hp
 exact ⟨h1,y',h2,h3,(EdR.same hb).trans h4,(hb.mono (Nat.le_trans h.lo (Nat.le_of_lt (blk_lt' h.box)))).trans h5⟩
set_option maxHeartbeats 8000000 in
theorem PMore_any (B g:Nat) (y:Dm) (k v:ByteArray) (w:World) (h:EdO B w g y) (hl:y.props.l.length≤1000) (ha:AscA y.props.l) (hv:v.size≤1000000) (hz:∀ x∈y.props.l,x.val.size≤1000000) :
 Calls Tryz.prog 170 #[.pointer (some ⟨g,0,none⟩),.string k,.string v] w (EdP B g y w (moreS y.d k v)):=by
 have hpr:=(LsN.of_own h.rows.pr).1
 have hbox:=h.box
 have q0:=(box14 hbox).1
 have HG0:=PGet_any y.props.A y.props.c y.props.l k w hpr.row.row (by omega)
 have HV:=Lib.hid (fun (s:ByteArray) (hs:s.size≤9223372036854775807) (W:World) (hW:Below w.heap.size w W)=>(PEnv_any B g y k s W (h.below hW) hl ha hs).mono fun _ _ hp=>EdP.lift h hW hp)
 have HH:=Lib.hid h
 have hE:(L v).isEmpty=false→moreS y.d k v=match findF y.props.l (L k) with | some x=>envS y.d k ((x.val++spB++v).extract 0 256) | none=>envS y.d k v:=fun e=>by
  unfold moreS
  rw [e]
  rfl
 have hE0:(L v).isEmpty=true→moreS y.d k v=y.d:=fun e=>by
  unfold moreS
  rw [e]
  rfl
 have hfz:∀ x,findF y.props.l (L k)=some x→x.val.size≤1000000:=fun x hx=>hz x (List.mem_of_find?_eq_some hx)
 clear hpr h ha hbox hz
 unfold GetPost getU at HG0
 rcases Classical.em (v.toList=[]) with n1 | n1
 · have n2:v.toList.isEmpty=true:=by rw [n1];rfl
   rw [hE0 (by rw [←tl];exact n2)]
   clear hE hE0 hfz
   cases hf:findF y.props.l (L k) with
   | none =>
     rw [hf] at HG0
     clear hf
     have HG:=Lib.hid HG0
     clear HG0
     generalize hN:y.props.l.length=N at *
     have HN:=Lib.hid hN
     clear hN
     go_enter Tryz.func170,Tryz.ntmps170
     go_wp2_with (first | (go_at_call 27;refine HG.out.mono ?_;rintro e w2 ⟨rfl,hb2⟩;have HB2:=Lib.hid hb2;clear hb2))
     refine bodyPost_ret (v:=.tuple #[]) (results_none rfl _ _ _) rfl ?_
     exact EdP.same HH.out HB2.out
   | some z =>
     rw [hf] at HG0
     clear hf
     have HG:=Lib.hid HG0
     clear HG0
     generalize hN:y.props.l.length=N at *
     have HN:=Lib.hid hN
     clear hN
     go_enter Tryz.func170,Tryz.ntmps170
     go_wp2_with (first | (go_at_call 27;refine HG.out.mono ?_;rintro e w2 ⟨rfl,hb2⟩;have HB2:=Lib.hid hb2;clear hb2))
     refine bodyPost_ret (v:=.tuple #[]) (results_none rfl _ _ _) rfl ?_
     exact EdP.same HH.out HB2.out
 · have n2:v.toList.isEmpty=false:=by rw [tl];exact L_ne n1
   rw [hE (by rw [←tl];exact n2)]
   clear hE hE0
   cases hf:findF y.props.l (L k) with
   | none =>
     rw [hf] at HG0
     clear hf hfz
     have HG:=Lib.hid HG0
     clear HG0
     generalize hN:y.props.l.length=N at *
     have HN:=Lib.hid hN
     clear hN
     go_enter Tryz.func170,Tryz.ntmps170
     go_wp2_with (first | (go_at_call 27;refine HG.out.mono ?_;rintro e w2 ⟨rfl,hb2⟩;have HB2:=Lib.hid hb2;clear hb2) | (go_at_call 164;refine (HV.out v (by omega) _ HB2.out).mono ?_;rintro e w3 hP;obtain ⟨rfl,-⟩:=id hP;have HP:=Lib.hid hP;clear hP))
     refine bodyPost_ret (v:=.tuple #[]) (results_none rfl _ _ _) rfl ?_
     exact HP.out
   | some z =>
     have hzz:=hfz z hf
     rw [hf] at HG0
     clear hf hfz
     dsimp only
     have r1:(9223372036854775807<z.val.size+1)=False:=by simp;omega
     have r2:(9223372036854775807<z.val.size+1+v.size)=False:=by simp;omega
     have hsz:(z.val++spB++v).size=z.val.size+1+v.size:=by simp only [ByteArray.size_append];rfl
     by_cases hq:z.val.size+1+v.size≤256
     · have hqi:((z.val.size:Int)+1+(v.size:Int))≤256:=by omega
       have hmi:min ((z.val.size:Int)+1+(v.size:Int)) 256=(z.val.size:Int)+1+(v.size:Int):=by omega
       rw [(ext_take (s:=z.val++spB++v) (by rw [hsz];exact hq)).trans (ext_all (s:=z.val++spB++v) (n:=z.val.size+1+v.size) (by rw [hsz];exact Nat.le_refl _)).symm]
       have HG:=Lib.hid HG0
       clear HG0
       generalize hN:y.props.l.length=N at *
       have HN:=Lib.hid hN
       clear hN
       go_enter Tryz.func170,Tryz.ntmps170
       go_wp2_with (first | (go_at_call 27;refine HG.out.mono ?_;rintro e w2 ⟨rfl,hb2⟩;have HB2:=Lib.hid hb2;clear hb2) | (go_at_call 164;refine (HV.out _ (by rw [size_extract];omega) _ HB2.out).mono ?_;rintro e w3 hP;obtain ⟨rfl,-⟩:=id hP;have HP:=Lib.hid hP;clear hP))
       refine bodyPost_ret (v:=.tuple #[]) (results_none rfl _ _ _) rfl ?_
       exact HP.out
     · have hqi:¬ ((z.val.size:Int)+1+(v.size:Int))≤256:=by omega
       have hmi:min ((z.val.size:Int)+1+(v.size:Int)) 256=256:=by omega
       have hqj:(256:Int)≤(z.val.size:Int)+1+(v.size:Int):=by omega
       have hqn:256≤z.val.size+1+v.size:=by omega
       have HG:=Lib.hid HG0
       clear HG0
       generalize hN:y.props.l.length=N at *
       have HN:=Lib.hid hN
       clear hN
       go_enter Tryz.func170,Tryz.ntmps170
       go_wp2_with (first | (go_at_call 27;refine HG.out.mono ?_;rintro e w2 ⟨rfl,hb2⟩;have HB2:=Lib.hid hb2;clear hb2) | (go_at_call 164;refine (HV.out _ (by rw [size_extract];omega) _ HB2.out).mono ?_;rintro e w3 hP;obtain ⟨rfl,-⟩:=id hP;have HP:=Lib.hid hP;clear hP))
       refine bodyPost_ret (v:=.tuple #[]) (results_none rfl _ _ _) rfl ?_
       exact HP.out
end
section
open Go.RowKit
structure EdQ (B g:Nat) (y:Dm) (w:World) (y':Dm) (w':World):Prop where
 ed:EdO B w' g y'
 r:EdR w g y w' y'
 b:Below B w w'
theorem EdQ.p {B g:Nat} {y y':Dm} {w w':World} {d':Dr} (h:EdQ B g y w y' w') (e:y'.d=d'):EdP B g y w d' (.returned (.tuple #[])) w':=⟨rfl,y',e,h.ed,h.r,h.b⟩
theorem EdQ.trans {B g:Nat} {y y1 y2:Dm} {w w1 w2:World} (h:EdQ B g y w y1 w1) (h2:EdQ B g y1 w1 y2 w2):EdQ B g y w y2 w2:=⟨h2.ed,h.r.trans h2.r,h.b.trans h2.b⟩
theorem EdQ.same {B g:Nat} {y:Dm} {w w':World} (h:EdO B w g y) (hb:Below w.heap.size w w'):EdQ B g y w y w':=⟨h.below hb,EdR.same hb,hb.mono (Nat.le_trans h.lo (Nat.le_of_lt (blk_lt' h.box)))⟩
theorem apart_at {l:List (Option Addr)} (h:Apart l) (i j:Nat) (hij:i<j) (hj:j<l.length):ApR (l[i]'(by omega)) l[j]:=List.pairwise_iff_getElem.1 h i j (by omega) hj hij
theorem own_keepD {w w5:World} {B k n m c m' c':Nat} {e:TypeId} {A A0:Option Addr} {xs:List Value} (h:w.ownsRow B e k (.slice A m c) n xs) (hg:w.grownBy w5 (Value.slice A0 m' c').ownBlock) (ha:ApR A0 A):w5.ownsRow B e k (.slice A m c) n xs :=
 own_off h hg (fun b hb hv=>by
  obtain ⟨p,e1,e2⟩:=slice_own hb
  obtain ⟨q,e3,e4⟩:=slice_own hv
  exact ha p q e1 e3 (e2.trans e4.symm))
theorem EdQ.set_tags {B g:Nat} {y:Dm} {w w5:World} {l':List Str} {A':Option Addr} {c':Nat} (h:EdO B w g y) (hg:w.grownBy w5 (Value.slice y.tags.A y.tags.l.length y.tags.c).ownBlock) (ho:w5.ownsRow B strT 1 (.slice A' l'.length c') l'.length (cellsOf encS l')) (hA:∀ p,A'=some p→w.heap.size≤p.block∨∃ q,y.tags.A=some q∧q.block=p.block):EdQ B g y w { y with tags:=⟨A',c',l'⟩ } (w5.setCell ⟨g,1,none⟩ (.slice A' l'.length c')):=by
 have hlt:=blk_lt' h.box
 have hmem:y.tags.A∈y.as:=by simp [Dm.as]
 have hbox:w5.heap[g]? = some (.cells (drA y) edT (0,0)):=(hg.block g hlt (fun e=>by
  obtain ⟨p,e1,e2⟩:=slice_own e.symm
  exact h.off _ hmem p e1 e2)).trans h.box
 have hA2:∀ p,A'=some p→w.heap.size≤p.block∨∃ q,y.as[1]? = some (some q)∧q.block=p.block:=fun p e=>(hA p e).imp id fun ⟨q,h1,h2⟩=>⟨q,congrArg some h1,h2⟩
 have hr:DmO B w5 { y with tags:=⟨A',c',l'⟩ }:=⟨own_keepD h.rows.pr hg (ApR.symm (apart_at h.rows.ne 0 1 (by decide) (by show 1<6;decide))),ho,own_keepD h.rows.lk hg (apart_at h.rows.ne 1 2 (by decide) (by show 2<6;decide)),own_keepD h.rows.rn hg (apart_at h.rows.ne 1 3 (by decide) (by show 3<6;decide)),own_keepD h.rows.ld hg (apart_at h.rows.ne 1 4 (by decide) (by show 4<6;decide)),own_keepD h.rows.cl hg (apart_at h.rows.ne 1 5 (by decide) (by show 5<6;decide)),apart_set w.heap.size A' y.as 1 h.rows.ne h.rows.lt hA2⟩
 have hn:∀ b,(∀ a∈y.as,∀ p,a=some p→p.block≠b)→some b≠(Value.slice y.tags.A y.tags.l.length y.tags.c).ownBlock:=fun b hb e=>by
  obtain ⟨p,e1,e2⟩:=slice_own e.symm
  exact hb _ hmem p e1 e2
 have hB:=Nat.le_trans h.lo (Nat.le_of_lt hlt)
 have hb5:Below B w w5:=(Below.refl B w).grown hg hB (fun j e=>by
  obtain ⟨p,e1,e2⟩:=slice_own e
  rw [←e2]
  exact (own_rng h.rows.tg p e1).1)
 have h5:EdO B w5 g y∨True:=Or.inr trivial
 clear h5
 have hoff:=off_set (i:=1) h.off hlt hA2
 refine ⟨⟨row_setCell hbox _,⟨own_put hr.pr (hoff _ ?_),own_put hr.tg (hoff _ ?_),own_put hr.lk (hoff _ ?_),own_put hr.rn (hoff _ ?_),own_put hr.ld (hoff _ ?_),own_put hr.cl (hoff _ ?_),hr.ne⟩,hoff,h.lo⟩,⟨fun b hb' hg' hn'=>?_,?_,fun a ha p e=>?_⟩,bCell2 hb5 (Nat.le_trans hB hg.size) h.lo⟩
 · simp [Dm.as]
 · simp [Dm.as]
 · simp [Dm.as]
 · simp [Dm.as]
 · simp [Dm.as]
 · simp [Dm.as]
 · rw [heap_setCell_other _ _ _ _ hg']
   exact hg.block b hb' (hn b hn')
 · have:=hg.size
   simp only [World.setCell]
   simpa using this
 · have hs:({ y with tags:=⟨A',c',l'⟩ }:Dm).as=y.as.set 1 A':=rfl
   rw [hs] at ha
   rcases List.mem_or_eq_of_mem_set ha with hm | rfl
   · exact Or.inr ⟨a,hm,p,e,rfl⟩
   · rcases hA p e with k | ⟨q,k1,k2⟩
     · exact Or.inl k
     · exact Or.inr ⟨_,hmem,q,k1,k2⟩
theorem EdQ.set_links {B g:Nat} {y:Dm} {w w5:World} {l':List Str} {A':Option Addr} {c':Nat} (h:EdO B w g y) (hg:w.grownBy w5 (Value.slice y.links.A y.links.l.length y.links.c).ownBlock) (ho:w5.ownsRow B strT 1 (.slice A' l'.length c') l'.length (cellsOf encS l')) (hA:∀ p,A'=some p→w.heap.size≤p.block∨∃ q,y.links.A=some q∧q.block=p.block):EdQ B g y w { y with links:=⟨A',c',l'⟩ } (w5.setCell ⟨g,2,none⟩ (.slice A' l'.length c')):=by
 have hlt:=blk_lt' h.box
 have hmem:y.links.A∈y.as:=by simp [Dm.as]
 have hbox:w5.heap[g]? = some (.cells (drA y) edT (0,0)):=(hg.block g hlt (fun e=>by
  obtain ⟨p,e1,e2⟩:=slice_own e.symm
  exact h.off _ hmem p e1 e2)).trans h.box
 have hA2:∀ p,A'=some p→w.heap.size≤p.block∨∃ q,y.as[2]? = some (some q)∧q.block=p.block:=fun p e=>(hA p e).imp id fun ⟨q,h1,h2⟩=>⟨q,congrArg some h1,h2⟩
 have hr:DmO B w5 { y with links:=⟨A',c',l'⟩ }:=⟨own_keepD h.rows.pr hg (ApR.symm (apart_at h.rows.ne 0 2 (by decide) (by show 2<6;decide))),own_keepD h.rows.tg hg (ApR.symm (apart_at h.rows.ne 1 2 (by decide) (by show 2<6;decide))),ho,own_keepD h.rows.rn hg (apart_at h.rows.ne 2 3 (by decide) (by show 3<6;decide)),own_keepD h.rows.ld hg (apart_at h.rows.ne 2 4 (by decide) (by show 4<6;decide)),own_keepD h.rows.cl hg (apart_at h.rows.ne 2 5 (by decide) (by show 5<6;decide)),apart_set w.heap.size A' y.as 2 h.rows.ne h.rows.lt hA2⟩
 have hn:∀ b,(∀ a∈y.as,∀ p,a=some p→p.block≠b)→some b≠(Value.slice y.links.A y.links.l.length y.links.c).ownBlock:=fun b hb e=>by
  obtain ⟨p,e1,e2⟩:=slice_own e.symm
  exact hb _ hmem p e1 e2
 have hB:=Nat.le_trans h.lo (Nat.le_of_lt hlt)
 have hb5:Below B w w5:=(Below.refl B w).grown hg hB (fun j e=>by
  obtain ⟨p,e1,e2⟩:=slice_own e
  rw [←e2]
  exact (own_rng h.rows.lk p e1).1)
 have h5:EdO B w5 g y∨True:=Or.inr trivial
 clear h5
 have hoff:=off_set (i:=2) h.off hlt hA2
 refine ⟨⟨row_setCell hbox _,⟨own_put hr.pr (hoff _ ?_),own_put hr.tg (hoff _ ?_),own_put hr.lk (hoff _ ?_),own_put hr.rn (hoff _ ?_),own_put hr.ld (hoff _ ?_),own_put hr.cl (hoff _ ?_),hr.ne⟩,hoff,h.lo⟩,⟨fun b hb' hg' hn'=>?_,?_,fun a ha p e=>?_⟩,bCell2 hb5 (Nat.le_trans hB hg.size) h.lo⟩
 · simp [Dm.as]
 · simp [Dm.as]
 · simp [Dm.as]
 · simp [Dm.as]
 · simp [Dm.as]
 · simp [Dm.as]
 · rw [heap_setCell_other _ _ _ _ hg']
   exact hg.block b hb' (hn b hn')
 · have:=hg.size
   simp only [World.setCell]
   simpa using this
 · have hs:({ y with links:=⟨A',c',l'⟩ }:Dm).as=y.as.set 2 A':=rfl
   rw [hs] at ha
   rcases List.mem_or_eq_of_mem_set ha with hm | rfl
   · exact Or.inr ⟨a,hm,p,e,rfl⟩
   · rcases hA p e with k | ⟨q,k1,k2⟩
     · exact Or.inl k
     · exact Or.inr ⟨_,hmem,q,k1,k2⟩
theorem EdQ.set_closed {B g:Nat} {y:Dm} {w w5:World} {l':List Tm} {A':Option Addr} {c':Nat} (h:EdO B w g y) (hg:w.grownBy w5 (Value.slice y.closed.A y.closed.l.length y.closed.c).ownBlock) (ho:w5.ownsRow B trmT 4 (.slice A' l'.length c') l'.length (cellsOf encTm l')) (hA:∀ p,A'=some p→w.heap.size≤p.block∨∃ q,y.closed.A=some q∧q.block=p.block):EdQ B g y w { y with closed:=⟨A',c',l'⟩ } (w5.setCell ⟨g,13,none⟩ (.slice A' l'.length c')):=by
 have hlt:=blk_lt' h.box
 have hmem:y.closed.A∈y.as:=by simp [Dm.as]
 have hbox:w5.heap[g]? = some (.cells (drA y) edT (0,0)):=(hg.block g hlt (fun e=>by
  obtain ⟨p,e1,e2⟩:=slice_own e.symm
  exact h.off _ hmem p e1 e2)).trans h.box
 have hA2:∀ p,A'=some p→w.heap.size≤p.block∨∃ q,y.as[5]? = some (some q)∧q.block=p.block:=fun p e=>(hA p e).imp id fun ⟨q,h1,h2⟩=>⟨q,congrArg some h1,h2⟩
 have hr:DmO B w5 { y with closed:=⟨A',c',l'⟩ }:=⟨own_keepD h.rows.pr hg (ApR.symm (apart_at h.rows.ne 0 5 (by decide) (by show 5<6;decide))),own_keepD h.rows.tg hg (ApR.symm (apart_at h.rows.ne 1 5 (by decide) (by show 5<6;decide))),own_keepD h.rows.lk hg (ApR.symm (apart_at h.rows.ne 2 5 (by decide) (by show 5<6;decide))),own_keepD h.rows.rn hg (ApR.symm (apart_at h.rows.ne 3 5 (by decide) (by show 5<6;decide))),own_keepD h.rows.ld hg (ApR.symm (apart_at h.rows.ne 4 5 (by decide) (by show 5<6;decide))),ho,apart_set w.heap.size A' y.as 5 h.rows.ne h.rows.lt hA2⟩
 have hn:∀ b,(∀ a∈y.as,∀ p,a=some p→p.block≠b)→some b≠(Value.slice y.closed.A y.closed.l.length y.closed.c).ownBlock:=fun b hb e=>by
  obtain ⟨p,e1,e2⟩:=slice_own e.symm
  exact hb _ hmem p e1 e2
 have hB:=Nat.le_trans h.lo (Nat.le_of_lt hlt)
 have hb5:Below B w w5:=(Below.refl B w).grown hg hB (fun j e=>by
  obtain ⟨p,e1,e2⟩:=slice_own e
  rw [←e2]
  exact (own_rng h.rows.cl p e1).1)
 have h5:EdO B w5 g y∨True:=Or.inr trivial
 clear h5
 have hoff:=off_set (i:=5) h.off hlt hA2
 refine ⟨⟨row_setCell hbox _,⟨own_put hr.pr (hoff _ ?_),own_put hr.tg (hoff _ ?_),own_put hr.lk (hoff _ ?_),own_put hr.rn (hoff _ ?_),own_put hr.ld (hoff _ ?_),own_put hr.cl (hoff _ ?_),hr.ne⟩,hoff,h.lo⟩,⟨fun b hb' hg' hn'=>?_,?_,fun a ha p e=>?_⟩,bCell2 hb5 (Nat.le_trans hB hg.size) h.lo⟩
 · simp [Dm.as]
 · simp [Dm.as]
 · simp [Dm.as]
 · simp [Dm.as]
 · simp [Dm.as]
 · simp [Dm.as]
 · rw [heap_setCell_other _ _ _ _ hg']
   exact hg.block b hb' (hn b hn')
 · have:=hg.size
   simp only [World.setCell]
   simpa using this
 · have hs:({ y with closed:=⟨A',c',l'⟩ }:Dm).as=y.as.set 5 A':=rfl
   rw [hs] at ha
   rcases List.mem_or_eq_of_mem_set ha with hm | rfl
   · exact Or.inr ⟨a,hm,p,e,rfl⟩
   · rcases hA p e with k | ⟨q,k1,k2⟩
     · exact Or.inl k
     · exact Or.inr ⟨_,hmem,q,k1,k2⟩
end
section
open Go.RowKit Go.Maps
theorem app_str {B:Nat} {A:Option Addr} {c:Nat} {l:List Str} (v:ByteArray) (w:World) (h:w.ownsRow B strT 1 (.slice A l.length c) l.length (cellsOf encS l)) (hl:l.length≤10000000) (hB:B≤w.heap.size) :
 ∃ A' c' w',(apG #[32,32] 32 #[.slice A l.length c,.slice (some ⟨w.heap.size,0,none⟩) 1 1]).run Tryz.prog (w.alloc (.cells #[.string v] 9))=.ok (.slice A' (l.length+1) c') w'∧w'.ownsRow B strT 1 (.slice A' (l.length+1) c') (l.length+1) (cellsOf encS (l++[L v]))∧w.grownBy w' (Value.slice A l.length c).ownBlock∧∀ p,A'=some p→w.heap.size≤p.block∨∃ q,A=some q∧q.block=p.block:=by
 obtain ⟨i0,hi0,hz0,hz1,hz2⟩:=info_parts strInfoC
 obtain ⟨v',w',h1,h2,h3,_,h5⟩:=run_append_own_at (P:=Tryz.prog) (w.alloc (.cells #[.string v] 9)) B 32 32 9 i0 _ 1 16 Tryz.underlying32 hi0 hz0 hz1 hz2 rfl (by decide) (.slice A l.length c) l.length _ (own_below2 h (below_alloc _ _)) ⟨w.heap.size,0,none⟩ 1 1 [.string v] rfl (fun j u hu=>by
  rw [add_at,Nat.zero_add]
  exact cellOf (heap_alloc_new w _) (by rw [←hu,←Array.getElem?_toList])) (by simp [Value.oneCell']) (by unfold maxLen;omega) (by omega) (Nat.le_trans hB (below_alloc w _).size)
 rw [ap_g] at h1
 obtain ⟨NA,nc,rfl⟩:=own_slice h2
 have hc:cellsOf encS (l++[L v])=cellsOf encS l++[.string v]:=by rw [cellsOf_append];simp [cellsOf,encS,bs_L]
 refine ⟨NA,nc,w',h1,by rw [hc];exact h2,(grown_below (below_alloc w _) _).trans h3,fun p hp=>?_⟩
 have hpb:(Value.slice NA (l.length+1) nc).ownBlock=some p.block:=by rw [hp];rfl
 rcases h5 with k | k
 · rw [hpb] at k
   obtain ⟨q,e1,e2⟩:=slice_own k.symm
   exact Or.inr ⟨q,e1,e2⟩
 · rw [hpb] at k
   have:=Option.some.inj k
   have:=(below_alloc w (.cells #[.string v] 9)).size
   exact Or.inl (by omega)
attribute [local go_sem ↓] ap_g
end
section
open Go.RowKit
def turnK (s:ByteArray) (k:Nat):ByteArray:=bs (turnS ((L s).take k)++(L s).drop k)
def goodF:Nat→Bool:=addS partS [47]
def turnB (b:UInt8):UInt8:=if goodF b.toNat then b else 95
theorem turnK_size (s:ByteArray) (k:Nat):(turnK s k).size=s.size:=by
 unfold turnK turnS
 rw [size_bs,List.length_append,List.length_map,←List.length_append,List.take_append_drop,len_L]
theorem turnK_all (s:ByteArray):turnK s s.size=bs (turnS (L s)):=by
 unfold turnK
 rw [List.take_of_length_le (by rw [len_L];exact Nat.le_refl _),List.drop_of_length_le (by rw [len_L];exact Nat.le_refl _),List.append_nil]
theorem L_at (s:ByteArray) {i:Nat} (h:i<s.size):(L s)[i]? = some s[i]:=byte_at s i h
theorem turnK_get (s:ByteArray) (k i:Nat) (hi:i<s.size):(L (turnK s k))[i]? = some (if i<k then turnB s[i] else s[i]):=by
 have hl:i<(L s).length:=by rw [len_L];exact hi
 unfold turnK turnS
 rw [L_bs,List.getElem?_append]
 by_cases h:i<k
 · rw [if_pos h,if_pos (by rw [List.length_map,List.length_take];omega),List.getElem?_map,List.getElem?_take,if_pos h,L_at s hi]
   rfl
 · rw [if_neg h]
   have h2:¬ i<(((L s).take k).map fun b=>if addS partS [47] b.toNat then b else 95).length:=by rw [List.length_map,List.length_take];omega
   rw [if_neg h2,List.length_map,List.length_take,List.getElem?_drop]
   have e:k+(i - min k (L s).length)=i:=by omega
   rw [e,L_at s hi]
theorem turnK_at (s:ByteArray) (k i:Nat) (hi:i<s.size) (h2:i<(turnK s k).size):(turnK s k)[i]=if i<k then turnB s[i] else s[i]:=by
 have h1:=turnK_get s k i hi
 rw [L_at _ h2] at h1
 exact Option.some.inj h1
structure TrnAt (W:World) (G B:Nat) (s:ByteArray) (k:Nat) (wr:World):Prop where
 by_:Lib.Bytes wr B 0 (turnK s k)
 fr:∀ j,j<s.size→wr.frozen? ⟨B,j,none⟩=false
 set_:wr.heap[G]? = some (.cells (setA goodF) 259 (0,0))
 bel:Below W.heap.size W wr
 bs:B<wr.heap.size
theorem TrnAt.cell {W:World} {G B:Nat} {s:ByteArray} {k:Nat} {wr:World} (h:TrnAt W G B s k wr) (hk:k<s.size):wr.cell? ⟨B,k,none⟩=some (.int .u8 (s[k].toNat:Int)):=by
 have h1:=h.by_ k (by rw [turnK_size];exact hk)
 rw [Nat.zero_add,turnK_at s k k hk,if_neg (Nat.lt_irrefl k)] at h1
 exact h1
theorem TrnAt.keep {W:World} {G B:Nat} {s:ByteArray} {k:Nat} {wr:World} (h:TrnAt W G B s k wr) (hk:k<s.size) (hg:goodF s[k].toNat=true):TrnAt W G B s (k+1) wr:=by
 refine ⟨fun i hi=>?_,h.fr,h.set_,h.bel,h.bs⟩
 rw [turnK_size] at hi
 have h1:=h.by_ i (by rw [turnK_size];exact hi)
 rw [h1,turnK_at s k i hi,turnK_at s (k+1) i hi]
 by_cases e:i<k
 · rw [if_pos e,if_pos (by omega)]
 · rw [if_neg e]
   by_cases e2:i=k
   · subst e2
     rw [if_pos (by omega)]
     unfold turnB
     rw [if_pos hg]
   · rw [if_neg (by omega)]
theorem TrnAt.put {W:World} {G B:Nat} {s:ByteArray} {k:Nat} {wr:World} (h:TrnAt W G B s k wr) (hk:k<s.size) (hg:goodF s[k].toNat=false) (hGB:G≠B) (hB:W.heap.size≤B):TrnAt W G B s (k+1) (wr.setCell ⟨B,k,none⟩ (.int .u8 95)):=by
 have hsz:(wr.setCell ⟨B,k,none⟩ (.int .u8 95)).heap.size=wr.heap.size:=by simp [World.setCell]
 refine ⟨fun i hi=>?_,fun j hj=>?_,?_,bCell h.bel hB,by rw [hsz];exact h.bs⟩
 · rw [turnK_size] at hi
   have h1:=h.by_ i (by rw [turnK_size];exact hi)
   rw [Nat.zero_add] at h1 ⊢
   rw [turnK_at s (k+1) i hi]
   by_cases e2:i=k
   · subst e2
     rw [World.cell?_setCell_same _ _ _ h1,if_pos (by omega)]
     unfold turnB
     rw [hg];rfl
   · rw [World.cell?_setCell_other _ _ _ _ (fun e=>e2 (by injection e with _ e;exact e.symm)),h1,turnK_at s k i hi]
     by_cases e:i<k
     · rw [if_pos e,if_pos (by omega)]
     · rw [if_neg e,if_neg (by omega)]
 · rw [World.frozen?_setCell];exact h.fr j hj
 · rw [heap_setCell_other _ _ _ _ hGB];exact h.set_
theorem bytes_belowC (w:World) (t:ByteArray):Below w.heap.size w (Lib.bytesWorld w 5 t):=⟨rfl,rfl,rfl,by rw [Lib.bytesWorld_size];omega,fun k hk=>Lib.bytesWorld_at_old _ _ _ _ hk⟩
theorem bytes_trn (s:ByteArray) (G:Nat) (w W:World) (hb:Below w.heap.size w W) (hG:G<W.heap.size) (hs:W.heap[G]? = some (.cells (setA goodF) 259 (0,0))):TrnAt w G W.heap.size s 0 (Lib.bytesWorld W 5 s):=by
 refine ⟨fun i hi=>?_,fun j hj=>?_,((bytes_belowC W s).block G hG).trans hs,bt hb (bytes_belowC W s),by rw [Lib.bytesWorld_size];omega⟩
 · rw [turnK_size] at hi
   rw [Nat.zero_add,Lib.bytesWorld_cell W _ s i hi,turnK_at s 0 i hi,if_neg (Nat.not_lt_zero i)]
   congr 2
   have:=L_at s hi
   show (((L s).getD i 0).toNat:Int)=_
   rw [List.getD,this];rfl
 · have h1:s.size≤(Lib.bytesCells W 5 s).size:=by unfold Lib.bytesCells;simp
   unfold World.frozen?
   rw [Lib.bytesWorld_at_new]
   simp
   omega
theorem SetHas {w:World} {G:Nat} {f:Nat→Bool} (h:w.heap[G]? = some (.cells (setA f) 259 (0,0))) {c:Nat} (hc:c<256):w.cell? ⟨G,c,none⟩=some (.bool (f c)):=by
 rw [cell_of_row _ _ c _ _ _ h,setA_get f c hc]
theorem joinC_len (M:Nat) (l:List Str) (h:∀ x∈l,x.length≤M):(Lib.join l [47]).length≤l.length*(M+1):=by
 induction l with
 | nil=>simp [Lib.join]
 | cons x l ih =>
   have h1:=h x (by simp)
   have h2:=ih (fun y hy=>h y (by simp [hy]))
   cases l with
   | nil=>simp [Lib.join] at h2 ⊢;omega
   | cons y l =>
     have hj:Lib.join (x :: y :: l) [47]=x++([47]++Lib.join (y :: l) [47]):=by
      simp [Lib.join,List.intercalate,List.intersperse]
     rw [hj]
     have e:=Nat.succ_mul (l.length+1) (M+1)
     simp only [Nat.succ_eq_add_one] at e
     simp only [List.length_append,List.length_cons,List.length_nil] at h2 ⊢
     rw [e]
     generalize (l.length+1)*(M+1)=Z at *
     omega
theorem cells_encS (l:List Str):cellsOf encS l=(l.map bs).map Value.string:=by
 induction l with
 | nil=>rfl
 | cons s l ih=>rw [List.map_cons,List.map_cons,←ih];rfl
theorem JoinC_own (W:World) (base:Nat) (v:Value) (xs:List Str) (M:Nat) (hn:xs.length≤M) (hM:M≤4294967) (hx:∀ x∈xs,x.length≤M) (h:W.ownsRow base 9 1 v xs.length (cellsOf encS xs)) :
 Calls Tryz.prog 64 #[v,.string ⟨#[47]⟩] W fun e w'=>e=.returned (.string (bs (Lib.join xs [47])))∧Below W.heap.size W w':=by
 rw [cells_encS] at h
 have hjl:=joinC_len M xs hx
 have hmul:xs.length*(M+1)≤140737488355328:=Nat.le_trans (Nat.mul_le_mul hn (Nat.le_refl (M+1))) (Nat.le_trans (Nat.mul_le_mul hM (Nat.succ_le_succ hM)) (by decide))
 cases xs with
 | nil =>
   rcases h.2 with ⟨rfl,_⟩ | ⟨g,cap,cur,rfl,_⟩
   · exact (Tryz.strings_Join_none none 0 ⟨#[47]⟩ W).mono fun e w' h=>⟨h.1,by rw [h.2];exact Below.refl _ _⟩
   · exact (Tryz.strings_Join_none (some ⟨g,0,none⟩) cap ⟨#[47]⟩ W).mono fun e w' h=>⟨h.1,by rw [h.2];exact Below.refl _ _⟩
 | cons x xs =>
   have hl:(((x :: xs).map bs).map (·.data.toList))=x :: xs:=by
    rw [List.map_map]
    exact (List.map_congr_left (fun y _=>L_bs y)).trans (List.map_id _)
   rcases h.2 with ⟨_,h0⟩ | ⟨g,cap,cur,rfl,hb,hgg,hroom,_,_,_⟩
   · simp at h0
   · have hc:∀ (j:Nat) (y:ByteArray),((x :: xs).map bs)[j]? = some y→W.cell? ⟨g,0+j,none⟩=some (.string y):=fun j y hy=>by
      have:=h.cells (g:=g) rfl j (.string y) (by rw [List.getElem?_map,hy];rfl)
      have hadd:(⟨g,0,none⟩:Addr).add j=⟨g,j,none⟩:=by unfold Addr.add;split <;> simp_all
      rw [hadd] at this
      rw [Nat.zero_add];exact this
     have hJ:=Tryz.strings_Join g 0 cap ((x :: xs).map bs) ⟨#[47]⟩ W hc (blk_lt hgg) (by rw [List.length_map];omega) (by rw [List.length_map];exact hroom) (by rw [hl];exact Nat.le_trans hjl hmul)
     rw [hl,List.length_map] at hJ
     exact hJ
def keptK (ps:List ByteArray) (k:Nat):List Str:=((ps.take k).map L).filter keepB
theorem keptK_succ (ps:List ByteArray) {k:Nat} (hk:k<ps.length):keptK ps (k+1)=keptK ps k++(if keepB (L ps[k]) then [L ps[k]] else []):=by
 unfold keptK
 rw [List.take_succ_eq_append_getElem hk,List.map_append,List.filter_append]
 congr 1
 rw [List.map_singleton,List.filter_cons,List.filter_nil]
theorem keptK_len (ps:List ByteArray) (k:Nat):(keptK ps k).length≤k:=by
 unfold keptK
 refine Nat.le_trans (List.length_filter_le _ _) ?_
 rw [List.length_map,List.length_take];omega
theorem keptK_mem {ps:List ByteArray} {M:Nat} (h:∀ x∈ps,x.size≤M) (k:Nat):∀ x∈keptK ps k,x.length≤M:=fun x hx=>by
 obtain ⟨h1,_⟩:=List.mem_filter.1 hx
 obtain ⟨y,hy,rfl⟩:=List.mem_map.1 h1
 rw [len_L]
 exact h y (List.mem_of_mem_take hy)
attribute [local go_sem ↓] ap_g
def cleanV:Option ByteArray→Value
 | some t=>.tuple #[.string t,.bool true]
 | none=>.tuple #[.string ⟨#[]⟩,.bool false]
set_option maxHeartbeats 8000000 in
theorem Clean_any (s:ByteArray) (w:World) (hE:Env0 w) (hs:s.size≤1000000) :
 Calls Tryz.prog 218 #[.string s] w fun e w'=>e=.returned (cleanV (cleanS s))∧Below w.heap.size w w':=by
 have Hi:=Lib.hid (zero_of_info set_info).2
 have HSz:=Lib.hid (size_setA goodF)
 have HS1:=Lib.hid (setA_one goodF)
 have HPt:=Lib.hid parts_any
 have HPl:Hid (∀ W,Calls Tryz.prog 189 #[.agg (setA partS),.string ⟨#[47]⟩] W fun e w'=>e=.returned (.agg (setA goodF))∧Below W.heap.size W w'):=Lib.hid fun W=>plus_any partS ⟨#[47]⟩ W (by decide)
 have HNw:Hid (∀ w2:World,_∧_):=Lib.hid fun w2=>setNew (w2:=w2) (f:=goodF)
 have hcv:=fun W=>Lib.run_convert_string_bytes (P:=Tryz.prog) W 9 146 5 s (u:=.string) Tryz.underlying9 Tryz.underlying146 Tryz.underlying5
 have HEn:=Lib.hid hE
 clear hE
 generalize hS:setA goodF=S at *
 generalize setA partS=S0 at *
 have HSd:=Lib.hid hS
 clear hS
 go_enter Tryz.func218,Tryz.ntmps218
 go_upto_region 2 with (first
  | (go_at_call 244;refine (HPt.out _).mono ?_;rintro e w1 ⟨rfl,hb1⟩;have HB1:=Lib.hid hb1;clear hb1)
  | (go_at_call 189;refine (HPl.out _).mono ?_;rintro e w2 ⟨rfl,hb2⟩;have HB2:=Lib.hid (bt HB1.out hb2);clear hb2)
  | (refine wpList_store_row rfl 259 _ _ rfl _ _ rfl rfl _ _ (heap_alloc_new _ _) (by rw [HSz.out];exact Hi.out) (by rw [zero_set,size_setA,HSz.out]) HS1.out ?_))
 obtain ⟨hG,hbG⟩:=HNw.out w2
 generalize hW3:(w2.alloc (.cells Tryz.zeroCells259 259)).setRow w2.heap.size S=W3 at *
 have hs3:w2.heap.size<W3.heap.size:=by rw [←hW3];simp
 have HG:=Lib.hid hG
 have HS3:=Lib.hid hs3
 have HB3:=Lib.hid (bt HB2.out hbG)
 clear hW3 hG hbG hs3
 have hcv3:=hcv W3
 clear hcv
 go_upto_region 3 with fail
 obtain ⟨W4,hW4⟩:∃ W4,Lib.bytesWorld W3 5 s=W4:=⟨_,rfl⟩
 have hT:=bytes_trn s w2.heap.size w W3 HB3.out HS3.out (by rw [HSd.out];exact HG.out)
 rw [hW4] at hT ⊢
 have HT:=Lib.hid hT
 have HNe:=Lib.hid (show w2.heap.size≠W3.heap.size by have:=HS3.out;omega)
 have HLe:=Lib.hid (show w.heap.size≤W3.heap.size from HB3.out.size)
 clear hT hW4 hcv3
 obtain ⟨cp,hcp⟩:∃ cp,grownCap W3 s.size 0 5=cp:=⟨_,rfl⟩
 rw [hcp]
 clear hcp
 go_wp2
 go_loopg [6,7,18] s.size (fun gk _ _ i wr=>∃ k:Nat,i=.int .i64 k∧k≤s.size∧k+gk=s.size∧Hid (TrnAt w w2.heap.size W3.heap.size s k wr))
 case atStart=>exact ⟨0,rfl,Nat.zero_le _,by omega,HT⟩
 case round =>
  obtain ⟨k,rfl,hk,hkg,HK⟩:=hrel
  by_cases hlt:k<s.size
  · have hb:(s[k].toNat:Int)<256:=by have:=s[k].toNat_lt;omega
    have hc:=HK.out.cell hlt
    have hf:=HK.out.fr k hlt
    have hset:=SetHas HK.out.set_ (c:=s[k].toNat) (by omega)
    cases hg:goodF s[k].toNat with
    | true =>
      rw [hg] at hset
      have HN:=HK.out.keep hlt hg
      have HNx:=Lib.hid HN
      clear HN hg
      generalize s[k]=b at *
      go_wp2
      go_roundg (gk - 1)
      case measure=>omega
      case rel=>exact ⟨k+1,by go_num,by omega,by omega,HNx⟩
    | false =>
      rw [hg] at hset
      have HN:=HK.out.put hlt hg HNe.out HLe.out
      have HNx:=Lib.hid HN
      clear HN hg
      generalize s[k]=b at *
      go_wp2
      go_roundg (gk - 1)
      case measure=>omega
      case rel=>exact ⟨k+1,by go_num,by omega,by omega,HNx⟩
  · obtain rfl:k=s.size:=by omega
    have hb0:=HK.out.bel
    have hcs:=Lib.run_convert_whole (P:=Tryz.prog) wr 146 5 9 Tryz.underlying146 Tryz.underlying5 Tryz.underlying9 W3.heap.size 0 (turnK s s.size) HK.out.by_ cp
    rw [turnK_size,turnK_all] at hcs
    have hTs:(bs (turnS (L s))).size=s.size:=by rw [←turnK_all,turnK_size]
    have HSp:=Lib.hid (SplitC_any (bs (turnS (L s))) wr (HEn.out.go hb0) (by omega))
    have HpL:=Lib.hid (partsC_le (bs (turnS (L s))) 47)
    have HpM:=Lib.hid (partsC_mem (bs (turnS (L s))) 47)
    have HTs:=Lib.hid hTs
    have hE3:cleanT s=bs (Lib.join (keptK (partsC 47 (bs (turnS (L s)))) (partsC 47 (bs (turnS (L s)))).length) [47]):=by
     unfold keptK cleanT
     rw [List.take_length]
    have HE3:=Lib.hid hE3
    have HB0:=Lib.hid hb0
    clear hE3 hTs hb0 HK
    generalize bs (turnS (L s))=T at *
    generalize partsC 47 T=ps at *
    obtain ⟨W5,hW5⟩:∃ W5,W5=wr:=⟨_,rfl⟩
    subst hW5
    go_wp2_with (go_at_call 101;refine HSp.out.mono ?_;rintro e w6 ⟨rfl,rfl⟩)
    generalize hN:ps.length=N at *
    have HN:=Lib.hid hN
    clear hN hcs
    have HR0:=Lib.hid (strRow W5 ps)
    generalize hW6:W5.alloc (.cells (ps.map Value.string).toArray 9)=W6 at *
    have HB6:=Lib.hid (show Below w.heap.size w W6 by rw [←hW6];exact bt HB0.out (below_alloc _ _))
    have HS6:=Lib.hid (show W6.heap.size=W5.heap.size+1 by rw [←hW6];simp)
    clear hW6
    go_loopg [8,10,35] N (fun gk v _ i wl=>∃ (k:Nat) (A:Option Addr) (c:Nat),i=.int .i64 k∧k≤N∧k+gk=N∧v=.slice A (keptK ps k).length c∧Hid (wl.ownsRow W6.heap.size strT 1 (.slice A (keptK ps k).length c) (keptK ps k).length (cellsOf encS (keptK ps k)))∧Hid (Below W6.heap.size W6 wl))
    case atStart=>exact ⟨0,none,0,rfl,Nat.zero_le _,by omega,rfl,Lib.hid (World.ownsRow_nil _ _ _ _),Lib.hid (Below.refl _ _)⟩
    case round =>
     obtain ⟨k,A,c,rfl,hk,hkg,rfl,HO,HB⟩:=hrel
     by_cases hlt:k<N
     · have hlt':k<ps.length:=by rw [HN.out];exact hlt
       have hrow:=HR0.out
       rw [←HS6.out] at hrow
       obtain ⟨ba,off,ea,hc⟩:=str_at (B:=W6.heap.size) hrow HB.out hlt'
       have hsc:=keptK_succ ps hlt'
       have hkl:(keptK ps k).length≤10000000:=by have:=keptK_len ps k;have:=HpL.out;have:=HTs.out;omega
       injection ea with ea
       injection ea with ea1 ea2
       subst ea1 ea2
       rw [Nat.zero_add] at hc
       have hNs:N≤1000001:=by have:=HpL.out;have:=HTs.out;omega
       have hwl:W5.heap.size<wr.heap.size:=by have:=HB.out.size;have:=HS6.out;omega
       generalize ps[k]=x at *
       have HSc:=Lib.hid hsc
       clear hsc hrow
       by_cases h0:x.toList=[]
       · have hkp:keepB (L x)=false:=by rw [L_nil h0];rfl
         go_wp2
         go_roundg (gk - 1)
         case measure=>omega
         case rel =>
          have e:=HSc.out
          rw [hkp,if_neg (by decide),List.append_nil] at e
          refine ⟨k+1,A,c,by go_num,by omega,by omega,by rw [e],?_,HB⟩
          rw [e];exact HO
       · have h0':x.toList.isEmpty=false:=by rw [tl];exact L_ne h0
         by_cases h1:x.toList=[46]
         · have hkp:keepB (L x)=false:=by unfold keepB;rw [←tl,h1];rfl
           go_wp2
           go_roundg (gk - 1)
           case measure=>omega
           case rel =>
            have e:=HSc.out
            rw [hkp,if_neg (by decide),List.append_nil] at e
            refine ⟨k+1,A,c,by go_num,by omega,by omega,by rw [e],?_,HB⟩
            rw [e];exact HO
         · have hkp:keepB (L x)=true:=by
            unfold keepB
            rw [←tl,h0']
            simpa using h1
           obtain ⟨A5,c5,w5,hap,hown,hgr,_⟩:=app_str (A:=A) (c:=c) (l:=keptK ps k) x wr HO.out (by omega) HB.out.size
           have e:=HSc.out
           rw [hkp,if_pos rfl] at e
           have HE5:=Lib.hid e
           have hb5:Below W6.heap.size W6 w5:=(HB.out).grown hgr HB.out.size (fun j ej=>by
            obtain ⟨p,e1,e2⟩:=slice_own ej
            rw [←e2]
            exact (own_rng HO.out p e1).1)
           have HO5:=Lib.hid hown
           have HB5:=Lib.hid hb5
           clear hown hgr hb5 e hkp
           have h1b:(x.toList == [46])=false:=by simpa using h1
           go_wp2
           go_roundg (gk - 1)
           case measure=>omega
           case rel =>
            have hl5:(keptK ps (k+1)).length=(keptK ps k).length+1:=by rw [HE5.out];simp
            refine ⟨k+1,A5,c5,by go_num,by omega,by omega,by rw [hl5],Lib.hid ?_,HB5⟩
            rw [hl5,HE5.out]
            exact HO5.out
     · obtain rfl:k=N:=by omega
       have hO:=HO.out
       have HJ:=Lib.hid (JoinC_own wr W6.heap.size (.slice A (keptK ps k).length c) (keptK ps k) 1000001 (by have:=keptK_len ps k;have:=HpL.out;have:=HTs.out;omega) (by omega) (fun x hx=>by have:=keptK_mem (M:=T.size) HpM.out k x hx;have:=HTs.out;omega) hO)
       have hE4:=HE3.out
       rw [←hE4] at HJ
       have HBf:=Lib.hid (bt HB6.out HB.out)
       have hcl:(cleanT s).size≤4611686018427387904:=by
        rw [hE4,size_bs]
        have hm:=keptK_len ps k
        have h1:=joinC_len T.size (keptK ps k) (keptK_mem (M:=T.size) HpM.out k)
        have h2:(keptK ps k).length*(T.size+1)≤1000001*1000001:=Nat.mul_le_mul (by have:=HpL.out;have:=HTs.out;omega) (by have:=HTs.out;omega)
        omega
       have HLk:=Lib.hid (fun (W:World) (hW:Below w.heap.size w W)=>Link_any (cleanT s) W (HEn.out.go hW) hcl)
       have HE5:Hid (cleanS s=if linkB (cleanT s) then some (cleanT s) else none):=Lib.hid rfl
       clear hE4 hO HE3 hcl
       generalize (keptK ps k).length=m at *
       cases hlb:linkB (cleanT s) with
       | true =>
         rw [hlb] at HLk HE5
         go_wp2_with (first | (go_at_call 64;refine HJ.out.mono ?_;rintro e w7 ⟨rfl,hb7⟩;have HB7:=Lib.hid (bt HBf.out hb7);clear hb7) | (go_at_call 245;refine (HLk.out _ HB7.out).mono ?_;rintro e w8 ⟨rfl,hb8⟩))
         go_ret2
         rw [HE5.out]
         exact ⟨rfl,bt HB7.out hb8⟩
       | false =>
         rw [hlb] at HLk HE5
         go_wp2_with (first | (go_at_call 64;refine HJ.out.mono ?_;rintro e w7 ⟨rfl,hb7⟩;have HB7:=Lib.hid (bt HBf.out hb7);clear hb7) | (go_at_call 245;refine (HLk.out _ HB7.out).mono ?_;rintro e w8 ⟨rfl,hb8⟩))
         go_ret2
         rw [HE5.out]
         exact ⟨rfl,bt HB7.out hb8⟩
end
section
open Go.RowKit
theorem dv_row {w wr:World} {B:Nat} {A:Option Addr} {ds:List Dv} (h:RowAt w B A 10 ds.length (cellsOf encDv ds)) (hb:Below B w wr) {k:Nat} (hk:k<ds.length):∃ ba off,A=some ⟨ba,off,none⟩∧ba<B∧∀ i v,(encDv ds[k])[i]? = some v→wr.cell? ⟨ba,off+k*10+i,none⟩=some v:=by
 obtain ⟨b,off,e,hB,hc⟩:=h.cell encDv_len hk
 refine ⟨b,off,e,hB,fun i v hv=>?_⟩
 rw [hb.cell (p:=⟨b,off+k*10+i,none⟩) hB,Nat.add_assoc]
 exact hc k ds[k] (List.getElem?_eq_getElem hk) i v hv
def orgX (cs:List Dv):List Str:=cs.reverse.map fun d=>L d.og
theorem orgX_len (cs:List Dv):(orgX cs).length=cs.length:=by unfold orgX;rw [List.length_map,List.length_reverse]
theorem orgX_drop (cs:List Dv) {k:Nat} (hk:k<cs.length):orgX (cs.drop k)=orgX (cs.drop (k+1))++[L cs[k].og]:=by
 rw [List.drop_eq_getElem_cons hk]
 unfold orgX
 rw [List.reverse_cons,List.map_append];rfl
theorem strInfoX:(Tryz.prog.info? strT).map (fun i=>(i.zero,i.size,i.bytes))=some (some (.string ⟨#[]⟩),1,16):=by kernel_rfl
theorem encS_onex (s:Str):∀ u∈encS s,u.oneCell'=true:=by
 intro u hu
 simp only [encS,List.mem_cons,List.not_mem_nil,or_false] at hu
 rw [hu];rfl
theorem app_str1 {B:Nat} {A:Option Addr} {c:Nat} {l:List Str} (t:ByteArray) (w:World) (h:w.ownsRow B strT 1 (.slice A l.length c) l.length (cellsOf encS l)) (hl:l.length≤1000000) (hB:B≤w.heap.size) :
 ∃ A' c' w',(apG #[32,32] 32 #[.slice A l.length c,.slice (some ⟨w.heap.size,0,none⟩) 1 1]).run Tryz.prog (w.alloc (.cells #[.string t] strT))=.ok (.slice A' (l.length+1) c') w'∧w'.ownsRow B strT 1 (.slice A' (l.length+1) c') (l.length+1) (cellsOf encS (l++[L t]))∧w.grownBy w' (Value.slice A l.length c).ownBlock∧∀ p,A'=some p→w.heap.size≤p.block∨∃ q,A=some q∧q.block=p.block:=by
 have h1:=app_gen (S:=32) (T:=strT) (k:=1) (b:=16) (enc:=encS) (by exact Tryz.underlying32) (by exact strInfoX) rfl (by decide) (by decide) (fun _=>rfl) encS_onex (L t) w h hl hB
 have e:(encS (L t)).toArray=#[.string t]:=by unfold encS;rw [bs_L]
 rw [e] at h1
 exact h1
def ROrP (cs:List Dv) (w:World) (e:Ending) (w':World):Prop:=∃ A' c',e=.returned (.slice A' (orgX cs).length c')∧w'.ownsRow w.heap.size strT 1 (.slice A' (orgX cs).length c') (orgX cs).length (cellsOf encS (orgX cs))∧Below w.heap.size w w'
attribute [local go_sem ↓] ap_g
set_option maxHeartbeats 2000000 in
theorem ROrg_any (A:Option Addr) (c:Nat) (ds:List Dv) (n:Int) (w:World) (h:TrN w A ds) :
 Calls Tryz.prog 44 #[trV A ds c,.int .i64 n] w (ROrP (chX ds ds.length n) w):=by
 obtain ⟨w1,hw1⟩:∃ w1,w.alloc (.cells #[.slice A ds.length c] 30)=w1:=⟨_,rfl⟩
 have hb1:Below w.heap.size w w1:=by rw [←hw1];exact below_alloc _ _
 have hr1:w1.heap[w.heap.size]? = some (.cells #[.slice A ds.length c] 30 (0,0)):=by rw [←hw1];exact heap_alloc_new _ _
 have hlen:=h.len
 have HC:=Lib.hid (RChain_any A c ds n w1 (h.keep hb1))
 unfold trV at HC
 have hcl:=chX_len ds ds.length n
 have c0:=cellOf (j:=0) hr1 rfl
 have hlW:w.heap.size<w1.heap.size:=blk_lt' hr1
 generalize chX ds ds.length n=cs at *
 have HB1:=Lib.hid hb1
 have HW1:=Lib.hid hw1
 clear hb1 hr1 hw1 h
 unfold trV
 have hclb:cs.length≤1000:=Nat.le_trans hcl hlen
 clear hcl hlen
 generalize ds.length=N at *
 unfold RChP at HC
 go_enter Tryz.func44,Tryz.ntmps44
 go_upto_region 1 with fail
 rw [HW1.out]
 go_wp2_with (go_at_call 63;refine HC.out.mono ?_;rintro e w2 ⟨CA,cc,rfl,hown,hb2⟩;have HO2:=Lib.hid (RowAt.of_own hown);have HB2:=Lib.hid hb2;clear hown hb2 c0)
 go_loopg [5,7] (cs.length+1) (fun gk s5 s7 wr=>∃ (k:Nat) (OA:Option Addr) (oc:Nat),s7=.int .i64 ((k:Int) - 1)∧k≤cs.length∧k+1=gk∧s5=.slice OA (orgX (cs.drop k)).length oc∧Hid (wr.ownsRow w2.heap.size strT 1 (.slice OA (orgX (cs.drop k)).length oc) (orgX (cs.drop k)).length (cellsOf encS (orgX (cs.drop k))))∧Hid (Below w2.heap.size w2 wr))
 case atStart=>exact ⟨cs.length,none,0,rfl,Nat.le_refl _,rfl,by rw [List.drop_length];rfl,by rw [List.drop_length];exact Lib.hid (World.ownsRow_nil _ _ _ _),Lib.hid (Below.refl _ _)⟩
 case round =>
  obtain ⟨k,OA,oc,rfl,hk,hkg,rfl,HO,HB⟩:=hrel
  by_cases hk0:k=0
  · subst hk0
    have HO0:=HO.out
    rw [List.drop_zero] at HO0 ⊢
    have HOe:=Lib.hid HO0
    clear HO0
    go_wp2
    go_ret
    exact ⟨OA,oc,rfl,own_base HOe.out (bt HB1.out HB2.out).size,bt HB1.out (bt HB2.out HB.out)⟩
  · obtain ⟨j,rfl⟩:∃ j,k=j+1:=⟨k - 1,by omega⟩
    have hj:j<cs.length:=by omega
    have hji:((j+1:Nat):Int) - 1=(j:Int):=by omega
    rw [hji]
    obtain ⟨ba,off,rfl,hba,hc⟩:=dv_row HO2.out HB.out hj
    have c3:=hc 3 _ rfl
    have hj0:(0:Int)≤(j:Int):=by omega
    have hjI:(j:Int)<(cs.length:Int):=by omega
    have HD:=Lib.hid (orgX_drop cs hj)
    have hol:(orgX (cs.drop (j+1))).length≤1000:=by rw [orgX_len,List.length_drop];omega
    have HAp:=Lib.hid (fun (W:World) (hW:Below wr.heap.size wr W)=>app_str1 cs[j].og W (own_below2 HO.out hW) (by omega) (Nat.le_trans HB.out.size hW.size))
    obtain ⟨A6,c6,w6,hap,hown,hgr,_⟩:=HAp.out wr (Below.refl _ _)
    have HO6:=Lib.hid hown
    have HB6:=Lib.hid (HB.out.grown hgr HB.out.size (fun i ej=>by
     obtain ⟨p,e1,e2⟩:=slice_own ej
     have:=own_rng HO.out p e1
     rw [←e2];exact this.1):Below w2.heap.size w2 w6)
    generalize cs[j].og=og at *
    generalize hoo:orgX (cs.drop (j+1))=oo at *
    clear hc hown hgr HAp hoo
    have hbw:ba<wr.heap.size:=Nat.lt_of_lt_of_le hba HB.out.size
    go_wp2
    go_roundg (j+1)
    case measure=>omega
    case rel =>
     have hl9:(orgX (cs.drop j)).length=oo.length+1:=by rw [HD.out];simp
     refine ⟨j,A6,c6,by go_num,by omega,by omega,by rw [hl9],?_,HB6⟩
     rw [hl9,HD.out];exact HO6
end
section
open Go.RowKit
end
section
open Go.RowKit Go.Shelf
def InsP (B:Nat) (A:Option Addr) (c:Nat) (l l':List Str) (w:World) (e:Ending) (w':World):Prop:=∃ A' c',e=.returned (.slice A' l'.length c')∧w'.ownsRow B strT 1 (.slice A' l'.length c') l'.length (cellsOf encS l')∧w.grownBy w' (Value.slice A l.length c).ownBlock∧∀ p,A'=some p→w.heap.size≤p.block∨∃ q,A=some q∧q.block=p.block
abbrev boxS (w:World) (v:ByteArray):World:=w.alloc (.cells #[.string v] 9)
theorem box_cell (w:World) (v:ByteArray):∀ j u,([.string v]:List Value)[j]? = some u→(boxS w v).cell? ⟨w.heap.size,0+j,none⟩=some u:=fun j u hu=>by
 rw [Nat.zero_add]
 exact cellOf (heap_alloc_new w _) (by rw [←hu,←Array.getElem?_toList])
theorem cells_snoc (l:List Str) (v:ByteArray):cellsOf encS (l++[L v])=cellsOf encS l++[.string v]:=by rw [cellsOf_append];simp [cellsOf,encS,bs_L]
theorem ins_end_grow {B:Nat} (A:Option Addr) (c:Nat) (l:List Str) (v:ByteArray) (w:World) (h:w.ownsRow B strT 1 (.slice A l.length c) l.length (cellsOf encS l)) (hl:l.length≤10000) (hc:c<l.length+1) (hB:B≤w.heap.size) :
 Calls Tryz.prog 223 #[.slice A l.length c,.int .i64 l.length,.slice (some ⟨w.heap.size,0,none⟩) 1 1] (boxS w v) (InsP B A c l (l++[L v]) w):=by
 have hb:=below_alloc w (.cells #[.string v] 9)
 have h1:=own_below2 h hb
 have hLs:=(LsN.of_own h1).1
 have hcl:(cellsOf encS l).length=l.length:=by have:=h.1;omega
 have hI:=Any2.slices_Insert_string_end_grow laysIns A l.length c w.heap.size 0 1 1 (cellsOf encS l) [.string v] (boxS w v) (by omega) hLs.cap hc (by omega) hcl rfl (fun e=>by
  rcases Nat.eq_zero_or_pos l.length with k | k
  · exact k
  · obtain ⟨_,_,e2,_⟩:=hLs.row.row.at_ k
    rw [e] at e2;cases e2) (fun a ha j u hu=>by
  have hj:0<l.length:=by have:=(List.getElem?_eq_some_iff.1 hu).1;omega
  obtain ⟨b,o,e2,_,hcc⟩:=hLs.row.row.at_ hj
  rw [ha] at e2
  injection e2 with e2
  rw [e2,add_at]
  exact hcc j u hu) (box_cell w v) (by simp [Value.oneCell'])
 refine hI.mono ?_
 rintro e w' ⟨rfl,rfl⟩
 have hlen:(l++[L v]).length=l.length+1:=by simp
 refine ⟨some ⟨(boxS w v).heap.size,0,none⟩,grownCap (boxS w v) (l.length+1) c strT,by rw [hlen];rfl,?_,grown_below (bAl (bDr hb)) _,fun p hp=>Or.inl ?_⟩
 · refine ⟨by rw [hlen,cells_snoc,List.length_append,hcl,List.length_singleton];omega,Or.inr ⟨(boxS w v).heap.size,_,_,rfl,Nat.le_trans hB hb.size,heap_alloc_new (boxS w v).drew _,by rw [hlen];exact grownCap_ge _ _ _ _,grownCap_le_maxLen _ _ _ _ (by unfold maxLen;omega),?_,?_⟩⟩
   · have hge:=grownCap_ge (boxS w v) (l.length+1) c strT
     have hz:(Value.string ⟨#[]⟩).cells.size=1:=rfl
     simp only [Array.size_append,List.size_toArray,List.length_append,List.length_singleton,hcl,Builtin.zeroCells,Array.size_map,Array.size_range,hz]
     have ht:grownCap (boxS w v) (l.length+1) c (laysIns_ren.t 9)=grownCap (boxS w v) (l.length+1) c strT:=rfl
     omega
   · rw [hlen,cells_snoc,Array.toList_append]
     exact List.take_left' (by simp [hcl])
 · cases hp
   exact hb.size
theorem take_ins (cur:Array Value) (cs:List Value) (n i:Nat) (x:Value) (hcur:cur.toList.take n=cs) (hl:cs.length=n) (hi:i≤n) (hsz:n+1≤cur.size):(setAll (setAll cur (i+1) (cs.drop i)) i [x]).toList.take (n+1)=cs.take i++x :: cs.drop i:=by
 have hd:(cs.drop i).length=n - i:=by rw [List.length_drop,hl]
 have hc:∀ j,j<n→cur[j]? = cs[j]?:=fun j hj=>by
  rw [←hcur,List.getElem?_take,if_pos hj,Array.getElem?_toList]
 apply List.ext_getElem?
 intro j
 rw [List.getElem?_take,Array.getElem?_toList,setAll_get _ _ _ _ (by rw [size_setAll];simp;omega),setAll_get _ _ _ _ (by rw [hd];omega),hd,List.getElem?_append,List.length_take,hl]
 have hm:min i n=i:=Nat.min_eq_left hi
 rw [hm]
 by_cases h1:j<i
 · rw [if_pos (by omega),if_neg (by omega),if_neg (by omega),if_pos h1,List.getElem?_take,if_pos h1,hc j (by omega)]
 · by_cases h2:j=i
   · subst h2
     rw [if_pos (by omega),if_pos (by simp),if_neg (by omega)]
     simp
   · by_cases h3:j<n+1
     · obtain ⟨k,rfl⟩:∃ k,j=i+(k+1):=⟨j - i - 1,by omega⟩
       rw [if_pos h3,if_neg (by simp),if_pos (by omega),if_neg (by omega)]
       rw [show i+(k+1) - (i+1)=k from by omega,show i+(k+1) - i=k+1 from by omega]
       rfl
     · rw [if_neg h3,if_neg h1]
       obtain ⟨k,rfl⟩:∃ k,j=i+(k+1):=⟨j - i - 1,by omega⟩
       rw [show i+(k+1) - i=k+1 from by omega,List.getElem?_cons_succ,List.getElem?_eq_none (by rw [hd];omega)]
theorem own_open {w:World} {B n c:Nat} {T:TypeId} {A:Option Addr} {xs:List Value} (h:w.ownsRow B T 1 (.slice A n c) n xs) (h0:0<c):∃ g cur,A=some ⟨g,0,none⟩∧B≤g∧w.heap[g]? = some (.cells cur T (0,0))∧n≤c∧c≤maxLen∧cur.size=c∧cur.toList.take n=xs∧xs.length=n:=by
 rcases h.2 with ⟨e,_⟩ | ⟨g,cap,cur,e,hb,hg,hn,hc,hs,ht⟩
 · injection e with _ _ e3
   omega
 · injection e with e1 e2 e3
   subst e1 e3
   exact ⟨g,cur,rfl,hb,hg,hn,hc,by omega,by rw [←ht,Nat.mul_one],by have:=h.1;omega⟩
theorem ins_end_room {B:Nat} (A:Option Addr) (c:Nat) (l:List Str) (v:ByteArray) (w:World) (h:w.ownsRow B strT 1 (.slice A l.length c) l.length (cellsOf encS l)) (hc:l.length+1≤c) :
 Calls Tryz.prog 223 #[.slice A l.length c,.int .i64 l.length,.slice (some ⟨w.heap.size,0,none⟩) 1 1] (boxS w v) (InsP B A c l (l++[L v]) w):=by
 have hb:=below_alloc w (.cells #[.string v] 9)
 obtain ⟨g,cur,rfl,hB,hg,hn,hcm,hsz,htk,hxl⟩:=own_open (own_below2 h hb) (by omega)
 have hI:=Any2.slices_Insert_string_end_room laysIns g 0 l.length c w.heap.size 0 1 1 [.string v] (boxS w v) (by omega) hc (by unfold maxLen at hcm;omega) rfl (fun j hj=>by
  rw [cell_of_row _ _ _ _ _ _ hg,Array.getElem?_eq_getElem (by omega)];rfl) (fun j hj=>frozen_of_row _ _ _ _ _ hg) (box_cell w v) (by simp [Value.oneCell'])
 refine hI.mono ?_
 rintro e w' ⟨rfl,rfl⟩
 have hlen:(l++[L v]).length=l.length+1:=by simp
 rw [Nat.zero_add,setCells_row g strT (0,0) _ cur l.length _ (by simp) hg]
 have ht:=take_ins cur (cellsOf encS l) l.length l.length (.string v) htk hxl (Nat.le_refl _) (by omega)
 have e1:(cellsOf encS l).take l.length=cellsOf encS l:=List.take_of_length_le (by rw [hxl];exact Nat.le_refl _)
 have e2:(cellsOf encS l).drop l.length=[]:=List.drop_of_length_le (by rw [hxl];exact Nat.le_refl _)
 rw [e1,e2] at ht
 refine ⟨some ⟨g,0,none⟩,c,by rw [hlen],?_,(grown_below hb _).trans (grown_setRow _ g _),fun p hp=>Or.inr ⟨_,rfl,by cases hp;rfl⟩⟩
 refine ⟨by rw [hlen,cells_snoc,List.length_append,hxl,List.length_singleton];omega,Or.inr ⟨g,c,_,rfl,hB,setRow_heap _ _ _ _ _ _ hg,by rw [hlen];exact hc,hcm,by rw [size_setAll];omega,?_⟩⟩
 rw [hlen,cells_snoc,Nat.mul_one]
 exact ht
theorem cells_ins (l:List Str) (i:Nat) (v:ByteArray):cellsOf encS (l.take i++L v :: l.drop i)=(cellsOf encS l).take i++.string v :: (cellsOf encS l).drop i:=by
 rw [cells_bs,cells_bs,List.map_append,List.map_cons,List.map_take,List.map_drop,bs_L]
theorem shape_of {w:World} {g:Nat} {cs:Array Value} {T:TypeId} {fr:Nat × Nat} (h:w.heap[g]? = some (.cells cs T fr)):w.shape? g=some (T,cs.size):=by
 unfold World.shape?
 rw [h]
theorem ins_shift {B:Nat} (A:Option Addr) (c:Nat) (l:List Str) (i:Nat) (v:ByteArray) (w:World) (h:w.ownsRow B strT 1 (.slice A l.length c) l.length (cellsOf encS l)) (hi:i<l.length) (hc:l.length+1≤c) :
 Calls Tryz.prog 223 #[.slice A l.length c,.int .i64 i,.slice (some ⟨w.heap.size,0,none⟩) 1 1] (boxS w v) (InsP B A c l (l.take i++L v :: l.drop i) w):=by
 have hb:=below_alloc w (.cells #[.string v] 9)
 have hlt:=own_rng h
 obtain ⟨g,cur,rfl,hB,hg,hn,hcm,hsz,htk,hxl⟩:=own_open (own_below2 h hb) (by omega)
 have hgl:g<w.heap.size:=(hlt _ rfl).2
 have h1v:∀ u∈([.string v]:List Value),u.oneCell'=true:=by simp [Value.oneCell']
 have hI:=Any2.slices_Insert_string_shift laysIns g 0 l.length c i w.heap.size 0 1 1 (cellsOf encS l) [.string v] (boxS w v) hi (by omega) hc (by unfold maxLen at hcm;omega) (by omega) hxl rfl (fun j u hu=>by
  rw [Nat.zero_add,cell_of_row _ _ _ _ _ _ hg,←Array.getElem?_toList]
  have hj:=(List.getElem?_eq_some_iff.1 hu).1
  rw [←htk,List.getElem?_take,if_pos (by omega)] at hu
  exact hu) (fun j hj=>by
  rw [cell_of_row _ _ _ _ _ _ hg,Array.getElem?_eq_getElem (by omega)];rfl) (fun j hj=>frozen_of_row _ _ _ _ _ hg) (box_cell w v) (fun u hu=>by
  rw [cells_bs] at hu
  obtain ⟨x,_,rfl⟩:=List.mem_map.1 hu
  rfl) h1v strT strT 1 cur.size (shape_of (heap_alloc_new w _)) (shape_of hg) (by omega) (frozen_of_row _ _ _ _ _ (heap_alloc_new w _)) (frozen_of_row _ _ _ _ _ (heap_alloc_new w _))
 refine hI.mono ?_
 rintro e w' ⟨rfl,rfl⟩
 have hlen:(l.take i++L v :: l.drop i).length=l.length+1:=by simp;omega
 have hne:(cellsOf encS l).drop i≠[]:=fun e=>by
  have:=congrArg List.length e
  rw [List.length_drop,hxl,List.length_nil] at this
  omega
 have hgd:(boxS w v).drew.heap[g]? = some (.cells cur strT (0,0)):=hg
 have hg2:((boxS w v).drew.setRow g (setAll cur (i+1) ((cellsOf encS l).drop i))).heap[g]? = some (.cells (setAll cur (i+1) ((cellsOf encS l).drop i)) strT (0,0)):=setRow_heap _ _ _ _ _ _ hgd
 rw [show (0:Nat)+(i+1)=i+1 from by omega,Nat.zero_add,setCells_row g strT (0,0) _ cur (i+1) _ hne hgd,setCells_row g strT (0,0) _ _ i _ (by simp) hg2]
 have ht:=take_ins cur (cellsOf encS l) l.length i (.string v) htk hxl (by omega) (by omega)
 refine ⟨some ⟨g,0,none⟩,c,by rw [hlen],?_,((grown_below (bDr hb) _).trans (grown_setRow _ g _)).trans (grown_setRow _ g _),fun p hp=>Or.inr ⟨_,rfl,by cases hp;rfl⟩⟩
 refine ⟨by rw [hlen,cells_ins,List.length_append,List.length_cons,List.length_take,List.length_drop,hxl];omega,Or.inr ⟨g,c,_,rfl,hB,setRow_heap _ _ _ _ _ _ hg2,by rw [hlen];exact hc,hcm,by rw [size_setAll,size_setAll];omega,?_⟩⟩
 rw [hlen,cells_ins,Nat.mul_one]
 exact ht
theorem take_ins2 (cur:Array Value) (cs:List Value) (n i:Nat) (x:Value) (hcur:cur.toList.take i=cs.take i) (hl:cs.length=n) (hi:i≤n) (hsz:n+1≤cur.size):(setAll (setAll cur i [x]) (i+1) (cs.drop i)).toList.take (n+1)=cs.take i++x :: cs.drop i:=by
 have hd:(cs.drop i).length=n - i:=by rw [List.length_drop,hl]
 have hc:∀ j,j<i→cur[j]? = (cs.take i)[j]?:=fun j hj=>by
  rw [←hcur,List.getElem?_take,if_pos hj,Array.getElem?_toList]
 apply List.ext_getElem?
 intro j
 rw [List.getElem?_take,Array.getElem?_toList,setAll_get _ _ _ _ (by rw [size_setAll,hd];omega),setAll_get _ _ _ _ (by simp;omega),hd,List.getElem?_append,List.length_take,hl]
 have hm:min i n=i:=Nat.min_eq_left hi
 rw [hm]
 by_cases h1:j<i
 · rw [if_pos (by omega),if_neg (by omega),if_neg (by omega),if_pos h1,hc j h1]
 · by_cases h2:j=i
   · subst h2
     rw [if_pos (by omega),if_neg (by omega),if_pos (by simp),if_neg (by omega)]
     simp
   · by_cases h3:j<n+1
     · obtain ⟨k,rfl⟩:∃ k,j=i+(k+1):=⟨j - i - 1,by omega⟩
       rw [if_pos h3,if_pos (by omega),if_neg (by omega)]
       rw [show i+(k+1) - (i+1)=k from by omega,show i+(k+1) - i=k+1 from by omega]
       rfl
     · rw [if_neg h3,if_neg h1]
       obtain ⟨k,rfl⟩:∃ k,j=i+(k+1):=⟨j - i - 1,by omega⟩
       rw [show i+(k+1) - i=k+1 from by omega,List.getElem?_cons_succ,List.getElem?_eq_none (by rw [hd];omega)]
theorem ins_grow {B:Nat} (A:Option Addr) (c:Nat) (l:List Str) (i:Nat) (v:ByteArray) (w:World) (h:w.ownsRow B strT 1 (.slice A l.length c) l.length (cellsOf encS l)) (hl:l.length≤10000) (hi:i<l.length) (hc:c<l.length+1) (hBw:B≤w.heap.size) :
 Calls Tryz.prog 223 #[.slice A l.length c,.int .i64 i,.slice (some ⟨w.heap.size,0,none⟩) 1 1] (boxS w v) (InsP B A c l (l.take i++L v :: l.drop i) w):=by
 have hb:=below_alloc w (.cells #[.string v] 9)
 have hcap0:=(LsN.of_own h).1.cap
 have hcap1:l.length≤c:=hcap0
 obtain ⟨g,cur,rfl,hB,hg,hn,hcm,hsz,htk,hxl⟩:=own_open (own_below2 h hb) (by omega)
 have hI:=Any2.slices_Insert_string_grow laysIns g 0 l.length c i w.heap.size 0 1 1 (cellsOf encS l) [.string v] (boxS w v) hi (by omega) hn hc (by omega) hxl rfl (fun j u hu=>by
  rw [Nat.zero_add,cell_of_row _ _ _ _ _ _ hg,←Array.getElem?_toList]
  have hj:=(List.getElem?_eq_some_iff.1 hu).1
  rw [←htk,List.getElem?_take,if_pos (by omega)] at hu
  exact hu) (box_cell w v) (fun u hu=>by
  rw [cells_bs] at hu
  obtain ⟨x,_,rfl⟩:=List.mem_map.1 hu
  rfl) (by simp [Value.oneCell'])
 refine hI.mono ?_
 rintro e w' ⟨rfl,rfl⟩
 have hlen:(l.take i++L v :: l.drop i).length=l.length+1:=by simp;omega
 have hne:(cellsOf encS l).drop i≠[]:=fun e=>by
  have:=congrArg List.length e
  rw [List.length_drop,hxl,List.length_nil] at this
  omega
 have hge:=grownCap_ge (boxS w v) (l.length+1) c strT
 have hz:(Value.string ⟨#[]⟩).cells.size=1:=rfl
 obtain ⟨cap,hcp⟩:∃ cap,grownCap (boxS w v) (l.length+1) c (laysIns_ren.t 9)=cap:=⟨_,rfl⟩
 have hcp2:grownCap (boxS w v) (l.length+1) c strT=cap:=hcp
 rw [hcp2] at hge
 have hcmx:cap≤maxLen:=by rw [←hcp2];exact grownCap_le_maxLen _ _ _ _ (by unfold maxLen;omega)
 rw [hcp]
 obtain ⟨cur0,hcur0⟩:∃ cur0,((cellsOf encS l).take i).toArray++Builtin.zeroCells (Value.string ⟨#[]⟩).cells (l.length+1 - i)++Builtin.zeroCells (Value.string ⟨#[]⟩).cells (cap - (l.length+1))=cur0:=⟨_,rfl⟩
 have hs0:cur0.size=cap:=by
  rw [←hcur0]
  simp only [Array.size_append,List.size_toArray,List.length_take,hxl,Builtin.zeroCells,Array.size_map,Array.size_range,hz]
  omega
 have ht0:cur0.toList.take i=(cellsOf encS l).take i:=by
  rw [←hcur0,Array.toList_append,Array.toList_append,List.append_assoc]
  exact List.take_left' (by simp [hxl];omega)
 rw [hcur0]
 have hg1:((boxS w v).alloc (.cells cur0 strT)).drew.heap[(boxS w v).heap.size]? = some (.cells cur0 strT (0,0)):=heap_alloc_new (boxS w v) _
 have hg2:(((boxS w v).alloc (.cells cur0 strT)).drew.setRow (boxS w v).heap.size (setAll cur0 i [.string v])).drew.heap[(boxS w v).heap.size]? = some (.cells (setAll cur0 i [.string v]) strT (0,0)):=setRow_heap _ _ _ _ _ _ hg1
 have e1:((boxS w v).alloc (.cells cur0 (laysIns_ren.t 9))).drew.setCells (boxS w v).heap.size i [.string v]=((boxS w v).alloc (.cells cur0 strT)).drew.setRow (boxS w v).heap.size (setAll cur0 i [.string v]):=setCells_row _ strT (0,0) _ cur0 i _ (by simp) hg1
 rw [e1,setCells_row _ strT (0,0) _ _ (i+1) _ hne hg2]
 have ht:=take_ins2 cur0 (cellsOf encS l) l.length i (.string v) ht0 hxl (by omega) (by omega)
 refine ⟨some ⟨(boxS w v).heap.size,0,none⟩,cap,by rw [hlen],?_,grown_below (bRow (bDr (bRow (bDr (bAl hb)) hb.size)) hb.size) _,fun p hp=>Or.inl (by cases hp;exact hb.size)⟩
 refine ⟨by rw [hlen,cells_ins,List.length_append,List.length_cons,List.length_take,List.length_drop,hxl];omega,Or.inr ⟨_,cap,_,rfl,Nat.le_trans hBw hb.size,setRow_heap _ _ _ _ _ _ hg2,by rw [hlen];exact hge,hcmx,by rw [size_setAll,size_setAll];omega,?_⟩⟩
 rw [hlen,cells_ins,Nat.mul_one]
 exact ht
end
section
open Go.RowKit
theorem InsP.lift {B:Nat} {A:Option Addr} {c:Nat} {l l':List Str} {w w2:World} {e:Ending} {w':World} (hb:Below w.heap.size w w2) (h:InsP B A c l l' w2 e w'):InsP B A c l l' w e w':=by
 obtain ⟨A',c',h1,h2,h3,h4⟩:=h
 exact ⟨A',c',h1,h2,(grown_below hb _).trans h3,fun p hp=>(h4 p hp).imp (fun k=>Nat.le_trans hb.size k) id⟩
theorem Ins_any {B:Nat} (A:Option Addr) (c:Nat) (l:List Str) (v:ByteArray) (w:World) (h:w.ownsRow B strT 1 (.slice A l.length c) l.length (cellsOf encS l)) (hl:l.length≤10000) (hBw:B≤w.heap.size) (hs:l.Pairwise (· < ·)) (hn:L v ∉ l) :
 Calls Tryz.prog 223 #[.slice A l.length c,.int .i64 (posS l (L v):Nat),.slice (some ⟨w.heap.size,0,none⟩) 1 1] (boxS w v) (InsP B A c l (putS l (L v)) w):=by
 rw [putS_at hs hn]
 have hp:=posS_le l (L v)
 by_cases h1:posS l (L v)<l.length
 · by_cases h2:l.length+1≤c
   · exact ins_shift A c l _ v w h h1 h2
   · exact ins_grow A c l _ v w h hl h1 (by omega) hBw
 · have e:posS l (L v)=l.length:=by omega
   rw [e,List.take_of_length_le (Nat.le_refl _),List.drop_of_length_le (Nat.le_refl _)]
   by_cases h2:l.length+1≤c
   · exact ins_end_room A c l v w h h2
   · exact ins_end_grow A c l v w h hl (by omega) hBw
set_option maxHeartbeats 2000000 in
theorem Put_any {B:Nat} (A:Option Addr) (c:Nat) (l:List Str) (v:ByteArray) (m:Nat) (w:World) (h:w.ownsRow B strT 1 (.slice A l.length c) l.length (cellsOf encS l)) (hl:l.length≤10000) (_hm:m≤10000) (hBw:B≤w.heap.size) (hs:l.Pairwise (· < ·)) :
 Calls Tryz.prog 178 #[.slice A l.length c,.string v,.int .i64 m] w (InsP B A c l (putM l (L v) m) w):=by
 have HB0:=BinS_any A c l v w h hl hs
 have HSame:Hid (∀ W,Below w.heap.size w W→InsP B A c l l w (.returned (.slice A l.length c)) W):=Lib.hid fun W hW=>⟨A,c,rfl,own_below2 h hW,grown_below hW _,fun p hp=>Or.inr ⟨p,hp,rfl⟩⟩
 have HI:=Lib.hid (fun (W:World) (hW:Below w.heap.size w W) (hn:L v ∉ l)=>(Ins_any A c l v W (own_below2 h hW) hl (Nat.le_trans hBw hW.size) hs hn).mono fun _ _ hp=>hp.lift hW)
 by_cases hmem:L v∈l
 · have e:putM l (L v) m=l:=by unfold putM;rw [if_pos (Or.inl hmem)]
   rw [e]
   rw [decide_eq_true hmem] at HB0
   have HB:=Lib.hid HB0
   clear HB0 e hmem h hs HI
   generalize l.length=N at *
   generalize posS l (L v)=i at *
   go_enter Tryz.func178,Tryz.ntmps178
   go_wp2_with (go_at_call 222;refine HB.out.mono ?_;rintro e w2 ⟨rfl,hb2⟩)
   go_ret
   exact HSame.out _ hb2
 · rw [decide_eq_false hmem] at HB0
   have HB:=Lib.hid HB0
   have HIn:=Lib.hid (fun W hW=>HI.out W hW hmem)
   by_cases hc:m≤l.length
   · have e:putM l (L v) m=l:=by unfold putM;rw [if_pos (Or.inr hc)]
     rw [e]
     have hci:(m:Int)≤((l.length:Nat):Int):=by omega
     clear HB0 e hmem h hs HI HIn
     generalize l.length=N at *
     generalize posS l (L v)=i at *
     go_enter Tryz.func178,Tryz.ntmps178
     go_wp2_with (go_at_call 222;refine HB.out.mono ?_;rintro e w2 ⟨rfl,hb2⟩)
     go_ret
     exact HSame.out _ hb2
   · have e:putM l (L v) m=putS l (L v):=by unfold putM;rw [if_neg (fun k=>k.elim hmem hc)]
     rw [e]
     have hci:¬ (m:Int)≤((l.length:Nat):Int):=by omega
     clear HB0 e hmem h hs HI HSame
     generalize hN:l.length=N at *
     clear hN
     generalize posS l (L v)=i at *
     go_enter Tryz.func178,Tryz.ntmps178
     go_wp2_with (first | (go_at_call 222;refine HB.out.mono ?_;rintro e w2 ⟨rfl,hb2⟩) | (go_at_call 223;refine (HIn.out _ hb2).mono ?_;rintro e w3 hP;obtain ⟨A',c',rfl,-⟩:=id hP))
     go_ret
     exact hP
end
section
open Go.RowKit Go.Shelf Go.Lib Go.Sort
def esS (s:Str):Value:=.string (bs s)
theorem esS_one:OneCell esS:=fun _=>rfl
theorem cells_esS (l:List Str):cellsOf encS l=l.map esS:=by
 induction l with
 | nil=>rfl
 | cons x l ih=>rw [List.map_cons,←ih];rfl
theorem heap_putRow {w:World} {g q:Nat} {cur:Array Value} {T:TypeId} {fr:Nat × Nat} (h:w.heap[g]? = some (.cells cur T fr)) (d:Array Str):(putRow esS (Sort.ahead w q) g 0 d).heap[g]? = some (.cells (putCells esS 0 d cur) T fr):=by
 show ((Sort.ahead w q).heap.modify g _)[g]? = _
 rw [Array.getElem?_modify,if_pos rfl]
 show (w.heap[g]?).map _=_
 rw [h];rfl
theorem grown_putRow (w:World) (g q:Nat) (d:Array Str):w.grownBy (putRow esS (Sort.ahead w q) g 0 d) (some g):=by
 refine ⟨rfl,rfl,rfl,?_,fun k _ hk=>?_⟩
 · show w.heap.size≤(w.heap.modify g _).size
   simp
 · show (w.heap.modify g _)[k]? = _
   rw [Array.getElem?_modify,if_neg (fun e=>hk (by rw [e]))]
theorem putRow_own {W:World} {base n cap g q:Nat} {T:TypeId} {xs:List Value} (h:W.ownsRow base T 1 (.slice (some ⟨g,0,none⟩) n cap) n xs) (d:Array Str) (hd:d.size=n) (m:Nat) (hm:m≤n) (ys:List Str) (hy:d.toList.take m=ys) :
 (putRow esS (Sort.ahead W q) g 0 d).ownsRow base T 1 (.slice (some ⟨g,0,none⟩) m cap) m (cellsOf encS ys):=by
 have hl:ys.length=m:=by rw [←hy,List.length_take,Array.length_toList];omega
 rcases h.2 with ⟨e,_⟩ | ⟨g',cap',cur,e,hb,hg,hn,hc,hs,ht⟩
 · cases e
 · injection e with e1 e2 e3
   injection e1 with e1
   injection e1 with e1
   subst e1 e3
   refine ⟨by rw [cells_esS,List.length_map,hl];omega,Or.inr ⟨g,cap,putCells esS 0 d cur,rfl,hb,heap_putRow hg d,Nat.le_trans hm hn,hc,by rw [←hs];simp [putCells],?_⟩⟩
   rw [cells_esS,←hy,Nat.mul_one]
   apply List.ext_getElem?
   intro j
   rw [List.getElem?_take,List.getElem?_map,List.getElem?_take]
   by_cases hj:j<m
   · rw [if_pos hj,if_pos hj,Array.getElem?_toList,Array.getElem?_toList]
     unfold putCells
     rw [Array.getElem?_mapIdx]
     have h1:j<cur.size:=by rw [hs];omega
     have h2:j<d.size:=by omega
     rw [Array.getElem?_eq_getElem h1,Array.getElem?_eq_getElem h2]
     simp only [Option.map_some,Nat.zero_add,Nat.sub_zero]
     rw [if_pos ⟨Nat.zero_le _,h2⟩,getElem!_pos d j h2]
   · rw [if_neg hj,if_neg hj];rfl
theorem dropC_any (x s:Str) (B:Nat) (W:World) (hc:W.cell? ⟨B,0,none⟩=some (.string (bs s))) :
 Calls Tryz.prog 243 #[esS x,.pointer (some ⟨B,0,none⟩)] W fun e w'=>e=.returned (.bool (x == s))∧∃ q,w'=W.drewN q:=by
 unfold esS
 have hb:((bs x).toList == (bs s).toList)=(x == s):=by rw [tl,tl,L_bs,L_bs]
 rw [←hb]
 clear hb
 go_enter Tryz.func243,Tryz.ntmps243
 go_wp2
 go_ret
 exact ⟨ret_bool (by rfl),0,rfl⟩
theorem IndexS_none (fv:Value) (w:World):Calls Tryz.prog 165 #[.slice none 0 0,fv] w fun e w'=>e=.returned (.int .i64 (-1))∧w'=w:=by
 go_enter Tryz.func165,Tryz.ntmps165
 go_wp2
 go_loopg [5,8] 0 (fun _ _ s8 wr=>s8=.int .i64 0∧wr=w)
 case atStart=>exact ⟨rfl,rfl⟩
 case round =>
  obtain ⟨rfl,rfl⟩:=hrel
  go_wp2
  go_ret
  exact ⟨rfl,rfl⟩
theorem DelS_none (fv:Value) (w:World):Calls Tryz.prog 242 #[.slice none 0 0,fv] w fun e w'=>e=.returned (.slice none 0 0)∧w'=w:=by
 have HI:=Lib.hid (IndexS_none fv w)
 go_enter Tryz.func242,Tryz.ntmps242
 go_wp2_with (go_at_call 165;refine HI.out.mono ?_;rintro e w2 ⟨rfl,rfl⟩)
 go_ret
 exact ⟨rfl,rfl⟩
def DropP (B:Nat) (A:Option Addr) (c:Nat) (l:List Str) (s:Str) (w:World) (e:Ending) (w':World):Prop:=∃ A' c',e=.returned (.slice A' (dropL l s).length c')∧w'.ownsRow B strT 1 (.slice A' (dropL l s).length c') (dropL l s).length (cellsOf encS (dropL l s))∧w.grownBy w' (Value.slice A l.length c).ownBlock∧∀ p,A'=some p→∃ q,A=some q∧q.block=p.block
theorem cell_sortWorld {w:World} {blk q B:Nat} {d:Array Str} {os:Array Obj} {v:Value} (hB:B≠blk) (hc:w.cell? ⟨B,0,none⟩=some v) (hlt:B<w.heap.size):(sortWorld esS w blk 0 q d os).cell? ⟨B,0,none⟩=some v:=by
 rw [←hc]
 refine World.cell?_of_block (w:=w) ?_
 show (grow (putRow esS (Sort.ahead w q) blk 0 d) os).heap[B]? = _
 rw [Sort.heap_grow_old _ _ (Nat.lt_of_lt_of_le hlt (grown_putRow w blk q d).size)]
 exact (grown_putRow w blk q d).block B hlt (fun e=>hB (Option.some.inj e))
set_option maxHeartbeats 2000000 in
theorem Drop_any {B:Nat} (A:Option Addr) (c:Nat) (l:List Str) (v:ByteArray) (w:World) (h:w.ownsRow B strT 1 (.slice A l.length c) l.length (cellsOf encS l)) (hl:l.length≤10000) :
 Calls Tryz.prog 214 #[.slice A l.length c,.string v] w (DropP B A c l (L v) w):=by
 have hb1:=below_alloc w (.cells #[.string v] 9)
 have HB1:=Lib.hid hb1
 cases A with
 | none =>
   obtain ⟨rfl,rfl⟩:l=[]∧c=0:=by
    rcases h.2 with ⟨e,e2⟩ | ⟨g',cap',cur,e,_⟩
    · injection e with _ _ e3
      exact ⟨List.length_eq_zero_iff.1 e2,e3⟩
    · cases e
   have HD:=Lib.hid (fun fv=>DelS_none fv (w.alloc (.cells #[.string v] 9)))
   clear hb1 h
   go_enter Tryz.func214,Tryz.ntmps214
   go_wp2_with (go_at_call 242;refine (HD.out _).mono ?_;rintro e w2 ⟨rfl,rfl⟩)
   go_ret
   exact ⟨none,0,rfl,World.ownsRow_nil _ _ _ _,grown_below HB1.out _,fun p e=>by cases e⟩
 | some a =>
   obtain ⟨g,rfl⟩:∃ g,a=⟨g,0,none⟩:=by
    rcases h.2 with ⟨e,e2⟩ | ⟨g',cap',cur,e,_⟩
    · cases e
    · injection e with e1
      injection e1 with e1
      exact ⟨g',e1⟩
   have hlt:=(own_rng h _ rfl).2
   have hB:w.heap.size≠g:=by have:g<w.heap.size:=hlt;omega
   have h1:=own_below2 h hb1
   have hc0:(w.alloc (.cells #[.string v] 9)).cell? ⟨w.heap.size,0,none⟩=some (.string (bs (L v))):=by rw [bs_L];exact cellOf (heap_alloc_new w _) rfl
   have hlt0:w.heap.size<(w.alloc (.cells #[.string v] 9)).heap.size:=by simp
   have hparts:∃ cur,(w.alloc (.cells #[.string v] 9)).heap[g]? = some (.cells cur strT (0,0))∧l.length≤c∧c≤maxLen∧cur.size=c∧cur.toList.take l.length=l.map esS:=by
    rcases h1.2 with ⟨e,e2⟩ | ⟨g',cap',cur,e,hbb,hg,hn,hc,hs,ht⟩
    · cases e
    · injection e with e1 e2 e3
      injection e1 with e1
      injection e1 with e1
      subst e1 e3
      exact ⟨cur,hg,hn,hc,by omega,by rw [←cells_esS,←ht,Nat.mul_one]⟩
   obtain ⟨cur,hg,hcap,hcm,hsz,htk⟩:=hparts
   have hH:Holds esS (w.alloc (.cells #[.string v] 9)) g 0 l.toArray:=fun j hj=>by
    have hj':j<l.length:=by simpa using hj
    rw [Nat.zero_add]
    refine ⟨?_,frozen_of_row _ _ _ _ _ hg⟩
    rw [cell_of_row _ _ j _ _ _ hg,←Array.getElem?_toList]
    have:=congrArg (fun z=>z[j]?) htk
    simp only [List.getElem?_take,if_pos hj',List.getElem?_map,List.getElem?_eq_getElem hj',Option.map_some] at this
    rw [this,getElem!_pos l.toArray j hj]
    rfl
   have hd:=Tryz.slices_DeleteFunc esS esS_one (fun x=>x == L v) 243 #[.pointer (some ⟨w.heap.size,0,none⟩)] (fun _ _=>rfl) [] (fun w=>Tryz.zeroValue9 w) g 0 c l.toArray (w.alloc (.cells #[.string v] 9)) (fun W x hW=>dropC_any x (L v) w.heap.size W ((hW.cell (p:=⟨w.heap.size,0,none⟩) hlt0).trans hc0)) (fun n os dk x _=>dropC_any x (L v) w.heap.size _ (cell_sortWorld hB hc0 hlt0)) hH (by simp;omega) (by simpa using hcap)
   have hfl:(l.toArray.toList.filter fun x => !(x == L v))=dropL l (L v):=rfl
   rw [hfl] at hd
   have hsz2:l.toArray.size=l.length:=by simp
   rw [hsz2] at hd
   have hle:=len_dropL l (L v)
   have HEnd:Hid (∀ q,DropP B (some ⟨g,0,none⟩) c l (L v) w (.returned (.slice (some ⟨g,0,none⟩) (dropL l (L v)).length c)) (putRow esS (Sort.ahead (w.alloc (.cells #[.string v] 9)) q) g 0 (dropL l (L v)++List.replicate (l.length - (dropL l (L v)).length) []).toArray)):=Lib.hid fun q=>by
    refine ⟨some ⟨g,0,none⟩,c,rfl,putRow_own h1 _ (by simp;omega) _ hle _ (by simp),?_,fun p e=>⟨_,rfl,by cases e;rfl⟩⟩
    exact (grown_below hb1 _).trans (grown_putRow _ g q _)
   have HD:=Lib.hid hd
   clear hd hH hg hcap hcm hsz htk hb1 h h1 hc0 hlt0 hfl hsz2 hle hlt hB
   generalize hN:l.length=N at *
   clear hN
   go_enter Tryz.func214,Tryz.ntmps214
   go_wp2_with (go_at_call 242;refine HD.out.mono ?_;rintro e w2 ⟨rfl,q,rfl⟩)
   go_ret
   exact HEnd.out q
end
section
open Go.RowKit
theorem InsP.edTags {B g:Nat} {y:Dm} {w:World} {l':List Str} {e:Ending} {w':World} (h:EdO B w g y) (hi:InsP B y.tags.A y.tags.c y.tags.l l' w e w'):∃ A' c',e=.returned (.slice A' l'.length c')∧(w'.cell? ⟨g,1,none⟩).isSome=true∧w'.cell? ⟨g,1,none⟩=some (.slice y.tags.A y.tags.l.length y.tags.c)∧w'.frozen? ⟨g,1,none⟩=false∧EdP B g y w { y.d with tags:=l' } (.returned (.tuple #[])) (w'.setCell ⟨g,1,none⟩ (.slice A' l'.length c')):=by
 obtain ⟨A',c',h1,h2,h3,h4⟩:=hi
 have hq:=EdQ.set_tags h h3 h2 h4
 have hmem:y.tags.A∈y.as:=by simp [Dm.as]
 have hbox:w'.heap[g]? = some (.cells (drA y) edT (0,0)):=(h3.block g (blk_lt' h.box) (fun e=>by
  obtain ⟨p,e1,e2⟩:=slice_own e.symm
  exact h.off _ hmem p e1 e2)).trans h.box
 have hc:=(box14 hbox).2.1
 exact ⟨A',c',h1,by rw [hc];rfl,hc,frz hbox 1,hq.p rfl⟩
theorem DropP.ins {B:Nat} {A:Option Addr} {c:Nat} {l:List Str} {s:Str} {w:World} {e:Ending} {w':World} (h:DropP B A c l s w e w'):InsP B A c l (dropL l s) w e w':=by
 obtain ⟨A',c',h1,h2,h3,h4⟩:=h
 exact ⟨A',c',h1,h2,h3,fun p hp=>Or.inr (h4 p hp)⟩
theorem tag_one {B g:Nat} {y:Dm} {w w2:World} (h:EdO B w g y) (v:ByteArray) (hb:Below w.heap.size w w2):InsP B y.tags.A y.tags.c y.tags.l [L v] w (.returned (.slice (some ⟨w2.heap.size,0,none⟩) 1 1)) (boxS w2 v):=by
 have hB:=Nat.le_trans (Nat.le_trans h.lo (Nat.le_of_lt (blk_lt' h.box))) hb.size
 exact ⟨some ⟨w2.heap.size,0,none⟩,1,rfl,⟨rfl,Or.inr ⟨w2.heap.size,1,#[.string v],rfl,hB,heap_alloc_new w2 _,Nat.le_refl _,by unfold maxLen;omega,rfl,by simp [cellsOf,encS,bs_L]⟩⟩,grown_below (bAl hb) _,fun p hp=>Or.inl (by cases hp;exact hb.size)⟩
set_option maxHeartbeats 4000000 in
theorem PTag_any (B g:Nat) (y:Dm) (op:Int) (v:ByteArray) (w:World) (h:EdO B w g y) (hl:y.tags.l.length≤1000) (hs:y.tags.l.Pairwise (· < ·)) (hv:v.size≤1000000) :
 Calls Tryz.prog 171 #[.pointer (some ⟨g,0,none⟩),.int .i64 op,.string v] w (EdP B g y w (tagS y.d op v)):=by
 have hBw:=Nat.le_trans h.lo (Nat.le_of_lt (blk_lt' h.box))
 have HH:=Lib.hid h
 have HV0:=Valid_any v w (by omega)
 have HPut:=Lib.hid (fun (W:World) (hW:Below w.heap.size w W)=>(Put_any y.tags.A y.tags.c y.tags.l v 16 W (own_below2 h.rows.tg hW) (by omega) (by omega) (Nat.le_trans hBw hW.size) hs).mono fun _ _ hp=>hp.lift hW)
 have HDrop:=Lib.hid (fun (W:World) (hW:Below w.heap.size w W)=>(Drop_any y.tags.A y.tags.c y.tags.l v W (own_below2 h.rows.tg hW) (by omega)).mono fun _ _ hp=>hp.ins.lift hW)
 have hE:tagS y.d op v=if validS (L v) then (if op=3 then { y.d with tags:=[L v] } else if op=4 then { y.d with tags:=putM y.tags.l (L v) 16 } else if op=5 then { y.d with tags:=dropL y.tags.l (L v) } else y.d) else y.d:=rfl
 rw [hE]
 clear hE h hBw hs
 cases hval:validS (L v) with
 | false =>
   rw [hval] at HV0
   have HV:=Lib.hid HV0
   clear HV0 hval
   rw [if_neg (by decide)]
   go_enter Tryz.func171,Tryz.ntmps171
   go_wp2_with (go_at_call 174;refine HV.out.mono ?_;rintro e w2 ⟨rfl,hb2⟩;have HB2:=Lib.hid hb2;have hbx:=(HH.out.below hb2).box;have q1:=(box14 hbx).2.1;have f1:=frz hbx 1;clear hbx hb2)
   refine bodyPost_ret (v:=.tuple #[]) (results_none rfl _ _ _) rfl ?_
   exact (EdQ.same HH.out HB2.out).p rfl
 | true =>
   rw [hval] at HV0
   have HV:=Lib.hid HV0
   clear HV0 hval
   rw [if_pos rfl]
   by_cases h3:op=3
   · subst h3
     rw [if_pos rfl]
     go_enter Tryz.func171,Tryz.ntmps171
     go_wp2_with (go_at_call 174;refine HV.out.mono ?_;rintro e w2 ⟨rfl,hb2⟩;obtain ⟨A5,c5,e5,h5,q5,f5,hP⟩:=InsP.edTags HH.out (tag_one HH.out v hb2);injection e5 with e5;injection e5 with e6 e7 e8;subst e6 e8;have HP:=Lib.hid hP;clear hP h5 e7 hb2)
     refine bodyPost_ret (v:=.tuple #[]) (results_none rfl _ _ _) rfl ?_
     exact HP.out
   · rw [if_neg h3]
     by_cases h4:op=4
     · subst h4
       rw [if_pos rfl]
       go_enter Tryz.func171,Tryz.ntmps171
       go_wp2_with (first | (go_at_call 174;refine HV.out.mono ?_;rintro e w2 ⟨rfl,hb2⟩;have HB2:=Lib.hid hb2;have hbx:=(HH.out.below hb2).box;have q1:=(box14 hbx).2.1;have f1:=frz hbx 1;clear hbx hb2) | (go_at_call 178;refine (HPut.out _ HB2.out).mono ?_;rintro e w5 hI;obtain ⟨A5,c5,rfl,h5,q5,f5,hP⟩:=InsP.edTags HH.out hI;have HP:=Lib.hid hP;clear hP hI h5))
       refine bodyPost_ret (v:=.tuple #[]) (results_none rfl _ _ _) rfl ?_
       exact HP.out
     · rw [if_neg h4]
       by_cases h5':op=5
       · subst h5'
         rw [if_pos rfl]
         go_enter Tryz.func171,Tryz.ntmps171
         go_wp2_with (first | (go_at_call 174;refine HV.out.mono ?_;rintro e w2 ⟨rfl,hb2⟩;have HB2:=Lib.hid hb2;have hbx:=(HH.out.below hb2).box;have q1:=(box14 hbx).2.1;have f1:=frz hbx 1;clear hbx hb2) | (go_at_call 214;refine (HDrop.out _ HB2.out).mono ?_;rintro e w5 hI;obtain ⟨A5,c5,rfl,h5,q5,f5,hP⟩:=InsP.edTags HH.out hI;have HP:=Lib.hid hP;clear hP hI h5))
         refine bodyPost_ret (v:=.tuple #[]) (results_none rfl _ _ _) rfl ?_
         exact HP.out
       · rw [if_neg h5']
         go_enter Tryz.func171,Tryz.ntmps171
         go_wp2_with (go_at_call 174;refine HV.out.mono ?_;rintro e w2 ⟨rfl,hb2⟩;have HB2:=Lib.hid hb2;have hbx:=(HH.out.below hb2).box;have q1:=(box14 hbx).2.1;have f1:=frz hbx 1;clear hbx hb2)
         refine bodyPost_ret (v:=.tuple #[]) (results_none rfl _ _ _) rfl ?_
         exact (EdQ.same HH.out HB2.out).p rfl
end
section
open Go.RowKit Go.Shelf Go.Lib
theorem linkW_ok (op:Int) {l:List Str} (w:ByteArray) (h:l.Pairwise (· < ·)∧l.length≤1000):(linkW op l w).Pairwise (· < ·)∧(linkW op l w).length≤1000:=by
 unfold linkW
 split
 · split
   · exact ⟨asc_dropL h.1 _,Nat.le_trans (len_dropL _ _) h.2⟩
   · refine ⟨asc_putM h.1 _ _,?_⟩
     unfold putM
     split
     · exact h.2
     · rename_i hn
       have h1:=len_putS l (L (by assumption))
       have h2:¬ 16≤l.length:=fun e=>hn (Or.inr e)
       omega
 · exact h
theorem links_ok (op:Int):∀ (ws:List ByteArray) {l:List Str},(l.Pairwise (· < ·)∧l.length≤1000)→(ws.foldl (linkW op) l).Pairwise (· < ·)∧(ws.foldl (linkW op) l).length≤1000
 | [],_,h=>h
 | w :: ws,_,h=>links_ok op ws (linkW_ok op w h)
theorem fold_take {α β:Type} (f:β→α→β) (l:List α) (b:β) {k:Nat} (hk:k<l.length):(l.take (k+1)).foldl f b=f ((l.take k).foldl f b) l[k]:=by
 rw [List.take_succ_eq_append_getElem hk,List.foldl_append];rfl
theorem linkP_at (w:World):PredAtRunes Tryz.prog 217 #[] (fun n=>n == 32) w:=by
 intro W x hx _
 unfold FnGives encR
 by_cases h:x=32
 · subst h
   show Calls Tryz.prog 217 #[.int .i32 32] W fun e w'=>e=.returned (.bool true)∧∃ q,w'=W.drewN q
   go_enter Tryz.func217,Tryz.ntmps217
   go_wp2
   go_ret
   exact ⟨by simp,0,rfl⟩
 · have hi:¬ (x:Int)=32:=by omega
   have hb:(x == 32)=false:=by simpa using h
   show Calls Tryz.prog 217 #[.int .i32 x] W fun e w'=>e=.returned (.bool (x == 32))∧∃ q,w'=W.drewN q
   rw [hb]
   go_enter Tryz.func217,Tryz.ntmps217
   go_wp2
   go_ret
   exact ⟨by simp [*],0,rfl⟩
theorem word_size (v:ByteArray):∀ x∈wordL v,x.size≤v.size:=by
 intro x hx
 have e:wordL v=(Lib.spansOfP (fun n=>n == 32) v).map fun x=>v.extract x.1 x.2:=rfl
 rw [e] at hx
 obtain ⟨y,_,rfl⟩:=List.mem_map.1 hx
 rw [←len_L,L_extract]
 have:=len_L v
 rw [List.length_drop,List.length_take]
 omega
theorem Words_any (v:ByteArray) (w:World) (hv:v.size≤1000000) :
 Calls Tryz.prog 216 #[.string v,.func (.func 217) #[] #[]] w fun e w'=>∃ A,e=.returned (.slice (some ⟨A,0,none⟩) (wordL v).length (wordL v).length)∧w.heap.size≤A∧(wordL v).length≤maxLen∧RowAt w' w'.heap.size (some ⟨A,0,none⟩) 1 (wordL v).length ((wordL v).map Value.string)∧Below w.heap.size w w':=by
 refine (Tryz.strings_FieldsFunc_runes 217 #[] (fun _ _=>rfl) (fun n=>n == 32) v w (by omega) (linkP_at w)).mono ?_
 rintro e w' ⟨A,h1,h2,h3,h4⟩
 refine ⟨A,h1,h2,?_,RowAt.of_own h3,h4⟩
 rcases h3.2 with ⟨e,_⟩ | ⟨g,cap,cur,_,_,_,hn,hc,_⟩
 · cases e
 · exact Nat.le_trans hn hc
theorem InsP.edLinks {B g:Nat} {y:Dm} {w:World} {l':List Str} {e:Ending} {w':World} (h:EdO B w g y) (hi:InsP B y.links.A y.links.c y.links.l l' w e w'):∃ A' c',e=.returned (.slice A' l'.length c')∧w'.cell? ⟨g,2,none⟩=some (.slice y.links.A y.links.l.length y.links.c)∧w'.frozen? ⟨g,2,none⟩=false∧EdQ B g y w { y with links:=⟨A',c',l'⟩ } (w'.setCell ⟨g,2,none⟩ (.slice A' l'.length c')):=by
 obtain ⟨A',c',h1,h2,h3,h4⟩:=hi
 have hq:=EdQ.set_links h h3 h2 h4
 have hmem:y.links.A∈y.as:=by simp [Dm.as]
 have hbox:w'.heap[g]? = some (.cells (drA y) edT (0,0)):=(h3.block g (blk_lt' h.box) (fun e=>by
  obtain ⟨p,e1,e2⟩:=slice_own e.symm
  exact h.off _ hmem p e1 e2)).trans h.box
 exact ⟨A',c',h1,(box14 hbox).2.2.1,frz hbox 2,hq⟩
theorem EdR.row {w w':World} {g:Nat} {y y':Dm} (h:EdR w g y w' y') {A n:Nat} {xs:List Value} (hr:RowAt w w.heap.size (some ⟨A,0,none⟩) 1 n xs) (hg:A≠g) (hn:∀ a∈y.as,∀ p,a=some p→p.block≠A):RowAt w' w'.heap.size (some ⟨A,0,none⟩) 1 n xs:=by
 refine ⟨hr.len,fun hp=>?_⟩
 obtain ⟨ba,off,e,hB,hc⟩:=hr.at_ hp
 injection e with e
 injection e with e1 e2
 subst e1 e2
 refine ⟨A,0,rfl,Nat.lt_of_lt_of_le hB h.sz,fun j u hu=>?_⟩
 rw [←hc j u hu]
 exact World.cell?_of_block (w:=w) (h.fr A hB hg hn)
structure LkR (B g:Nat) (y:Dm) (op:Int) (ws:List ByteArray) (w:World) (k:Nat) (y':Dm) (wr:World):Prop where
 q:EdQ B g y w y' wr
 d:y'.d={ y.d with links:=(ws.take k).foldl (linkW op) y.links.l }
set_option maxHeartbeats 8000000 in
theorem PLinkN_any (B g:Nat) (y:Dm) (op:Int) (v:ByteArray) (w:World) (h:EdO B w g y) (hl:y.links.l.length≤1000) (hs:y.links.l.Pairwise (· < ·)) (hE:Env0 w) (hB:nG≤B) (hv:v.size≤1000000) (n3:¬ op=3) (n6:¬ op=6) :
 Calls Tryz.prog 173 #[.pointer (some ⟨g,0,none⟩),.int .i64 op,.string v] w (EdP B g y w (linkS y.d op v)):=by
 have hq1:EdQ B g y w y w:=EdQ.same h (Below.refl _ _)
 have hE1:=hE
 have hok:y.links.l.Pairwise (· < ·)∧y.links.l.length≤1000:=⟨hs,hl⟩
 have b3:(op == 3)=false:=by simpa using n3
 have b6:(op == 6)=false:=by simpa using n6
 have HE1:=Lib.hid hE1
 have HWd:=Lib.hid (Words_any v w hv)
 have HWs:=Lib.hid (word_size v)
 have HOk:=Lib.hid (fun k=>links_ok op ((wordL v).take k) (l:=y.links.l) hok)
 have hEq:linkS y.d op v={ y.d with links:=(wordL v).foldl (linkW op) y.links.l }:=by unfold linkS;rw [if_neg (fun e=>e.elim n3 n6)];rfl
 have HEq:=Lib.hid hEq
 have H1:=Lib.hid hq1
 have q2:w.cell? ⟨g,2,none⟩=some (.slice y.links.A y.links.l.length y.links.c):=(box14 hq1.ed.box).2.2.1
 clear hE1 hok hEq h hl hs hE
 generalize wordL v=ws at *
 go_enter Tryz.func173,Tryz.ntmps173
 go_wp2_with (go_at_call 216;refine HWd.out.mono ?_;rintro e w2 ⟨A,rfl,hA,hmx,hrow,hb2⟩)
 have hq2:=H1.out.trans (EdQ.same H1.out.ed hb2)
 have HAg:=Lib.hid (show A≠g by have:=blk_lt' H1.out.ed.box;omega)
 have HAn:=Lib.hid (fun (a:Option Addr) (ha:a∈y.as) (p:Addr) (e:a=some p)=>(show p.block≠A by have:=H1.out.ed.rows.lt a ha p e;omega))
 have HR2:Hid (LkR B g y op ws w2 0 y w2):=Lib.hid ⟨EdQ.same (H1.out.ed.below hb2) (Below.refl _ _),rfl⟩
 have HRow:=Lib.hid hrow
 have HB2:=Lib.hid hb2
 have HQ2:=Lib.hid hq2
 clear hq2 hrow q2
 generalize hN:ws.length=N at *
 have HN:=Lib.hid hN
 have hmx2:N≤9223372036854775807:=by unfold maxLen at hmx;omega
 clear hN hmx hA
 go_loopg [7,8,9,23] N (fun gk _ _ _ i wr=>∃ (k:Nat) (yk:Dm),i=.int .i64 k∧k≤N∧k+gk=N∧Hid (LkR B g y op ws w2 k yk wr))
 case atStart=>exact ⟨0,y,rfl,Nat.zero_le _,by omega,HR2⟩
 case round =>
  obtain ⟨k,yk,rfl,hk,hkg,HR⟩:=hrel
  by_cases hlt:k<N
  · have hlt':k<ws.length:=by rw [HN.out];exact hlt
    obtain ⟨ba,off,ea,hc⟩:=str_at (EdR.row HR.out.q.r (by have:=HRow.out;rw [←HN.out] at this;exact this) HAg.out HAn.out) (Below.refl _ _) (by rw [←HN.out] at hlt;exact hlt)
    injection ea with ea
    injection ea with ea1 ea2
    subst ea1 ea2
    rw [Nat.zero_add] at hc
    have hEk:=HR.out.q.ed
    have hbk:=HR.out.q.b
    have hdk:yk.links.l=(ws.take k).foldl (linkW op) y.links.l:=congrArg Dr.links HR.out.d
    have hok:=HOk.out k
    rw [←hdk] at hok
    have HCl:=Lib.hid (Clean_any ws[k] wr ((HE1.out.keep HQ2.out.b hB).keep hbk hB) (Nat.le_trans (HWs.out _ (List.getElem_mem hlt')) hv))
    have htk:=fold_take (linkW op) ws y.links.l hlt'
    rw [←hdk] at htk
    have HTk:=Lib.hid htk
    have HDk:=Lib.hid hdk
    have HOkk:=Lib.hid hok
    clear htk hdk hok
    generalize ws[k]=x at *
    cases hcl:cleanS x with
    | none =>
      have e:linkW op yk.links.l x=yk.links.l:=by unfold linkW;rw [hcl]
      rw [e] at HTk
      rw [hcl] at HCl
      have HCl2:=Lib.hid HCl.out
      clear HCl hcl e
      unfold cleanV at HCl2
      go_wp2_with (go_at_call 218;refine HCl2.out.mono ?_;rintro e w3 ⟨rfl,hb3⟩)
      go_roundg (gk - 1)
      case measure=>omega
      case rel=>exact ⟨k+1,yk,by go_num,by omega,by omega,Lib.hid ⟨HR.out.q.trans (EdQ.same hEk hb3),by rw [HTk.out,HDk.out];exact HR.out.d⟩⟩
    | some t =>
      rw [hcl] at HCl
      have HCl2:=Lib.hid HCl.out
      have hfin:∀ (l':List Str),linkW op yk.links.l x=l'→∀ (A':Option Addr) (c':Nat) (w3 w4:World),Below wr.heap.size wr w3→EdQ B g yk w3 { yk with links:=⟨A',c',l'⟩ } w4→LkR B g y op ws w2 (k+1) { yk with links:=⟨A',c',l'⟩ } w4:=fun l' hl' A' c' w3 w4 hb3 hq=>⟨(HR.out.q.trans (EdQ.same hEk hb3)).trans hq,by
       rw [HTk.out,hl']
       have hd:=HR.out.d
       show { yk.d with links:=l' }=_
       rw [hd]⟩
      have HFin:=Lib.hid hfin
      have hcap:cleanV (some t)=.tuple #[.string t,.bool true]:=rfl
      rw [hcap] at HCl2
      have hgB:=Nat.le_trans hEk.lo (Nat.le_of_lt (blk_lt' hEk.box))
      have HEk:=Lib.hid hEk
      clear HCl hfin hcap
      by_cases o5:op=5
      · subst o5
        have HF2:=Lib.hid (HFin.out (dropL yk.links.l (L t)) (by unfold linkW;rw [hcl];rfl))
        have HDrop:=Lib.hid (fun (W:World) (hW:Below wr.heap.size wr W)=>(Drop_any yk.links.A yk.links.c yk.links.l t W (own_below2 hEk.rows.lk hW) (by have:=HOkk.out.2;omega)).mono fun _ _ hp=>hp.ins)
        clear hcl HFin hEk
        go_wp2_with (first
         | (go_at_call 218;refine HCl2.out.mono ?_;rintro e w3 ⟨rfl,hb3⟩;have HB3:=Lib.hid hb3;have q3:=(box14 (HEk.out.below hb3).box).2.2.1;have f3:=frz (HEk.out.below hb3).box 2;clear hb3)
         | (go_at_call 214;refine (HDrop.out _ HB3.out).mono ?_;rintro e w5 hI;obtain ⟨A5,c5,rfl,q5,f5,hP⟩:=InsP.edLinks (HEk.out.below HB3.out) hI;have HP:=Lib.hid hP;clear hP hI q3 f3))
        go_roundg (gk - 1)
        case measure=>omega
        case rel=>exact ⟨k+1,_,by go_num,by omega,by omega,Lib.hid (HF2.out _ _ _ _ HB3.out HP.out)⟩
      · have b5:(op == 5)=false:=by simpa using o5
        have HF2:=Lib.hid (HFin.out (putM yk.links.l (L t) 16) (by unfold linkW;rw [hcl];show (if op=5 then _ else _)=_;rw [if_neg o5]))
        have HPut:=Lib.hid (fun (W:World) (hW:Below wr.heap.size wr W)=>Put_any yk.links.A yk.links.c yk.links.l t 16 W (own_below2 hEk.rows.lk hW) (by have:=HOkk.out.2;omega) (by omega) (Nat.le_trans hgB hW.size) HOkk.out.1)
        clear hcl HFin hEk
        go_wp2_with (first
         | (go_at_call 218;refine HCl2.out.mono ?_;rintro e w3 ⟨rfl,hb3⟩;have HB3:=Lib.hid hb3;have q3:=(box14 (HEk.out.below hb3).box).2.2.1;have f3:=frz (HEk.out.below hb3).box 2;clear hb3)
         | (go_at_call 178;refine (HPut.out _ HB3.out).mono ?_;rintro e w5 hI;obtain ⟨A5,c5,rfl,q5,f5,hP⟩:=InsP.edLinks (HEk.out.below HB3.out) hI;have HP:=Lib.hid hP;clear hP hI q3 f3))
        go_roundg (gk - 1)
        case measure=>omega
        case rel=>exact ⟨k+1,_,by go_num,by omega,by omega,Lib.hid (HF2.out _ _ _ _ HB3.out HP.out)⟩
  · obtain rfl:k=N:=by omega
    go_wp2
    refine bodyPost_ret (v:=.tuple #[]) (results_none rfl _ _ _) rfl ?_
    rw [HEq.out]
    have hd:=HR.out.d
    rw [←HN.out,List.take_length] at hd
    exact (HQ2.out.trans HR.out.q).p hd
set_option maxHeartbeats 8000000 in
theorem PLink3_any (B g:Nat) (y:Dm) (v:ByteArray) (w:World) (h:EdO B w g y) (_hl:y.links.l.length≤1000) (_hs:y.links.l.Pairwise (· < ·)) (hE:Env0 w) (hB:nG≤B) (hv:v.size≤1000000) :
 Calls Tryz.prog 173 #[.pointer (some ⟨g,0,none⟩),.int .i64 3,.string v] w (EdP B g y w (linkS y.d 3 v)):=by
 have hb0:=h.box
 have q0:=(box14 hb0).2.2.1
 have f0:=frz hb0 2
 obtain ⟨y1,hy1⟩:∃ y1:Dm,y1={ y with links:=⟨none,0,[]⟩ }:=⟨_,rfl⟩
 have hq1:EdQ B g y w y1 (w.setCell ⟨g,2,none⟩ (.slice none 0 0)):=by
  rw [hy1]
  exact EdQ.set_links (l':=[]) (A':=none) (c':=0) h (grown_refl _ _) (World.ownsRow_nil _ _ _ _) (fun p e=>by cases e)
 obtain ⟨w1,hw1⟩:∃ W,w.setCell ⟨g,2,none⟩ (.slice none 0 0)=W:=⟨_,rfl⟩
 rw [hw1] at hq1
 have hE1:=hE
 have hok:y1.links.l.Pairwise (· < ·)∧y1.links.l.length≤1000:=by
  rw [hy1]
  exact ⟨List.Pairwise.nil,Nat.zero_le _⟩
 have HE1:=Lib.hid hE1
 have HWd:=Lib.hid (Words_any v w1 hv)
 have HWs:=Lib.hid (word_size v)
 have HOk:=Lib.hid (fun k=>links_ok 3 ((wordL v).take k) (l:=y1.links.l) hok)
 have hEq:linkS y.d 3 v={ y1.d with links:=(wordL v).foldl (linkW 3) y1.links.l }:=by rw [hy1];unfold linkS;rw [if_pos (by decide)];rfl
 have HEq:=Lib.hid hEq
 have H1:=Lib.hid hq1
 have q2:w1.cell? ⟨g,2,none⟩=some (.slice y1.links.A y1.links.l.length y1.links.c):=(box14 hq1.ed.box).2.2.1
 clear hE1 hok hEq h _hl _hs hE hb0 hy1
 generalize wordL v=ws at *
 go_enter Tryz.func173,Tryz.ntmps173
 go_upto_region 2 with fail
 try rw [hw1]
 clear q0 f0 hw1
 go_wp2_with (go_at_call 216;refine HWd.out.mono ?_;rintro e w2 ⟨A,rfl,hA,hmx,hrow,hb2⟩)
 have hq2:=H1.out.trans (EdQ.same H1.out.ed hb2)
 have HAg:=Lib.hid (show A≠g by have:=blk_lt' H1.out.ed.box;omega)
 have HAn:=Lib.hid (fun (a:Option Addr) (ha:a∈y1.as) (p:Addr) (e:a=some p)=>(show p.block≠A by have:=H1.out.ed.rows.lt a ha p e;omega))
 have HR2:Hid (LkR B g y1 3 ws w2 0 y1 w2):=Lib.hid ⟨EdQ.same (H1.out.ed.below hb2) (Below.refl _ _),rfl⟩
 have HRow:=Lib.hid hrow
 have HB2:=Lib.hid hb2
 have HQ2:=Lib.hid hq2
 clear hq2 hrow q2
 generalize hN:ws.length=N at *
 have HN:=Lib.hid hN
 have hmx2:N≤9223372036854775807:=by unfold maxLen at hmx;omega
 clear hN hmx hA
 go_loopg [7,8,9,23] N (fun gk _ _ _ i wr=>∃ (k:Nat) (yk:Dm),i=.int .i64 k∧k≤N∧k+gk=N∧Hid (LkR B g y1 3 ws w2 k yk wr))
 case atStart=>exact ⟨0,y1,rfl,Nat.zero_le _,by omega,HR2⟩
 case round =>
  obtain ⟨k,yk,rfl,hk,hkg,HR⟩:=hrel
  by_cases hlt:k<N
  · have hlt':k<ws.length:=by rw [HN.out];exact hlt
    obtain ⟨ba,off,ea,hc⟩:=str_at (EdR.row HR.out.q.r (by have:=HRow.out;rw [←HN.out] at this;exact this) HAg.out HAn.out) (Below.refl _ _) (by rw [←HN.out] at hlt;exact hlt)
    injection ea with ea
    injection ea with ea1 ea2
    subst ea1 ea2
    rw [Nat.zero_add] at hc
    have hEk:=HR.out.q.ed
    have hbk:=HR.out.q.b
    have hdk:yk.links.l=(ws.take k).foldl (linkW 3) y1.links.l:=congrArg Dr.links HR.out.d
    have hok:=HOk.out k
    rw [←hdk] at hok
    have HCl:=Lib.hid (Clean_any ws[k] wr ((HE1.out.keep HQ2.out.b hB).keep hbk hB) (Nat.le_trans (HWs.out _ (List.getElem_mem hlt')) hv))
    have htk:=fold_take (linkW 3) ws y1.links.l hlt'
    rw [←hdk] at htk
    have HTk:=Lib.hid htk
    have HDk:=Lib.hid hdk
    have HOkk:=Lib.hid hok
    clear htk hdk hok
    generalize ws[k]=x at *
    cases hcl:cleanS x with
    | none =>
      have e:linkW 3 yk.links.l x=yk.links.l:=by unfold linkW;rw [hcl]
      rw [e] at HTk
      rw [hcl] at HCl
      have HCl2:=Lib.hid HCl.out
      clear HCl hcl e
      unfold cleanV at HCl2
      go_wp2_with (go_at_call 218;refine HCl2.out.mono ?_;rintro e w3 ⟨rfl,hb3⟩)
      go_roundg (gk - 1)
      case measure=>omega
      case rel=>exact ⟨k+1,yk,by go_num,by omega,by omega,Lib.hid ⟨HR.out.q.trans (EdQ.same hEk hb3),by rw [HTk.out,HDk.out];exact HR.out.d⟩⟩
    | some t =>
      rw [hcl] at HCl
      have HCl2:=Lib.hid HCl.out
      have hfin:∀ (l':List Str),linkW 3 yk.links.l x=l'→∀ (A':Option Addr) (c':Nat) (w3 w4:World),Below wr.heap.size wr w3→EdQ B g yk w3 { yk with links:=⟨A',c',l'⟩ } w4→LkR B g y1 3 ws w2 (k+1) { yk with links:=⟨A',c',l'⟩ } w4:=fun l' hl' A' c' w3 w4 hb3 hq=>⟨(HR.out.q.trans (EdQ.same hEk hb3)).trans hq,by
       rw [HTk.out,hl']
       have hd:=HR.out.d
       show { yk.d with links:=l' }=_
       rw [hd]⟩
      have HFin:=Lib.hid hfin
      have hcap:cleanV (some t)=.tuple #[.string t,.bool true]:=rfl
      rw [hcap] at HCl2
      have hgB:=Nat.le_trans hEk.lo (Nat.le_of_lt (blk_lt' hEk.box))
      have HEk:=Lib.hid hEk
      clear HCl hfin hcap
      have HF2:=Lib.hid (HFin.out (putM yk.links.l (L t) 16) (by unfold linkW;rw [hcl];show (if (3:Int)=5 then _ else _)=_;rw [if_neg (by decide)]))
      have HPut:=Lib.hid (fun (W:World) (hW:Below wr.heap.size wr W)=>Put_any yk.links.A yk.links.c yk.links.l t 16 W (own_below2 hEk.rows.lk hW) (by have:=HOkk.out.2;omega) (by omega) (Nat.le_trans hgB hW.size) HOkk.out.1)
      clear hcl HFin hEk
      go_wp2_with (first
       | (go_at_call 218;refine HCl2.out.mono ?_;rintro e w3 ⟨rfl,hb3⟩;have HB3:=Lib.hid hb3;have q3:=(box14 (HEk.out.below hb3).box).2.2.1;have f3:=frz (HEk.out.below hb3).box 2;clear hb3)
       | (go_at_call 178;refine (HPut.out _ HB3.out).mono ?_;rintro e w5 hI;obtain ⟨A5,c5,rfl,q5,f5,hP⟩:=InsP.edLinks (HEk.out.below HB3.out) hI;have HP:=Lib.hid hP;clear hP hI q3 f3))
      go_roundg (gk - 1)
      case measure=>omega
      case rel=>exact ⟨k+1,_,by go_num,by omega,by omega,Lib.hid (HF2.out _ _ _ _ HB3.out HP.out)⟩
  · obtain rfl:k=N:=by omega
    go_wp2
    refine bodyPost_ret (v:=.tuple #[]) (results_none rfl _ _ _) rfl ?_
    rw [HEq.out]
    have hd:=HR.out.d
    rw [←HN.out,List.take_length] at hd
    exact (HQ2.out.trans HR.out.q).p hd
set_option maxHeartbeats 8000000 in
theorem PLink6_any (B g:Nat) (y:Dm) (v:ByteArray) (w:World) (h:EdO B w g y) (_hl:y.links.l.length≤1000) (_hs:y.links.l.Pairwise (· < ·)) (hE:Env0 w) (hB:nG≤B) (hv:v.size≤1000000) :
 Calls Tryz.prog 173 #[.pointer (some ⟨g,0,none⟩),.int .i64 6,.string v] w (EdP B g y w (linkS y.d 6 v)):=by
 have hb0:=h.box
 have q0:=(box14 hb0).2.2.1
 have f0:=frz hb0 2
 obtain ⟨y1,hy1⟩:∃ y1:Dm,y1={ y with links:=⟨none,0,[]⟩ }:=⟨_,rfl⟩
 have hq1:EdQ B g y w y1 (w.setCell ⟨g,2,none⟩ (.slice none 0 0)):=by
  rw [hy1]
  exact EdQ.set_links (l':=[]) (A':=none) (c':=0) h (grown_refl _ _) (World.ownsRow_nil _ _ _ _) (fun p e=>by cases e)
 obtain ⟨w1,hw1⟩:∃ W,w.setCell ⟨g,2,none⟩ (.slice none 0 0)=W:=⟨_,rfl⟩
 rw [hw1] at hq1
 have hE1:=hE
 have hok:y1.links.l.Pairwise (· < ·)∧y1.links.l.length≤1000:=by
  rw [hy1]
  exact ⟨List.Pairwise.nil,Nat.zero_le _⟩
 have HE1:=Lib.hid hE1
 have HWd:=Lib.hid (Words_any v w1 hv)
 have HWs:=Lib.hid (word_size v)
 have HOk:=Lib.hid (fun k=>links_ok 6 ((wordL v).take k) (l:=y1.links.l) hok)
 have hEq:linkS y.d 6 v={ y1.d with links:=(wordL v).foldl (linkW 6) y1.links.l }:=by rw [hy1];unfold linkS;rw [if_pos (by decide)];rfl
 have HEq:=Lib.hid hEq
 have H1:=Lib.hid hq1
 have q2:w1.cell? ⟨g,2,none⟩=some (.slice y1.links.A y1.links.l.length y1.links.c):=(box14 hq1.ed.box).2.2.1
 clear hE1 hok hEq h _hl _hs hE hb0 hy1
 generalize wordL v=ws at *
 go_enter Tryz.func173,Tryz.ntmps173
 go_upto_region 2 with fail
 try rw [hw1]
 clear q0 f0 hw1
 go_wp2_with (go_at_call 216;refine HWd.out.mono ?_;rintro e w2 ⟨A,rfl,hA,hmx,hrow,hb2⟩)
 have hq2:=H1.out.trans (EdQ.same H1.out.ed hb2)
 have HAg:=Lib.hid (show A≠g by have:=blk_lt' H1.out.ed.box;omega)
 have HAn:=Lib.hid (fun (a:Option Addr) (ha:a∈y1.as) (p:Addr) (e:a=some p)=>(show p.block≠A by have:=H1.out.ed.rows.lt a ha p e;omega))
 have HR2:Hid (LkR B g y1 6 ws w2 0 y1 w2):=Lib.hid ⟨EdQ.same (H1.out.ed.below hb2) (Below.refl _ _),rfl⟩
 have HRow:=Lib.hid hrow
 have HB2:=Lib.hid hb2
 have HQ2:=Lib.hid hq2
 clear hq2 hrow q2
 generalize hN:ws.length=N at *
 have HN:=Lib.hid hN
 have hmx2:N≤9223372036854775807:=by unfold maxLen at hmx;omega
 clear hN hmx hA
 go_loopg [7,8,9,23] N (fun gk _ _ _ i wr=>∃ (k:Nat) (yk:Dm),i=.int .i64 k∧k≤N∧k+gk=N∧Hid (LkR B g y1 6 ws w2 k yk wr))
 case atStart=>exact ⟨0,y1,rfl,Nat.zero_le _,by omega,HR2⟩
 case round =>
  obtain ⟨k,yk,rfl,hk,hkg,HR⟩:=hrel
  by_cases hlt:k<N
  · have hlt':k<ws.length:=by rw [HN.out];exact hlt
    obtain ⟨ba,off,ea,hc⟩:=str_at (EdR.row HR.out.q.r (by have:=HRow.out;rw [←HN.out] at this;exact this) HAg.out HAn.out) (Below.refl _ _) (by rw [←HN.out] at hlt;exact hlt)
    injection ea with ea
    injection ea with ea1 ea2
    subst ea1 ea2
    rw [Nat.zero_add] at hc
    have hEk:=HR.out.q.ed
    have hbk:=HR.out.q.b
    have hdk:yk.links.l=(ws.take k).foldl (linkW 6) y1.links.l:=congrArg Dr.links HR.out.d
    have hok:=HOk.out k
    rw [←hdk] at hok
    have HCl:=Lib.hid (Clean_any ws[k] wr ((HE1.out.keep HQ2.out.b hB).keep hbk hB) (Nat.le_trans (HWs.out _ (List.getElem_mem hlt')) hv))
    have htk:=fold_take (linkW 6) ws y1.links.l hlt'
    rw [←hdk] at htk
    have HTk:=Lib.hid htk
    have HDk:=Lib.hid hdk
    have HOkk:=Lib.hid hok
    clear htk hdk hok
    generalize ws[k]=x at *
    cases hcl:cleanS x with
    | none =>
      have e:linkW 6 yk.links.l x=yk.links.l:=by unfold linkW;rw [hcl]
      rw [e] at HTk
      rw [hcl] at HCl
      have HCl2:=Lib.hid HCl.out
      clear HCl hcl e
      unfold cleanV at HCl2
      go_wp2_with (go_at_call 218;refine HCl2.out.mono ?_;rintro e w3 ⟨rfl,hb3⟩)
      go_roundg (gk - 1)
      case measure=>omega
      case rel=>exact ⟨k+1,yk,by go_num,by omega,by omega,Lib.hid ⟨HR.out.q.trans (EdQ.same hEk hb3),by rw [HTk.out,HDk.out];exact HR.out.d⟩⟩
    | some t =>
      rw [hcl] at HCl
      have HCl2:=Lib.hid HCl.out
      have hfin:∀ (l':List Str),linkW 6 yk.links.l x=l'→∀ (A':Option Addr) (c':Nat) (w3 w4:World),Below wr.heap.size wr w3→EdQ B g yk w3 { yk with links:=⟨A',c',l'⟩ } w4→LkR B g y1 6 ws w2 (k+1) { yk with links:=⟨A',c',l'⟩ } w4:=fun l' hl' A' c' w3 w4 hb3 hq=>⟨(HR.out.q.trans (EdQ.same hEk hb3)).trans hq,by
       rw [HTk.out,hl']
       have hd:=HR.out.d
       show { yk.d with links:=l' }=_
       rw [hd]⟩
      have HFin:=Lib.hid hfin
      have hcap:cleanV (some t)=.tuple #[.string t,.bool true]:=rfl
      rw [hcap] at HCl2
      have hgB:=Nat.le_trans hEk.lo (Nat.le_of_lt (blk_lt' hEk.box))
      have HEk:=Lib.hid hEk
      clear HCl hfin hcap
      have HF2:=Lib.hid (HFin.out (putM yk.links.l (L t) 16) (by unfold linkW;rw [hcl];show (if (6:Int)=5 then _ else _)=_;rw [if_neg (by decide)]))
      have HPut:=Lib.hid (fun (W:World) (hW:Below wr.heap.size wr W)=>Put_any yk.links.A yk.links.c yk.links.l t 16 W (own_below2 hEk.rows.lk hW) (by have:=HOkk.out.2;omega) (by omega) (Nat.le_trans hgB hW.size) HOkk.out.1)
      clear hcl HFin hEk
      go_wp2_with (first
       | (go_at_call 218;refine HCl2.out.mono ?_;rintro e w3 ⟨rfl,hb3⟩;have HB3:=Lib.hid hb3;have q3:=(box14 (HEk.out.below hb3).box).2.2.1;have f3:=frz (HEk.out.below hb3).box 2;clear hb3)
       | (go_at_call 178;refine (HPut.out _ HB3.out).mono ?_;rintro e w5 hI;obtain ⟨A5,c5,rfl,q5,f5,hP⟩:=InsP.edLinks (HEk.out.below HB3.out) hI;have HP:=Lib.hid hP;clear hP hI q3 f3))
      go_roundg (gk - 1)
      case measure=>omega
      case rel=>exact ⟨k+1,_,by go_num,by omega,by omega,Lib.hid (HF2.out _ _ _ _ HB3.out HP.out)⟩
  · obtain rfl:k=N:=by omega
    go_wp2
    refine bodyPost_ret (v:=.tuple #[]) (results_none rfl _ _ _) rfl ?_
    rw [HEq.out]
    have hd:=HR.out.d
    rw [←HN.out,List.take_length] at hd
    exact (HQ2.out.trans HR.out.q).p hd
theorem PLink_any (B g:Nat) (y:Dm) (op:Int) (v:ByteArray) (w:World) (h:EdO B w g y) (hl:y.links.l.length≤1000) (hs:y.links.l.Pairwise (· < ·)) (hE:Env0 w) (hB:nG≤B) (hv:v.size≤1000000) :
 Calls Tryz.prog 173 #[.pointer (some ⟨g,0,none⟩),.int .i64 op,.string v] w (EdP B g y w (linkS y.d op v)):=by
 by_cases h3:op=3
 · subst h3;exact PLink3_any B g y v w h hl hs hE hB hv
 · by_cases h6:op=6
   · subst h6;exact PLink6_any B g y v w h hl hs hE hB hv
   · exact PLinkN_any B g y op v w h hl hs hE hB hv h3 h6
end
end Go.Proofs.YtobcmlmbblgcdaaGreatDoor
