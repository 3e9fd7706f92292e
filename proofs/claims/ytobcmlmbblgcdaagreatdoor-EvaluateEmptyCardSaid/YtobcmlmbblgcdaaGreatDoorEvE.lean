/-
  Contract of an evaluation's expand.
-/
import Derived.Test.YtobcmlmbblgcdaaGreatDoorG26
import Derived.Test.YtobcmlmbblgcdaaGreatDoorExpand
import Derived.Test.YtobcmlmbblgcdaaGreatDoorG23
namespace Go.Proofs.YtobcmlmbblgcdaaGreatDoor
set_option maxRecDepth 100000
open Go.RowKit
theorem setCell_row {w:World} {g i:Nat} {cs:Array Value} {t:TypeId} {fr:Nat × Nat} {v:Value} (h:w.heap[g]? = some (.cells cs t fr)):w.setCell ⟨g,i,none⟩ v=w.setRow g (cs.setIfInBounds i v):=setCell_eq_setRow _ _ _ _ _ _ _ h
theorem EvO.one {w:World} {g:Nat} {c:EmC} {x:Em} (h:EvO w g c x) (i:Nat) (v:Value) (y:Em) (hy:(evA c x).setIfInBounds i v=evA c y) (hd:DmN w y.dr) (ha:DvN w y.ab) (ho:OffG g y.as):EvO (w.setCell ⟨g,i,none⟩ v) g c y∧w.grownBy (w.setCell ⟨g,i,none⟩ v) (some g):=by
 rw [setCell_row h.box,hy]
 exact h.set (Below.refl _ _) y hd ha ho
def vsM (c:EmC) (x:Em) (n:ByteArray):Vs:=⟨c.dev.og,c.org,x.ab.og,x.ab.dr,c.pnt,n,x.dr.res,⟨c.dev.ats.A,c.dev.ats.c,c.dev.ats.l⟩,⟨x.ab.ats.A,x.ab.ats.c,x.ab.ats.l⟩,⟨x.dr.props.A,x.dr.props.c,x.dr.props.l⟩⟩
def vsRow (c:EmC) (x:Em) (n:ByteArray):Array Value:=#[.string c.dev.og,.string c.org,.string x.ab.og,.string x.ab.dr,.string c.pnt,.string n,.string x.dr.res,.slice c.dev.ats.A c.dev.ats.l.length c.dev.ats.c,.slice x.ab.ats.A x.ab.ats.l.length x.ab.ats.c,.slice x.dr.props.A x.dr.props.l.length x.dr.props.c]
theorem outS_lst (ps:List Pc) (a b c d e f g:ByteArray) (y z u:Lst):outS ps ⟨a,b,c,d,e,f,g,y,z,u⟩=outS ps ⟨a,b,c,d,e,f,g,⟨none,0,y.l⟩,⟨none,0,z.l⟩,⟨none,0,u.l⟩⟩:=rfl
theorem expand_lst (s:Str) (a b c d e f g:ByteArray) (y z u:Lst):expandS s ⟨a,b,c,d,e,f,g,y,z,u⟩=expandS s ⟨a,b,c,d,e,f,g,⟨none,0,y.l⟩,⟨none,0,z.l⟩,⟨none,0,u.l⟩⟩:=by
 unfold expandS
 rw [outS_lst]
theorem expE_m (c:EmC) (x:Em) (s:ByteArray):expE c.c x.e s=(expandS (L s) (vsM c x (if (L x.dr.nam).isEmpty then c.dev.og else x.dr.nam))).1:=by
 unfold vsM
 rw [expand_lst]
 rfl
theorem vals_size:(Tryz.prog.info? 207).map (·.size)=some 10:=by kernel_rfl
theorem bu_vs (parts:Array (Nat × Value)):Instr.build 207 parts=buG 207 parts:=by unfold buG;rfl
theorem vs_build (c:EmC) (x:Em) (W:World):(buG 207 #[(0,.string c.dev.og),(1,.string c.org),(2,.string x.ab.og),(3,.string x.ab.dr),(4,.string c.pnt),(5,.string x.dr.nam),(6,.string x.dr.res),(7,.slice c.dev.ats.A c.dev.ats.l.length c.dev.ats.c),(8,.slice x.ab.ats.A x.ab.ats.l.length x.ab.ats.c),(9,.slice x.dr.props.A x.dr.props.l.length x.dr.props.c)]).run Tryz.prog W=.ok (.agg (vsRow c x x.dr.nam)) W:=by
 unfold buG
 exact run_build W _ _ _ (by kernel_rfl)
attribute [local go_sem ↓] bu_vs
theorem st_vs (v u:Value):Instr.storeAt 207 v u=stG 207 v u:=by unfold stG;rfl
theorem stVs_new (W:World) (c:EmC) (x:Em) (n:ByteArray):(stG 207 (.pointer (some ⟨W.heap.size,0,none⟩)) (.agg (vsRow c x n))).run Tryz.prog (W.alloc (.cells #[.string ⟨#[]⟩,.string ⟨#[]⟩,.string ⟨#[]⟩,.string ⟨#[]⟩,.string ⟨#[]⟩,.string ⟨#[]⟩,.string ⟨#[]⟩,.slice none 0 0,.slice none 0 0,.slice none 0 0] 207)).drew=.ok () ((W.alloc (.cells #[.string ⟨#[]⟩,.string ⟨#[]⟩,.string ⟨#[]⟩,.string ⟨#[]⟩,.string ⟨#[]⟩,.string ⟨#[]⟩,.string ⟨#[]⟩,.slice none 0 0,.slice none 0 0,.slice none 0 0] 207)).drew.setRow W.heap.size (vsRow c x n)):=by
 have h:=stG_at (P:=Tryz.prog) (w:=(W.alloc (.cells #[.string ⟨#[]⟩,.string ⟨#[]⟩,.string ⟨#[]⟩,.string ⟨#[]⟩,.string ⟨#[]⟩,.string ⟨#[]⟩,.string ⟨#[]⟩,.slice none 0 0,.slice none 0 0,.slice none 0 0] 207)).drew) (T:=207) (g:=W.heap.size) (o:=0) (cs:=#[.string ⟨#[]⟩,.string ⟨#[]⟩,.string ⟨#[]⟩,.string ⟨#[]⟩,.string ⟨#[]⟩,.string ⟨#[]⟩,.string ⟨#[]⟩,.slice none 0 0,.slice none 0 0,.slice none 0 0]) (vs:=vsRow c x n) (t:=207) (heap_alloc_new W _) (by exact Nat.le_refl _) (by show 0<10;omega) (by exact vals_size) (by simp [vsRow,Value.oneCell'])
 rw [setAll_whole (#[.string ⟨#[]⟩,.string ⟨#[]⟩,.string ⟨#[]⟩,.string ⟨#[]⟩,.string ⟨#[]⟩,.string ⟨#[]⟩,.string ⟨#[]⟩,.slice none 0 0,.slice none 0 0,.slice none 0 0]) (vsRow c x n) rfl] at h
 exact h
attribute [local go_sem ↓] st_vs
structure XpZ (c:EmC) (x:Em):Prop where
 og:c.dev.og.size≤1000000
 org:c.org.size≤1000000
 abo:x.ab.og.size≤1000000
 abd:x.ab.dr.size≤1000000
 pnt:c.pnt.size≤1000000
 nam:x.dr.nam.size≤1000000
 res:x.dr.res.size≤1000000
 da:∀ a∈c.dev.ats.l,a.val.size≤1000000
 aa:∀ a∈x.ab.ats.l,a.val.size≤1000000
 pa:∀ a∈x.dr.props.l,a.val.size≤1000000
 dl:c.dev.ats.l.length≤1000
 al:x.ab.ats.l.length≤1000
 pl:x.dr.props.l.length≤1000
set_option maxHeartbeats 8000000 in
theorem EExpand_any (g:Nat) (c:EmC) (x:Em) (s:ByteArray) (w:World) (h:EvO w g c x) (hz:XpZ c x) (hE:Env w) (hs:s.size≤1000000) :
 Calls Tryz.prog 113 #[.pointer (some ⟨g,0,none⟩),.string s] w fun e w'=>e=.returned (.string (expE c.c x.e s))∧Below w.heap.size w w':=by
 rw [expE_m]
 obtain ⟨R,hR⟩:∃ R,(expandS (L s) (vsM c x (if (L x.dr.nam).isEmpty then c.dev.og else x.dr.nam))).1=R:=⟨_,rfl⟩
 rw [hR]
 have HR0:=Lib.hid hR
 clear hR
 have hb:=h.box
 have HQ:Hid (∀ W',Below w.heap.size w W'→W'.cell? ⟨g,34,none⟩=some (.string c.dev.og)∧W'.cell? ⟨g,41,none⟩=some (.string c.org)∧W'.cell? ⟨g,46,none⟩=some (.string x.ab.og)∧W'.cell? ⟨g,48,none⟩=some (.string x.ab.dr)∧W'.cell? ⟨g,42,none⟩=some (.string c.pnt)∧W'.cell? ⟨g,5,none⟩=some (.string x.dr.nam)∧W'.cell? ⟨g,10,none⟩=some (.string x.dr.res)∧W'.cell? ⟨g,40,none⟩=some (.slice c.dev.ats.A c.dev.ats.l.length c.dev.ats.c)∧W'.cell? ⟨g,52,none⟩=some (.slice x.ab.ats.A x.ab.ats.l.length x.ab.ats.c)∧W'.cell? ⟨g,0,none⟩=some (.slice x.dr.props.A x.dr.props.l.length x.dr.props.c)):=Lib.hid fun W' hW'=>by
  have h1:=(hW'.block _ (blk_lt' hb)).trans hb
  exact ⟨cellOf h1 rfl,cellOf h1 rfl,cellOf h1 rfl,cellOf h1 rfl,cellOf h1 rfl,cellOf h1 rfl,cellOf h1 rfl,cellOf h1 rfl,cellOf h1 rfl,cellOf h1 rfl⟩
 have hgl:g<w.heap.size:=blk_lt' hb
 have hbd:=vs_build c x
 have hst:=stVs_new w c x x.dr.nam
 have H:=Lib.hid h
 have HZ:=Lib.hid hz
 have HE:=Lib.hid hE
 clear h hz hE hb
 go_enter Tryz.func113,Tryz.ntmps113
 go_upto_region 1 with fail
 go_region_held3 (fun W'=>W'.cell? ⟨g,34,none⟩=some (.string c.dev.og)∧W'.cell? ⟨g,41,none⟩=some (.string c.org)∧W'.cell? ⟨g,46,none⟩=some (.string x.ab.og)∧W'.cell? ⟨g,48,none⟩=some (.string x.ab.dr)∧W'.cell? ⟨g,42,none⟩=some (.string c.pnt)∧W'.cell? ⟨g,5,none⟩=some (.string x.dr.nam)∧W'.cell? ⟨g,10,none⟩=some (.string x.dr.res)∧W'.cell? ⟨g,40,none⟩=some (.slice c.dev.ats.A c.dev.ats.l.length c.dev.ats.c)∧W'.cell? ⟨g,52,none⟩=some (.slice x.ab.ats.A x.ab.ats.l.length x.ab.ats.c)∧W'.cell? ⟨g,0,none⟩=some (.slice x.dr.props.A x.dr.props.l.length x.dr.props.c)) ((refine HQ.out _ ?_;repeat (first | exact Below.refl _ _ | refine Below.drew ?_ | refine bRow ?_ (Nat.le_refl _) | refine bAl ?_))) (fail)
 obtain ⟨w1,hw1⟩:∃ w1,(w.alloc (.cells #[.string ⟨#[]⟩,.string ⟨#[]⟩,.string ⟨#[]⟩,.string ⟨#[]⟩,.string ⟨#[]⟩,.string ⟨#[]⟩,.string ⟨#[]⟩,.slice none 0 0,.slice none 0 0,.slice none 0 0] 207)).drew.setRow w.heap.size (vsRow c x x.dr.nam)=w1:=⟨_,rfl⟩
 rw [hw1]
 have hb1:Below w.heap.size w w1:=by rw [←hw1];exact bRow ((below_alloc w _).drew) (Nat.le_refl _)
 have hr1:w1.heap[w.heap.size]? = some (.cells (vsRow c x x.dr.nam) 207 (0,0)):=by rw [←hw1];exact setRow_heap _ _ _ _ _ _ (heap_alloc_new w _)
 have HX:Hid (∀ (n:ByteArray) (W:World),n.size≤1000000→Below w.heap.size w W→Calls Tryz.prog 143 #[.string s,.agg (vsRow c x n)] W (ExpPost (expandS (L s) (vsM c x n)) W)):=Lib.hid fun n W hn hW=>by
  have hk:=H.out.keep hW
  refine Expand_any s (vsM c x n) W (HE.out.go hW) (by omega) ⟨hk.dev.row,hk.ab.row,hk.dr.pr.row.row,by have:=HZ.out.dl;show c.dev.ats.l.length≤_;omega,by have:=HZ.out.al;show x.ab.ats.l.length≤_;omega,by have:=HZ.out.pl;show x.dr.props.l.length≤_;omega⟩ (by have:=HZ.out.res;show x.dr.res.size≤_;omega) (by have:=HZ.out.og;show c.dev.og.size≤_;omega) (fun q hq=>?_)
  have h1:VsSmall 1000000 (vsM c x n):=⟨HZ.out.og,HZ.out.org,HZ.out.abo,HZ.out.abd,HZ.out.pnt,hn,HZ.out.res,HZ.out.da,HZ.out.aa,HZ.out.pa⟩
  have h2:=valueS_small (M:=1048576) (q:=q) (h1.more (by decide)) (by have:=(fits_parseR (L s)).2 q hq;omega)
  omega
 have HB1:=Lib.hid hb1
 have HR1:=Lib.hid hr1
 have q5b:w1.cell? ⟨w.heap.size,5,none⟩=some (.string x.dr.nam):=cellOf hr1 rfl
 clear hw1 hb1 hr1 hst hbd
 by_cases h0:x.dr.nam.toList=[]
 · have e0:(L x.dr.nam).isEmpty=true:=by rw [L_nil h0];rfl
   have hg1:=(HB1.out.block _ (blk_lt' H.out.box)).trans H.out.box
   have q34:w1.cell? ⟨g,34,none⟩=some (.string c.dev.og):=cellOf hg1 rfl
   have f5:=frz HR1.out 5
   clear hg1
   have HX2:=Lib.hid (HX.out c.dev.og (w1.setCell ⟨w.heap.size,5,none⟩ (.string c.dev.og)) HZ.out.og (bCell HB1.out (Nat.le_refl _)))
   have hr2:(w1.setCell ⟨w.heap.size,5,none⟩ (.string c.dev.og)).heap[w.heap.size]? = some (.cells (vsRow c x c.dev.og) 207 (0,0)):=by
    rw [setCell_row HR1.out]
    exact setRow_heap _ _ _ _ _ _ HR1.out
   have HR2:=Lib.hid hr2
   have HB2:=Lib.hid (bCell (i:=5) (u:=.string c.dev.og) HB1.out (Nat.le_refl w.heap.size))
   clear hr2
   go_upto_region 4 with fail
   generalize w1.setCell ⟨w.heap.size,5,none⟩ (.string c.dev.og)=w2 at *
   clear q34 f5 q5b
   go_wp2_with (first
    | (go_at_call 143;refine HX2.out.mono ?_;rintro e w3 ⟨rfl,hb3⟩)
    | (refine wpList_load_row rfl 207 _ rfl _ rfl _ _ _ _ HR2.out Tryz.underlying207 rfl (by exact vals_size) ?_))
   go_ret
   refine ⟨?_,bt HB2.out hb3⟩
   have h9:=HR0.out
   rw [if_pos e0] at h9
   rw [←h9];rfl
 · have e0:(L x.dr.nam).isEmpty=false:=L_ne h0
   have e1:x.dr.nam.toList.isEmpty=false:=by rw [tl];exact e0
   have HX2:=Lib.hid (HX.out x.dr.nam w1 HZ.out.nam HB1.out)
   go_wp2_with (first
    | (go_at_call 143;refine HX2.out.mono ?_;rintro e w3 ⟨rfl,hb3⟩)
    | (refine wpList_load_row rfl 207 _ rfl _ rfl _ _ _ _ HR1.out Tryz.underlying207 rfl (by exact vals_size) ?_))
   go_ret
   refine ⟨?_,bt HB1.out hb3⟩
   have h9:=HR0.out
   rw [e0] at h9
   rw [←h9];rfl
end Go.Proofs.YtobcmlmbblgcdaaGreatDoor
