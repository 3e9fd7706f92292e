/- Contracts that the law rests on, each under the premises that it names. -/
import Derived.Test.YtecbmndgpepkcaaGreatDoorG23
namespace Go.Proofs.YtecbmndgpepkcaaGreatDoor
open Tryz
set_option maxHeartbeats 8000000
set_option maxRecDepth 100000
open Go.RowKit Go.Shelf
theorem zal(y:Ls Hp)(lim calls:Int)(cmd:ByteArray)(w:World)(hy:zB 4 QE w y)(hl:y.l.length<=1000)(hc:∀x∈y.l,x.cmd.size<=1000000)(hs:cmd.size<=1000000)
 (h16:¬16<=calls)(x0:Hp)(hfx:y.l.find? (fun x=>zS (L x.cmd) (L cmd))=some x0)(hcs:¬lim<x0.ticks/\x0.fails=false):
 Calls prog 120 #[.slice y.A y.l.length y.c,.int .i64 lim,.int .i64 calls,.string cmd] w fun e w'=>e=.returned (.tuple #[.string (Zh y.l lim calls cmd).1,.int .i64 (Zh y.l lim calls cmd).2.1,.int .i64 (Zh y.l lim calls cmd).2.2])/\Below w.heap.size w w':=by
 have hmf:∀(fn:Fn) (first cap:Array Value) (w:World),(Instr.makeFunc fn first cap).run prog w=.ok (.func fn first cap) w:=fun _ _ _ _=>rfl;obtain⟨w1,hw1⟩:∃w1,((w.alloc (.cells #[.string cmd] 9)).alloc (.cells #[.string ⟨#[]⟩] 9)).alloc (.cells #[.int .i64 0] 39)=w1:=⟨_,rfl⟩;obtain⟨hs1,k0,k1,k2,hb1⟩:=Ka w (.cells #[.string cmd] 9) (.cells #[.string ⟨#[]⟩] 9) (.cells #[.int .i64 0] 39);rw[hw1]at hs1 k0 k1 k2 hb1;have HI:=za (Mc cmd w.heap.size y w1 (hy.keep hb1) hl hc hs zb (zd k0 rfl));obtain⟨R,hR⟩:∃R,Zh y.l lim calls cmd=R:=⟨_,rfl⟩;rw[hR];have HB1:=za hb1;have HW1:=za hw1;have HK1:=za k1;have HK2:=za k2;have HS1:=za hs1;have HR:=za hR;have HY:=za hy;clear hw1 hs1 k0 k1 k2 hb1 hy hR;have c1:w1.cell? ⟨w.heap.size+1,0,none⟩=some (.string ⟨#[]⟩):=zd HK1.out rfl;have c2:w1.cell? ⟨w.heap.size+2,0,none⟩=some (.int .i64 0):=zd HK2.out rfl;have f1:=qe HK1.out 0;have f2:=qe HK2.out 0;have HEnd:=za (MO R w);have hpre:R=match y.l.find? (fun x=>zS (L x.cmd) (L cmd))with
  |none=>(⟨#[]⟩,0,143)
  |some x=>if lim<x.ticks then(⟨#[]⟩,lim,142)else if x.fails then(⟨#[]⟩,x.ticks,141)else(x.out,x.ticks,0):=by
  exact NX
 have UC:=za hpre;clear hpre
 go_enter_defers func120,ntmps120
 go_upto_region 1 with fail
 rw[HW1.out];go_upto_region 5 with(go_at_call 152;refine HI.out.mono ?_;rintro e w2 ⟨h2,hb2⟩;have H2:=za h2;have HB2:=za hb2;rcases h2 with⟨k,hk,rfl,hf⟩|⟨rfl,hf⟩)
 rotate_left
 · rw[hfx]at hf;cases hf
 have hk2:(k:Int)<(y.l.length:Int):=zb;obtain⟨ba,off,eA,hba,b0,b1,b2,b3⟩:=PD HY.out.row.row (bt HB1.out HB2.out) hk;have ex:x0=y.l[k]:=zx (hfx.symm.trans hf);rw[ex]at hcs;clear ex hfx;have Ql:=UC.out;rw[hf]at Ql;dsimp only at Ql;have HP2:=za Ql;have hcc1:=(HB2.out.block _ (zh HK1.out)).trans HK1.out;have hcc2:=(HB2.out.block _ (zh HK2.out)).trans HK2.out;have d1:w2.cell? ⟨w.heap.size+1,0,none⟩=some (.string ⟨#[]⟩):=zd hcc1 rfl;have d2:w2.cell? ⟨w.heap.size+2,0,none⟩=some (.int .i64 0):=zd hcc2 rfl;have g1:=qe hcc1 0;have g2:=qe hcc2 0;have hne1:ba≠w.heap.size+1:=zb;have hne2:ba≠w.heap.size+2:=zb;have hn12:w.heap.size+1≠w.heap.size+2:=zb;have hBw2:=za (bt HB1.out HB2.out);clear Ql hcc1 hcc2 hf b0 c1 c2 f1 f2 hc HI H2 UC HY HR;generalize y.l[k]=x at*;generalize hyA:y.A=yA at*;subst eA;clear hyA;generalize y.l.length=N at*;generalize y.c=yc at*;go_upto_region 7 with fail
 go_region
 have p1:(w2.setCell ⟨w.heap.size+1,0,none⟩ (.string x.out)).drew.cell? ⟨w.heap.size+1,0,none⟩=some (.string x.out):=World.cell?_setCell_same _ _ _ d1;have p2:(w2.setCell ⟨w.heap.size+1,0,none⟩ (.string x.out)).drew.cell? ⟨w.heap.size+2,0,none⟩=some (.int .i64 0):=(World.cell?_setCell_other _ _ _ _ (fun e=>ZD)).trans d2;have p3:(w2.setCell ⟨w.heap.size+1,0,none⟩ (.string x.out)).drew.cell? ⟨ba,off+k*4+2,none⟩=some (.bool x.fails):=(World.cell?_setCell_other _ _ _ _ (fun e=>ZD)).trans b2;have u1:(w2.setCell ⟨w.heap.size+1,0,none⟩ (.string x.out)).drew.frozen? ⟨w.heap.size+1,0,none⟩=false:=(World.frozen?_setCell ..).trans g1;have u2:(w2.setCell ⟨w.heap.size+1,0,none⟩ (.string x.out)).drew.frozen? ⟨w.heap.size+2,0,none⟩=false:=(World.frozen?_setCell ..).trans g2;have HB3:=za (show Below w.heap.size w (w2.setCell ⟨w.heap.size+1,0,none⟩ (.string x.out)).drew from(ZF hBw2.out zb).drew);clear d1 d2 g1 g2 b1 b2 b3;generalize (w2.setCell ⟨w.heap.size+1,0,none⟩ (.string x.out)).drew=w3 at*;have ht:¬lim<x.ticks:=by have:=hcs.1;omega
 have hfl:=hcs.2;have HP3a:=HP2.out.trans (if_neg ht);clear HP2;rw[hfl]at p3 HP3a;have HP3:=za (HP3a.trans (if_neg zi));clear HP3a;go_upto_region 12 with fail
 have HEW:=za (Pi (O:=w.heap.size+1) (E:=w.heap.size+2) zb p1 p2 u1);clear p3;go_region
 go_wp2;exact HEnd.out _ _ 0 (x.ticks) x.out rfl rfl rfl HEW.out.1 HEW.out.2.1 HEW.out.2.2 (ZF (ZF HB3.out zb) zb).drew (HP3.out.trans rfl)
end Go.Proofs.YtecbmndgpepkcaaGreatDoor
