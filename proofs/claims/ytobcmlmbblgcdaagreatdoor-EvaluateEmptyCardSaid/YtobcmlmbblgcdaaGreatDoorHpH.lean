/-
  helper's Call at a helper that is found: HCall_fine
-/
import Derived.Test.YtobcmlmbblgcdaaGreatDoorG26
namespace Go.Proofs.YtobcmlmbblgcdaaGreatDoor
set_option maxRecDepth 100000
open Go.RowKit Go.Shelf
set_option maxHeartbeats 800000 in
theorem HCall_fine (y:Ls Hp) (lim calls:Int) (cmd:ByteArray) (w:World) (hy:LsN 4 encHp w y) (hl:y.l.length≤1000) (hc:∀ x∈y.l,x.cmd.size≤1000000) (hs:cmd.size≤1000000)
 (h16:¬ 16≤calls) (x0:Hp) (hfx:y.l.find? (fun x=>globM (L x.cmd) (L cmd))=some x0) (hcs:¬ lim<x0.ticks∧x0.fails=false) :
 Calls Tryz.prog 135 #[.slice y.A y.l.length y.c,.int .i64 lim,.int .i64 calls,.string cmd] w fun e w'=>e=.returned (.tuple #[.string (callS y.l lim calls cmd).1,.int .i64 (callS y.l lim calls cmd).2.1,.int .i64 (callS y.l lim calls cmd).2.2])∧Below w.heap.size w w':=by
 have hmf:∀ (fn:Fn) (first cap:Array Value) (w:World),(Instr.makeFunc fn first cap).run Tryz.prog w=.ok (.func fn first cap) w:=fun _ _ _ _=>rfl
 obtain ⟨w1,hw1⟩:∃ w1,((w.alloc (.cells #[.string cmd] 9)).alloc (.cells #[.string ⟨#[]⟩] 9)).alloc (.cells #[.int .i64 0] 39)=w1:=⟨_,rfl⟩
 obtain ⟨hs1,k0,k1,k2,hb1⟩:=alloc3 w (.cells #[.string cmd] 9) (.cells #[.string ⟨#[]⟩] 9) (.cells #[.int .i64 0] 39)
 rw [hw1] at hs1 k0 k1 k2 hb1
 have HI:=Lib.hid (IndexH_any cmd w.heap.size y w1 (hy.keep hb1) hl hc hs (by omega) (cellOf k0 rfl))
 obtain ⟨R,hR⟩:∃ R,callS y.l lim calls cmd=R:=⟨_,rfl⟩
 rw [hR]
 have HB1:=Lib.hid hb1
 have HW1:=Lib.hid hw1
 have HK1:=Lib.hid k1
 have HK2:=Lib.hid k2
 have HS1:=Lib.hid hs1
 have HR:=Lib.hid hR
 have HY:=Lib.hid hy
 clear hw1 hs1 k0 k1 k2 hb1 hy hR
 have c1:w1.cell? ⟨w.heap.size+1,0,none⟩=some (.string ⟨#[]⟩):=cellOf HK1.out rfl
 have c2:w1.cell? ⟨w.heap.size+2,0,none⟩=some (.int .i64 0):=cellOf HK2.out rfl
 have f1:=frz HK1.out 0
 have f2:=frz HK2.out 0
 have HEnd:=Lib.hid (callEnd R w)
 have hpre:R=match y.l.find? (fun x=>globM (L x.cmd) (L cmd)) with
  | none=>(⟨#[]⟩,0,143)
  | some x=>if lim<x.ticks then (⟨#[]⟩,lim,142) else if x.fails then (⟨#[]⟩,x.ticks,141) else (x.out,x.ticks,0):=by
  rw [←HR.out];unfold callS;rw [if_neg h16]
  rfl
 have HPre:=Lib.hid hpre
 clear hpre
 go_enter_defers Tryz.func135,Tryz.ntmps135
 go_upto_region 1 with fail
 rw [HW1.out]
 go_upto_region 5 with (go_at_call 157;refine HI.out.mono ?_;rintro e w2 ⟨h2,hb2⟩;have H2:=Lib.hid h2;have HB2:=Lib.hid hb2;rcases h2 with ⟨k,hk,rfl,hf⟩ | ⟨rfl,hf⟩)
 rotate_left
 · rw [hfx] at hf;cases hf
 have hk2:(k:Int)<(y.l.length:Int):=by omega
 obtain ⟨ba,off,eA,hba,b0,b1,b2,b3⟩:=hp_at HY.out.row.row (bt HB1.out HB2.out) hk
 have ex:x0=y.l[k]:=Option.some.inj (hfx.symm.trans hf)
 rw [ex] at hcs
 clear ex hfx
 have hPre:=HPre.out
 rw [hf] at hPre
 dsimp only at hPre
 have HP2:=Lib.hid hPre
 have hcc1:=(HB2.out.block _ (blk_lt' HK1.out)).trans HK1.out
 have hcc2:=(HB2.out.block _ (blk_lt' HK2.out)).trans HK2.out
 have d1:w2.cell? ⟨w.heap.size+1,0,none⟩=some (.string ⟨#[]⟩):=cellOf hcc1 rfl
 have d2:w2.cell? ⟨w.heap.size+2,0,none⟩=some (.int .i64 0):=cellOf hcc2 rfl
 have g1:=frz hcc1 0
 have g2:=frz hcc2 0
 have hne1:ba≠w.heap.size+1:=by omega
 have hne2:ba≠w.heap.size+2:=by omega
 have hn12:w.heap.size+1≠w.heap.size+2:=by omega
 have hBw2:=Lib.hid (bt HB1.out HB2.out)
 clear hPre hcc1 hcc2 hf b0 c1 c2 f1 f2 hc HI H2 HPre HY HR
 generalize y.l[k]=x at *
 generalize hyA:y.A=yA at *
 subst eA
 clear hyA
 generalize y.l.length=N at *
 generalize y.c=yc at *
 go_upto_region 7 with fail
 go_region
 have p1:(w2.setCell ⟨w.heap.size+1,0,none⟩ (.string x.out)).drew.cell? ⟨w.heap.size+1,0,none⟩=some (.string x.out):=World.cell?_setCell_same _ _ _ d1
 have p2:(w2.setCell ⟨w.heap.size+1,0,none⟩ (.string x.out)).drew.cell? ⟨w.heap.size+2,0,none⟩=some (.int .i64 0):=(World.cell?_setCell_other _ _ _ _ (fun e=>by injection e with e;omega)).trans d2
 have p3:(w2.setCell ⟨w.heap.size+1,0,none⟩ (.string x.out)).drew.cell? ⟨ba,off+k*4+2,none⟩=some (.bool x.fails):=(World.cell?_setCell_other _ _ _ _ (fun e=>by injection e with e;omega)).trans b2
 have u1:(w2.setCell ⟨w.heap.size+1,0,none⟩ (.string x.out)).drew.frozen? ⟨w.heap.size+1,0,none⟩=false:=(World.frozen?_setCell ..).trans g1
 have u2:(w2.setCell ⟨w.heap.size+1,0,none⟩ (.string x.out)).drew.frozen? ⟨w.heap.size+2,0,none⟩=false:=(World.frozen?_setCell ..).trans g2
 have HB3:=Lib.hid (show Below w.heap.size w (w2.setCell ⟨w.heap.size+1,0,none⟩ (.string x.out)).drew from (bCell hBw2.out (by omega)).drew)
 clear d1 d2 g1 g2 b1 b2 b3
 generalize (w2.setCell ⟨w.heap.size+1,0,none⟩ (.string x.out)).drew=w3 at *
 have ht:¬ lim<x.ticks:=by have:=hcs.1;omega
 have hfl:=hcs.2
 have HP3a:=HP2.out.trans (if_neg ht)
 clear HP2
 rw [hfl] at p3 HP3a
 have HP3:=Lib.hid (HP3a.trans (if_neg (by decide)))
 clear HP3a
 go_upto_region 12 with fail
 have HEW:=Lib.hid (endW (O:=w.heap.size+1) (E:=w.heap.size+2) (by omega) p1 p2 u1)
 clear p3
 go_region
 go_wp2
 exact HEnd.out _ _ 0 (x.ticks) x.out rfl rfl rfl HEW.out.1 HEW.out.2.1 HEW.out.2.2 (bCell (bCell HB3.out (by omega)) (by omega)).drew (HP3.out.trans rfl)
end Go.Proofs.YtobcmlmbblgcdaaGreatDoor
