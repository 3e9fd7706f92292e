/- Contracts that the law rests on, each under the premises that it names. -/
import Derived.Test.YtecbmndgpepkcaaGreatDoorG21
import Derived.Lib.ParseIntBMem
import Derived.Laws.Strings3
import Derived.Laws.Closers25
import Derived.Laws.Closers25b
import Derived.BigCall
import Derived.BigGuard
namespace Go.Proofs.YtecbmndgpepkcaaGreatDoor
open Tryz
set_option maxHeartbeats 8000000
set_option maxRecDepth 100000
section
open Go.RowKit Go.Shelf
abbrev CF:TypeId:=335
def Qi:Nat->ze->Option Nat
 |n,[]=>some n
 |n,c::r=>if 48<=c.toNat/\c.toNat<=55 then(if 4095<n*8+(c.toNat - 48)then none else Qi (n*8+(c.toNat - 48)) r)else none
def LC(o:Option Nat)(e:Ending):Prop:=match o with
 |some n=>e=.returned (.tuple #[.int .u64 n,.nilIface])
 |none=>∃u k:Int,e=.returned (.tuple #[.int .u64 u,.iface CF (.int .i64 k)])/\(k=1∨k=2)
theorem zbd(c:Int)(w:World):Calls prog 273 #[.int .u8 c] w fun e w'=>e=.returned (.int .u8 (bits .or .u8 c 32))/\w'=w:=by
 go_enter func273,ntmps273;exact kl
theorem zey(w:World)(t:ByteArray):Below w.heap.size w (Lib.bytesWorld w 5 t):=⟨rfl,rfl,rfl,j5,fun k hk=>Lib.bytesWorld_at_old _ _ _ _ hk⟩
theorem zkx(t:ByteArray)(hmax:t.size<=9223372036854775806)(w:World):
 Calls prog 248 #[.string t,.int .i64 8,.int .i64 12] w fun e w'=>LC (if t.size=0 then none else Qi 0 (L t)) e/\Below w.heap.size w w':=by
 by_cases hne:t.size=0
 · rw[if_pos hne];have h0:t.toList=[]:=by rw[tl];exact List.eq_nil_of_length_eq_zero (by rw[zF];exact hne)
   go_enter func248,ntmps248;go_wp2;go_ret2;exact⟨⟨_,_,rfl,Or.inr rfl⟩,zj⟩
 rw[if_neg hne];have hemp:t.toList.isEmpty=false:=by
  rw[tl];cases h:L t with
  |nil=>exact absurd (by rw[<-zF,h];rfl) hne
  |cons=>rfl
 have hcv:=Lib.run_convert_string_bytes (P:=prog) w 9 154 5 t (u:=.string) underlying9 underlying154 underlying5;have hB:∀j,j<t.size->(Lib.bytesWorld w 5 t).cell? ⟨w.heap.size,j,none⟩=some (.int .u8 (t.data.toList.getD j 0).toNat):=fun j hj=>Lib.bytesWorld_cell w 5 t j hj;have hBw:=zey w t;obtain⟨W1,hW1⟩:∃W1,W1=Lib.bytesWorld w 5 t:=⟨_,rfl⟩;rw[<-hW1]at hcv hB hBw;clear hW1;have HBw:=za hBw;clear hBw;obtain⟨bs,hL⟩:∃bs,bs=t.data.toList:=⟨_,rfl⟩;have hLn:bs.length=t.size:=by rw[hL];exact zF t
 have hLt:L t=bs:=hL.symm;rw[<-hL]at hB;rw[hLt];clear hL hLt;have hmv:IntKind.u64.wrap (IntKind.u64.wrap 4096 - 1)=4095:=by
  rw[IntKind.wrap_u64,IntKind.wrap_u64];decide
 obtain⟨R,hR⟩:∃R,Qi 0 bs=R:=⟨_,rfl⟩;rw[hR];go_enter func248,ntmps248;go_wp2
 go_loop [12,13,101] (fun vu vn vi=>∃(k acc:Nat) (a:Int),vu=.bool false/\vn=.int .u64 a/\vi=.int .i64 k/\k<=t.size/\Hid (a=(acc:Int)/\acc<=4095/\Qi acc (bs.drop k)=R))
  (fun _ _ vi=>t.size - (intOf vi).toNat)
 case atStart=>exact⟨0,0,0,rfl,rfl,rfl,zb,rfl,zb,hR⟩
 case round=>
  obtain⟨k,acc,a,rfl,rfl,rfl,hk,hh⟩:=hrel;obtain⟨ha,hacc,hdec⟩:=hh.out;clear hh hR;have a0:0<=a:=zb;have a1:a<=4095:=zb;by_cases hkn:k<t.size
  · have hc:=hB k hkn;have hdrop:bs.drop k=bs[k]' zb::bs.drop (k+1):=zd7 zb;have hget:bs.getD k 0=bs[k]' zb:=by simp[List.getD,l0 (show k<bs.length by omega)]
    rw[hdrop]at hdec;rw[hget]at hc;generalize bs[k]' zb=c at hc hdec;have hc256:c.toNat<256:=c.toNat_lt;clear hB hdrop hget;by_cases hdig:48<=c.toNat/\c.toNat<=55
    · obtain⟨hd0,hd1⟩:=hdig;by_cases hov:4095<acc*8+(c.toNat - 48)
      · have hF:Qi acc (c::bs.drop (k+1))=none:=by rw[Qi,if_pos ⟨hd0,hd1⟩,if_pos hov]
        rw[hF]at hdec;subst hdec;have iov:4095<a*8+((c.toNat:Int) - 48):=zb;clear hacc hF hov ha;go_wp2;go_ret2;exact⟨⟨_,_,rfl,Or.inl rfl⟩,HBw.out⟩
      · have hF:Qi acc (c::bs.drop (k+1))=Qi (acc*8+(c.toNat - 48)) (bs.drop (k+1)):=by rw[Qi,if_pos ⟨hd0,hd1⟩,if_neg hov]
        have HN:Hid (a*8+((c.toNat:Int) - 48)=((acc*8+(c.toNat - 48):Nat):Int)/\acc*8+(c.toNat - 48)<=4095/\Qi (acc*8+(c.toNat - 48)) (bs.drop (k+1))=R):=za ⟨zb,zb,hF.symm.trans hdec⟩;have iov:a*8+((c.toNat:Int) - 48)<=4095:=zb;clear hacc hF hov hdec ha;go_wp2;refine⟨⟨k+1,acc*8+(c.toNat - 48),a*8+((c.toNat:Int) - 48),rfl,(by first|rfl|(congr 1;omega)),(by first|rfl|(congr 1;omega)),zb,HN⟩,by simp[intOf];omega⟩
    · have hF:Qi acc (c::bs.drop (k+1))=none:=by rw[Qi,if_neg hdig]
      rw[hF]at hdec;subst hdec;clear hacc hF ha;by_cases h9:56<=c.toNat/\c.toNat<=57
      · obtain⟨hd0,hd1⟩:=h9;clear hdig;go_wp2;go_ret2;exact⟨⟨_,_,rfl,Or.inr rfl⟩,HBw.out⟩
      · have hnd:¬(48<=c.toNat/\c.toNat<=57):=by omega
        clear h9 hdig;have hv0:=bits_lo_u8 .or (c.toNat:Int) 32;have hv1:=bits_hi_u8 .or (c.toNat:Int) 32;have hu0:=bits_lo_u8 .or 95 32;have hu1:=bits_hi_u8 .or 95 32;go_wp2_with (go_at_call 273;refine(zbd _ _).mono ?_;rintro e w' ⟨rfl,rfl⟩)
        all_goals go_ret2
        all_goals exact⟨⟨_,_,rfl,Or.inr rfl⟩,HBw.out⟩
  · have hkk:k=t.size:=by omega
    subst hkk;have hF:Qi acc (bs.drop t.size)=some acc:=by rw[List.drop_eq_nil_of_le zb];rfl
    rw[hF]at hdec;subst hdec;subst ha;clear hacc hF a0 a1;go_wp2;go_ret2;exact⟨rfl,HBw.out⟩
end
section
open Go.RowKit Go.Shelf
theorem yI:∀(s:ze) (a n:Nat),Qi a s=some n->(∀b∈s,48<=b.toNat/\b.toNat<=55)/\(n:Int)=s.foldl (fun n b=>8*n+((b.toNat:Int) - 48)) (a:Int)
 | [],a,n,h=>⟨fun b hb=>(by cases hb),by cases h;rfl⟩
 | c ::r,a,n,h=>by
   rw[Qi]at h
   split at h
   · rename_i hc
     split at h
     · cases h
     · obtain⟨h1,h2⟩:=yI r _ n h;refine⟨fun b hb=>?_,?_⟩
       · rcases List.mem_cons.1 hb with rfl|hb
         · exact hc
         · exact h1 b hb
       · rw[h2,zl2]
         congr 1
         omega
   · cases h
theorem LP:∀(s:ze) (a:Nat),(∀b∈s,48<=b.toNat/\b.toNat<=55)->(a+1)*8^s.length<=4096->∃n,Qi a s=some n
 | [],a,_,_=>⟨a,rfl⟩
 | c::r,a,h,hb=>by
   have hc:=h c (X4 ..);have h8:(a+1)*8^(c::r).length=((a+1)*8)*8^r.length:=by rw[u0,Nat.pow_succ,Nat.mul_assoc,Nat.mul_comm 8]
   rw[h8]at hb;have h1:(a*8+(c.toNat - 48)+1)*8^r.length<=4096:=i3 (Nat.mul_le_mul_right _ zb) hb;have h2:0<8^r.length:=Nat.pow_pos zi;have h3:a*8+(c.toNat - 48)+1<=4096:=i3 (Nat.le_mul_of_pos_right _ h2) h1;rw[Qi,if_pos hc,if_neg zb];exact LP r _ (fun b hb=>h b (X6 _ hb)) h1
theorem D1:∀(s:ze) (a n:Nat),a<=4095->Qi a s=some n->n<=4095
 | [],a,n,h,e=>by cases e;exact h
 | c ::r,a,n,h,e=>by
   rw[Qi]at e
   split at e
   · split at e
     · cases e
     · exact D1 r _ n zb e
   · cases e
theorem Ni(s:ze):U6 s=true↔(1<=s.length/\s.length<=4)/\∀b∈s,48<=b.toNat/\b.toNat<=55:=by
 unfold U6;simp only[zm3,decide_eq_true_eq,List.all_eq_true]
theorem zeQ{s:ze}(h:U6 s=true):∃n,Qi 0 s=some n:=by
 obtain⟨⟨h1,h2⟩,h3⟩:=(Ni s).1 h;refine LP s 0 h3 ?_;have:8^s.length<=8^4:=Nat.pow_le_pow_right zb h2;omega
theorem zaT{s:ze}{n:Nat}(hn:Qi 0 s=some n):(n:Int)=Ip s:=(yI s 0 n hn).2
theorem zbh(s:ByteArray)(k:Int)(hk:k=1∨k=2)(hs:s.size<=1000000)(w:World)(hE:Env w):
 Calls prog 249 #[.string ⟨#[80,97,114,115,101,85,105,110,116]⟩,.string s,.int .i64 8,.int .i64 12,.iface CF (.int .i64 k)] w fun e w'=>∃T x,e=.returned (.iface T x)/\Below w.heap.size w w':=by
 rcases hk with rfl|rfl
 · obtain⟨tp,p,hv⟩:=hE.rng;exact(strconv_toError_range ⟨#[80,97,114,115,101,85,105,110,116]⟩ s 8 12 (.iface tp p) w zb (by have h0:=World.var?_cell RJ hv 0;simpa using h0) (Or.inr ⟨tp,p,rfl⟩)).mono fun e w' ⟨N,he,_,_,hb⟩=>⟨_,_,he,hb⟩
 · obtain⟨tp,p,hv⟩:=hE.syn;exact(strconv_toError_syntax ⟨#[80,97,114,115,101,85,105,110,116]⟩ s 8 12 (.iface tp p) w zb (by have h0:=World.var?_cell RL hv 0;simpa using h0) (Or.inr ⟨tp,p,rfl⟩)).mono fun e w' ⟨N,he,_,_,hb⟩=>⟨_,_,he,hb⟩
theorem zkV(s:ByteArray)(hs:s.size<=1000000)(w:World)(hE:Env w):
 Calls prog 220 #[.string s,.int .i64 8,.int .i64 12] w fun e w'=>(match(if s.size=0 then none else Qi 0 (L s))with
  |some n=>e=.returned (.tuple #[.int .u64 n,.nilIface])
  |none=>∃(u:Int) (T:TypeId) (x:Value),e=.returned (.tuple #[.int .u64 u,.iface T x]))/\Below w.heap.size w w':=by
 have HI:=za (zkx s zb w);have HT:=za (fun(k:Int) (hk:k=1∨k=2) (W:World) (hW:Below w.heap.size w W)=>zbh s k hk hs W (hE.go hW));unfold LC at HI;cases ho:(if s.size=0 then none else Qi 0 (L s))with
 | some n=>
   rw[ho]at HI;have HI2:=za HI.out;clear HI ho HT;go_enter func220,ntmps220;go_wp2_with (go_at_call 248;refine HI2.out.mono ?_;rintro e w2 ⟨rfl,hb2⟩)
   go_ret2;exact⟨rfl,hb2⟩
 | none=>
   rw[ho]at HI;have HI2:=za HI.out;clear HI ho;go_enter func220,ntmps220;go_wp2_with (first|(go_at_call 248;refine HI2.out.mono ?_;rintro e w2 ⟨⟨u,k,rfl,hk⟩,hb2⟩;have HB2:=za hb2;have HK:=za hk;clear hb2 hk)|(go_at_call 249;refine(HT.out _ HK.out _ HB2.out).mono ?_;rintro e w3 ⟨T,x,rfl,hb3⟩))
   go_ret2;exact⟨⟨_,_,_,rfl⟩,bt HB2.out hb3⟩
theorem zjX(B g:Nat)(y:Dm)(s:ByteArray)(w:World)(h:qx B w g y)(hE:Env w)(hs:s.size<=1000000):
 Calls prog 170 #[.pointer (some ⟨g,0,none⟩),.string s] w (qG B g y w (if U6 (L s)then{y.d with mode:=Ip (L s)}else y.d)):=by
 have HH:=za h;have HP0:=zkV s hs w hE;have HF:Hid (∀W,Below w.heap.size w W->W.cell? ⟨g,9,none⟩=some (.int .i64 y.mode)/\W.frozen? ⟨g,9,none⟩=false):=za fun W hW=>by
  have hb:=(HH.out.below hW).box;exact⟨zd hb rfl,qe hb 9⟩
 have HSame:Hid (∀W,Below w.heap.size w W->qG B g y w y.d (.returned (.tuple #[])) W):=za fun W hW=>(zT.same HH.out hW).p rfl;have HSome:Hid (∀n:Int,∀W,Below w.heap.size w W->qG B g y w {y.d with mode:=n} (.returned (.tuple #[])) (W.setCell ⟨g,9,none⟩ (.int .i64 n))):=za fun n W hW=>((zT.same HH.out hW).trans (zT.scalar (HH.out.below hW) 9 (.int .i64 n) {y with mode:=n} rfl rfl ⟨(HH.out.below hW).rows.pr,(HH.out.below hW).rows.tg,(HH.out.below hW).rows.lk,(HH.out.below hW).rows.rn,(HH.out.below hW).rows.ld,(HH.out.below hW).rows.cl,(HH.out.below hW).rows.ne⟩)).p rfl;clear h hE;by_cases h4:s.size<=4
 · have h4i:(s.size:Int)<=4:=by omega
   cases ho:(if s.size=0 then none else Qi 0 (L s))with
   | none=>
     rw[ho]at HP0;have HP:=za HP0;have hno:¬U6 (L s)=true:=fun hb=>by
      obtain⟨n,hn⟩:=zeQ hb;have h1:=((Ni _).1 hb).1.1;rw[zF]at h1;rw[if_neg zb,hn]at ho;cases ho
     rw[if_neg hno];clear HP0 ho hno;exact Hl
   | some n=>
     rw[ho]at HP0;have HP:=za HP0;have h0:¬s.size=0:=fun e=>by rw[if_pos e]at ho;cases ho
     rw[if_neg h0]at ho;have hv:=yI _ _ _ ho;have hb:U6 (L s)=true:=(Ni _).2 ⟨⟨Kl,by rw[zF];exact h4⟩,hv.1⟩;have hn:(n:Int)<=4095:=by have:=D1 (L s) 0 n zb ho;omega
     rw[if_pos hb,<-zaT ho];clear HP0 ho hv hb h0;have HS:=za (HSome.out (n:Int));go_enter func170,ntmps170;go_wp2_with (go_at_call 220;refine HP.out.mono ?_;rintro e w1 ⟨rfl,hb1⟩;have HB1:=za hb1;obtain⟨q9,f9⟩:=HF.out w1 hb1;clear hb1)
     refine bodyPost_ret (v:=.tuple #[]) (results_none rfl _ _ _) rfl ?_;exact HS.out _ HB1.out
 · have h4i:¬(s.size:Int)<=4:=by omega
   have hno:¬U6 (L s)=true:=fun hb=>by
    have h1:=((Ni _).1 hb).1.2;rw[zF]at h1;exact h4 h1
   rw[if_neg hno];clear hno;cases ho:(if s.size=0 then none else Qi 0 (L s))with
   | none=>
     rw[ho]at HP0;have HP:=za HP0;clear HP0 ho;exact Hl
   | some n=>
     rw[ho]at HP0;have HP:=za HP0;clear HP0 ho;go_enter func170,ntmps170;go_wp2_with (go_at_call 220;refine HP.out.mono ?_;rintro e w1 ⟨rfl,hb1⟩)
     exact PO
end
end Go.Proofs.YtecbmndgpepkcaaGreatDoor
