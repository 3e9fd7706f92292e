/-
  Drafts whose lists are short and ascend: every assignment keeps them so; no program in sight.
  Records, inputs and evaluations as they lie in memory. (Printed by gen_evm.py.)
  Contract of the editor's assign. (Printed by gen_edas.py.)
  Contract of helper's Call.
  The door of helper's Call.
  helper's Call at its early ends.
  Contract of evaluate's kind, and what a type switch makes of it.
  Contracts of the program's Upward and Draft of a match. (Printed by gen_mtb.py.)
  Contract of evaluate's next.
  What stays true through an evaluation; its ticks; no program in sight.
  Rules read one after the other: places that ascend, jumps, and a rule that no device matches; no program in sight.
-/
import Derived.Test.YtobcmlmbblgcdaaGreatDoorG23
import Derived.Test.YtobcmlmbblgcdaaGreatDoorG19
import Derived.Test.YtobcmlmbblgcdaaGreatDoorG22
import Derived.Test.YtobcmlmbblgcdaaGreatDoorG24
import Derived.Test.YtobcmlmbblgcdaaGreatDoorG15
import Derived.Test.YtobcmlmbblgcdaaGreatDoorG01
import Derived.Shelf.SlicesQ.IndexFunc
import Derived.Defers
import Derived.Test.YtobcmlmbblgcdaaGreatDoorG17
import Derived.Test.YtobcmlmbblgcdaaGreatDoorG13
namespace Go.Proofs.YtobcmlmbblgcdaaGreatDoor
set_option maxRecDepth 100000
section
structure GdD (d:Dr) (k:Nat):Prop where
 pa:AscA d.props
 pl:d.props.length≤64
 pv:∀ x∈d.props,x.val.size≤1000000
 ta:d.tags.Pairwise (· < ·)
 tl:d.tags.length≤16
 la:d.links.Pairwise (· < ·)
 ll:d.links.length≤16
 rl:d.run.length≤16
 da:d.load.Pairwise (· < ·)
 dl:d.load.length≤16
 cl:d.closed.length≤k
 nm:d.nam.size≤1000000
 rs:d.res.size≤1000000
 ca:0≤d.calls∧d.calls≤k
 tk:0≤d.ticks∧d.ticks≤1000*k
 tv:∀ s∈d.tags,s.length≤1000000
theorem GdD.mono {d:Dr} {k k':Nat} (h:GdD d k) (hk:k≤k'):GdD d k' :=
 ⟨h.pa,h.pl,h.pv,h.ta,h.tl,h.la,h.ll,h.rl,h.da,h.dl,Nat.le_trans h.cl hk,h.nm,h.rs,⟨h.ca.1,by have:=h.ca.2;omega⟩,⟨h.tk.1,by have:=h.tk.2;omega⟩,h.tv⟩
theorem GdD.props {d:Dr} {k:Nat} (h:GdD d k) {l:List At} (h1:AscA l) (h2:l.length≤64) (h3:∀ x∈l,x.val.size≤1000000):GdD { d with props:=l } k:={ h with pa:=h1,pl:=h2,pv:=h3 }
theorem GdD.tags {d:Dr} {k:Nat} (h:GdD d k) {l:List Str} (h1:l.Pairwise (· < ·)) (h2:l.length≤16) (h3:∀ s∈l,s.length≤1000000):GdD { d with tags:=l } k:={ h with ta:=h1,tl:=h2,tv:=h3 }
theorem GdD.links {d:Dr} {k:Nat} (h:GdD d k) {l:List Str} (h1:l.Pairwise (· < ·)) (h2:l.length≤16):GdD { d with links:=l } k:={ h with la:=h1,ll:=h2 }
theorem GdD.env {d:Dr} {k:Nat} (h:GdD d k) {n v:ByteArray} (hv:v.size≤1000000):GdD (envS d n v) k:=by
 unfold envS
 split
 · exact h
 · rename_i hb
   refine h.props (ascA_set h.pa _) ?_ (fun x hx=>?_)
   · cases hf:findF d.props (L n) with
     | some y=>exact Nat.le_trans (len_setP_has h.pa (x:=⟨n,v⟩) hf) h.pl
     | none =>
       have h1:=len_setP d.props ⟨n,v⟩
       have h2:¬ 64≤d.props.length:=fun e=>hb (by unfold envB;rw [hf,decide_eq_true e];simp)
       omega
   · rcases mem_setP hx with h1 | ⟨rfl,_⟩
     · exact h.pv x h1
     · exact hv
theorem ext_size (s:ByteArray):(s.extract 0 256).size≤256:=by rw [←len_L,L_extract];simp;omega
theorem GdD.more {d:Dr} {k:Nat} (h:GdD d k) {n v:ByteArray} (hv:v.size≤1000000):GdD (moreS d n v) k:=by
 unfold moreS
 split
 · exact h
 · split
   · exact h.env (Nat.le_trans (ext_size _) (by decide))
   · exact h.env hv
theorem GdD.tag {d:Dr} {k:Nat} (h:GdD d k) (op:Int) {v:ByteArray} (hv:v.size≤1000000):GdD (tagS d op v) k:=by
 have hl:(L v).length≤1000000:=by rw [len_L];exact hv
 unfold tagS
 split
 · split
   · exact h.tags (by simp) (by simp) (fun s hs=>by rw [List.mem_singleton.1 hs];exact hl)
   split
   · refine h.tags (asc_putM h.ta _ _) (len_putM h.tl) (fun s hs=>?_)
     rcases mem_putM hs with h1 | rfl
     · exact h.tv s h1
     · exact hl
   split
   · exact h.tags (asc_dropL h.ta _) (Nat.le_trans (len_dropL _ _) h.tl) (fun s hs=>h.tv s (by unfold dropL at hs;exact (List.mem_filter.1 hs).1))
   · exact h
 · exact h
theorem linkW_good (op:Int) {l:List Str} (w:ByteArray) (h:l.Pairwise (· < ·)∧l.length≤16):(linkW op l w).Pairwise (· < ·)∧(linkW op l w).length≤16:=by
 unfold linkW
 split
 · split
   · exact ⟨asc_dropL h.1 _,Nat.le_trans (len_dropL _ _) h.2⟩
   · exact ⟨asc_putM h.1 _ _,len_putM h.2⟩
 · exact h
theorem links_good (op:Int):∀ (ws:List ByteArray) {l:List Str},(l.Pairwise (· < ·)∧l.length≤16)→(ws.foldl (linkW op) l).Pairwise (· < ·)∧(ws.foldl (linkW op) l).length≤16
 | [],_,h=>h
 | w :: ws,_,h=>links_good op ws (linkW_good op w h)
theorem GdD.link {d:Dr} {k:Nat} (h:GdD d k) (op:Int) (v:ByteArray):GdD (linkS d op v) k:=by
 unfold linkS
 have h1:(if op=3∨op=6 then [] else d.links).Pairwise (· < ·)∧(if op=3∨op=6 then [] else d.links).length≤16:=by
  split
  · exact ⟨List.Pairwise.nil,Nat.zero_le _⟩
  · exact ⟨h.la,h.ll⟩
 have h2:=links_good op (wordL v) h1
 exact h.links h2.1 h2.2
theorem GdD.run {d:Dr} {k:Nat} (h:GdD d k) (op:Int) (v:ByteArray):GdD (runS d op v) k:=by
 have h1:(if op=4 then d.run else []).length≤16:=by
  split
  · exact h.rl
  · exact Nat.zero_le _
 have h2:(if fullB v && decide ((if op=4 then d.run else []).length<16) then (if op=4 then d.run else [])++[L v] else (if op=4 then d.run else [])).length≤16:=by
  generalize (if op=4 then d.run else [])=l at *
  by_cases hl:l.length<16
  · split
    · rw [List.length_append,List.length_singleton];omega
    · exact h1
  · rw [decide_eq_false hl,Bool.and_false,if_neg (by decide)];exact h1
 exact { h with rl:=h2 }
theorem asg_cases {P:Dr→Prop} (d:Dr) (t:Tm) (v:ByteArray) (h1:P (moreS d t.name v)) (h2:P (envS d t.name v)) (h3:P (tagS d t.op v)) (h4:ifaceB (L v)=true→P { d with nam:=v }) (h5:P (linkS d t.op v)) (h6:validS (L v)=true→P { d with own:=v }) (h7:validS (L v)=true→P { d with grp:=v })
 (h8:octB (L v)=true→P { d with mode:=octV (L v) }) (h9:P (runS d t.op v)) (h10:fullB v=true→P { d with load:=putM d.load (L v) 16 }) (h11:∀ n,prioV (L v)=some n→P { d with prio:=n }) (h0:P d):P (asgS d t v):=by
 unfold asgS
 by_cases k6:t.key=6
 · rw [if_pos k6]
   by_cases o4:t.op=4
   · rw [if_pos o4];exact h1
   · rw [if_neg o4];exact h2
 rw [if_neg k6]
 by_cases k7:t.key=7
 · rw [if_pos k7];exact h3
 rw [if_neg k7]
 by_cases k15:t.key=15
 · rw [if_pos k15]
   by_cases b:ifaceB (L v)=true
   · rw [if_pos b];exact h4 b
   · rw [if_neg b];exact h0
 rw [if_neg k15]
 by_cases k16:t.key=16
 · rw [if_pos k16];exact h5
 rw [if_neg k16]
 by_cases k17:t.key=17
 · rw [if_pos k17]
   by_cases b:validS (L v)=true
   · rw [if_pos b];exact h6 b
   · rw [if_neg b];exact h0
 rw [if_neg k17]
 by_cases k18:t.key=18
 · rw [if_pos k18]
   by_cases b:validS (L v)=true
   · rw [if_pos b];exact h7 b
   · rw [if_neg b];exact h0
 rw [if_neg k18]
 by_cases k19:t.key=19
 · rw [if_pos k19]
   by_cases b:octB (L v)=true
   · rw [if_pos b];exact h8 b
   · rw [if_neg b];exact h0
 rw [if_neg k19]
 by_cases k20:t.key=20
 · rw [if_pos k20];exact h9
 rw [if_neg k20]
 by_cases k21:t.key=21
 · rw [if_pos k21]
   by_cases b:fullB v=true
   · rw [if_pos b];exact h10 b
   · rw [if_neg b];exact h0
 rw [if_neg k21]
 by_cases k22:t.key=22
 · rw [if_pos k22]
   cases hp:prioV (L v) with
   | none=>exact h0
   | some n=>exact h11 n hp
 rw [if_neg k22]
 exact h0
theorem GdD.asg {d:Dr} {k:Nat} (h:GdD d k) (t:Tm) {v:ByteArray} (hv:v.size≤1000000):GdD (asgS d t v) k :=
 asg_cases (P:=fun d=>GdD d k) d t v (h.more hv) (h.env hv) (h.tag _ hv) (fun _=>{ h with nm:=hv }) (h.link _ _) (fun _=>{ h with }) (fun _=>{ h with }) (fun _=>{ h with }) (h.run _ _) (fun _=>{ h with da:=asc_putM h.da _ _,dl:=len_putM h.dl }) (fun _ _=>{ h with }) h
theorem GdD.apply {d:Dr} {k:Nat} (h:GdD d k) (t:Tm) {v:ByteArray} (hv:v.size≤1000000):GdD (applyS d t v) (k+1):=by
 unfold applyS
 split
 · exact h.mono (Nat.le_succ _)
 split
 · have h1:=h.asg t hv
   have h2:=h1.mono (Nat.le_succ k)
   refine { h2 with cl:=?_ }
   have:=h1.cl
   rw [List.length_append,List.length_singleton];omega
 · exact (h.asg t hv).mono (Nat.le_succ _)
theorem GdD.import_ {k:Nat}:∀ (l:List At) {d:Dr},GdD d k→(∀ x∈l,x.val.size≤1000000)→GdD (importS d l) k
 | [],_,h,_=>h
 | x :: l,d,h,hl=>by
   unfold importS
   rw [List.foldl_cons]
   refine GdD.import_ l ?_ (fun y hy=>hl y (List.mem_cons_of_mem _ hy))
   split
   · exact h.env (hl x (List.mem_cons_self ..))
   · exact h
theorem expE_size (c:Cst) (x:Ev) (s:ByteArray):(expE c x s).size≤256:=by
 unfold expE expandS
 split
 · exact ext_size _
 · exact Nat.zero_le _
theorem GdD.tick {x:Ev} {k:Nat} (h:GdD x.dr k) {t:Int} (h0:0≤t) (h1:t≤1000):GdD (tickE x t).dr (k+1):=by
 have h2:=h.mono (Nat.le_succ k)
 refine { h2 with ca:=?_,tk:=?_ }
 · have:=h.ca
   refine ⟨?_,?_⟩
   · show 0≤x.dr.calls+1;omega
   · show x.dr.calls+1≤((k+1:Nat):Int);omega
 · have:=h.tk
   refine ⟨?_,?_⟩
   · show 0≤x.dr.ticks+t;omega
   · show x.dr.ticks+t≤1000*((k+1:Nat):Int);omega
def HpOk (l:List Hp) (lim:Int):Prop:=1≤lim∧lim≤1000∧∀ x∈l,0≤x.ticks∧x.out.size≤256
theorem callS_ok {l:List Hp} {lim:Int} (h:HpOk l lim) (calls:Int) (cmd:ByteArray):0≤(callS l lim calls cmd).2.1∧(callS l lim calls cmd).2.1≤lim∧(callS l lim calls cmd).1.size≤256∧(16≤calls→(callS l lim calls cmd).2.1=0):=by
 have h1:=h.1
 unfold callS
 split
 · exact ⟨Int.le_refl _,by show (0:Int)≤lim;omega,Nat.zero_le _,fun _=>rfl⟩
 · rename_i hc
   split
   · exact ⟨Int.le_refl _,by show (0:Int)≤lim;omega,Nat.zero_le _,fun _=>rfl⟩
   · rename_i x hx
     have hm:=h.2.2 x (List.mem_of_find?_eq_some hx)
     split
     · exact ⟨by show 0≤lim;omega,Int.le_refl _,Nat.zero_le _,fun e=>absurd e hc⟩
     · rename_i ht
       split
       · exact ⟨hm.1,by show x.ticks≤lim;omega,Nat.zero_le _,fun e=>absurd e hc⟩
       · exact ⟨hm.1,by show x.ticks≤lim;omega,hm.2,fun e=>absurd e hc⟩
structure InOk (i:Inp):Prop where
 hp:HpOk i.hps i.lim
 par:∀ x∈i.par,x.val.size≤1000000
 bui:∀ n,∀ x∈runB n i.tree i.ix,x.val.size≤1000000
theorem splitK_memE:∀ (m:Nat) (d:UInt8) (s:Str),∀ x∈Lib.splitK [d] 0 m s,x.length≤s.length
 | 0,d,s,x,hx=>by
   rw [Lib.splitK,List.mem_singleton] at hx
   rw [hx];exact Nat.le_refl _
 | m + 1,d,s,x,hx=>by
   rw [Lib.splitK] at hx
   split at hx
   · rw [List.mem_singleton] at hx
     rw [hx];exact Nat.le_refl _
   · rcases List.mem_cons.1 hx with rfl | hx
     · rw [List.length_take];omega
     · have:=splitK_memE m d _ x hx
       rw [List.length_drop] at this
       omega
theorem partsC_memE (s:ByteArray) (c:UInt8):∀ x∈partsC c s,x.size≤s.size:=by
 intro x hx
 have h:=Lib.splitB_data ⟨#[c]⟩ 0 (Lib.countB s ⟨#[c]⟩) s
 have h3:(partsC c s).map L=Lib.splitK [c] 0 (Lib.countB s ⟨#[c]⟩) (L s):=h
 have h1:=splitK_memE (Lib.countB s ⟨#[c]⟩) c (L s) (L x) (by rw [←h3];exact List.mem_map.2 ⟨x,hx,rfl⟩)
 rwa [len_L,len_L] at h1
theorem cut_lenE (s t:Str):(Lib.cut s t).1.length≤s.length∧(Lib.cut s t).2.1.length≤s.length:=by
 unfold Lib.cut
 split
 · exact ⟨by show (List.take _ _).length≤_;rw [List.length_take];omega,by show (List.drop _ _).length≤_;rw [List.length_drop];omega⟩
 · exact ⟨Nat.le_refl _,Nat.zero_le _⟩
theorem items_size {o:ByteArray}:∀ x∈itemsS o,x.name.size≤o.size∧x.val.size≤o.size:=by
 intro x hx
 obtain ⟨p,hp,he⟩:=List.mem_filterMap.1 hx
 have h1:=partsC_memE o 59 p hp
 have h2:=cut_lenE (L p) [61]
 rw [len_L] at h2
 unfold itemS at he
 split at he
 · injection he with he
   subst he
   exact ⟨by show (bs _).size≤_;rw [size_bs];omega,by show (bs _).size≤_;rw [size_bs];omega⟩
 · cases he
theorem items_val {o:ByteArray} (ho:o.size≤256):∀ x∈itemsS o,x.val.size≤1000000:=fun x hx=>by have:=(items_size x hx).2;omega
theorem holds_good {c:Cst} (hi:InOk c.i) (l:List Tm) {x:Ev} {k:Nat} (h:GdD x.dr k) (t:Tm):GdD (holdsE c l x t).1.dr (k+1):=by
 have hm:=h.mono (Nat.le_succ k)
 have hc:=callS_ok hi.hp x.dr.calls (expE c x t.value)
 have h1000:=hi.hp.2.1
 have ht:GdD (tickE x (callE c x t.value).2.1).dr (k+1):=h.tick hc.1 (by have:=hc.2.1;unfold callE;omega)
 unfold holdsE
 split
 · exact hm
 split
 · split
   · exact hm
   · split <;> exact hm
 split
 · exact { ht with rs:=Nat.le_trans hc.2.2.1 (by decide) }
 split
 · unfold findsE
   split
   · exact ht.import_ _ (items_val hc.2.2.1)
   split
   · split
     · exact hm
     · exact hm.import_ _ (fun x hx=>hi.par x (List.mem_filter.1 hx).1)
   split
   · exact hm.import_ _ (hi.bui _)
   · exact hm
 · exact hm
theorem match_good {c:Cst} (hi:InOk c.i) (l:List Tm):∀ (r:List Tm) {x:Ev} {k:Nat},GdD x.dr k→GdD (matchE c l r x).1.dr (k+r.length)
 | [],_,_,h=>h
 | t :: r,x,k,h=>by
   have h1:=holds_good hi l h t
   have e:k+(t :: r).length=k+1+r.length:=by rw [List.length_cons];omega
   rw [e]
   unfold matchE
   split
   · split
     · exact match_good hi l r h1
     · exact h1.mono (by omega)
   · exact match_good hi l r (h.mono (Nat.le_succ k))
theorem asg_good {c:Cst} {x:Ev} {k:Nat} (h:GdD x.dr k) (t:Tm) (ht:t.value.size≤1000000):GdD (asgE c x t).dr (k+1):=by
 unfold asgE
 refine h.apply t ?_
 split
 · exact ht
 · exact Nat.le_trans (expE_size _ _ _) (by decide)
theorem asgs_good {c:Cst}:∀ (r:List Tm) {x:Ev} {k:Nat},GdD x.dr k→(∀ t∈r,t.value.size≤1000000)→GdD (r.foldl (asgE c) x).dr (k+r.length)
 | [],_,_,h,_=>h
 | t :: r,x,k,h,ht=>by
   have h1:=asgs_good (c:=c) r (asg_good (c:=c) h t (ht t (List.mem_cons_self ..))) (fun y hy=>ht y (List.mem_cons_of_mem _ hy))
   rw [List.foldl_cons,List.length_cons]
   exact h1.mono (by omega)
theorem read_good {c:Cst} (hi:InOk c.i) {l:List Tm} (hl:∀ t∈l,t.value.size≤1000000) {x:Ev} {k:Nat} (h:GdD x.dr k):GdD (readE c x l).1.dr (k+2*l.length):=by
 have h1:GdD (matchE c l l { x with ab:=c.dev,re:=false }).1.dr (k+l.length):=match_good hi l l (x:={ x with ab:=c.dev,re:=false }) h
 unfold readE
 dsimp only
 split
 · refine (asgs_good _ h1 (fun t ht=>hl t (List.mem_filter.1 ht).1)).mono ?_
   have:=List.length_filter_le (fun t:Tm => !matchB t.op) l
   omega
 · exact h1.mono (by omega)
end
section
open Go.RowKit
abbrev recT:TypeId:=34
abbrev inpT:TypeId:=37
abbrev evT:TypeId:=109
structure Rm where
 path:ByteArray
 ix:Int
 props:Ls At
 tags:Ls Str
 links:Ls Str
 run:Ls Str
 load:Ls Str
 nam:ByteArray
 prio:Int
 own:ByteArray
 grp:ByteArray
 mode:Int
def Rm.d (r:Rm):Rc:=⟨r.path,r.ix,r.props.l,r.tags.l,r.links.l,r.run.l,r.load.l,r.nam,r.prio,r.own,r.grp,r.mode⟩
def rcA (r:Rm):Array Value:=#[.string r.path,.int .i64 r.ix,.slice r.props.A r.props.l.length r.props.c,.slice r.tags.A r.tags.l.length r.tags.c,.slice r.links.A r.links.l.length r.links.c,.slice r.run.A r.run.l.length r.run.c,.slice r.load.A r.load.l.length r.load.c,.string r.nam,.int .i64 r.prio,.string r.own,.string r.grp,.int .i64 r.mode]
structure RmN (w:World) (r:Rm):Prop where
 pr:LsN 2 encAt w r.props
 tg:LsN 1 encS w r.tags
 lk:LsN 1 encS w r.links
 rn:LsN 1 encS w r.run
 ld:LsN 1 encS w r.load
theorem RmN.keep {w w':World} {r:Rm} (h:RmN w r) (hb:Below w.heap.size w w'):RmN w' r:=⟨h.pr.keep hb,h.tg.keep hb,h.lk.keep hb,h.rn.keep hb,h.ld.keep hb⟩
theorem rcA_one (r:Rm):(rcA r).all (·.oneCell')=true:=by simp [rcA,Value.oneCell']
theorem rcSize:(Tryz.prog.info? 34).map (·.size)=some 12:=by kernel_rfl
theorem inSize:(Tryz.prog.info? 37).map (·.size)=some 17:=by kernel_rfl
def encHp (x:Hp):List Value:=[.string x.cmd,.string x.out,.bool x.fails,.int .i64 x.ticks]
structure EmC where
 act:ByteArray
 tA:Option Addr
 tc:Nat
 tds:List Dv
 ix:Int
 r:Rm
 hs:Ls Hp
 lim:Int
 dev:Dv
 org:ByteArray
 pnt:ByteArray
def EmC.i (c:EmC):Inp:=⟨c.act,dsD c.tds,c.ix,c.r.props.l,c.hs.l,c.lim⟩
def EmC.c (c:EmC):Cst:=⟨c.i,c.dev.d,c.org,c.pnt⟩
structure Em where
 dr:Dm
 ab:Dv
 re:Bool
def Em.e (x:Em):Ev:=⟨x.dr.d,x.ab.d,x.re⟩
def inA (c:EmC):Array Value:=#[.string c.act,.slice c.tA c.tds.length c.tc,.int .i64 c.ix,.string c.r.path,.int .i64 c.r.ix,.slice c.r.props.A c.r.props.l.length c.r.props.c,.slice c.r.tags.A c.r.tags.l.length c.r.tags.c,.slice c.r.links.A c.r.links.l.length c.r.links.c,.slice c.r.run.A c.r.run.l.length c.r.run.c,.slice c.r.load.A c.r.load.l.length c.r.load.c,.string c.r.nam,.int .i64 c.r.prio,.string c.r.own,.string c.r.grp,.int .i64 c.r.mode,.slice c.hs.A c.hs.l.length c.hs.c,.int .i64 c.lim]
def evA (c:EmC) (x:Em):Array Value:=#[.slice x.dr.props.A x.dr.props.l.length x.dr.props.c,.slice x.dr.tags.A x.dr.tags.l.length x.dr.tags.c,.slice x.dr.links.A x.dr.links.l.length x.dr.links.c,.slice x.dr.run.A x.dr.run.l.length x.dr.run.c,.slice x.dr.load.A x.dr.load.l.length x.dr.load.c,.string x.dr.nam,.int .i64 x.dr.prio,.string x.dr.own,.string x.dr.grp,.int .i64 x.dr.mode,.string x.dr.res,.int .i64 x.dr.calls,.int .i64 x.dr.ticks,.slice x.dr.closed.A x.dr.closed.l.length x.dr.closed.c,.string c.act,.slice c.tA c.tds.length c.tc,.int .i64 c.ix,.string c.r.path,.int .i64 c.r.ix,.slice c.r.props.A c.r.props.l.length c.r.props.c,.slice c.r.tags.A c.r.tags.l.length c.r.tags.c,.slice c.r.links.A c.r.links.l.length c.r.links.c,.slice c.r.run.A c.r.run.l.length c.r.run.c,.slice c.r.load.A c.r.load.l.length c.r.load.c,.string c.r.nam,.int .i64 c.r.prio,.string c.r.own,.string c.r.grp,.int .i64 c.r.mode,.slice c.hs.A c.hs.l.length c.hs.c,.int .i64 c.lim,.int .i64 c.dev.ix,.int .i64 c.dev.pa,.string c.dev.nam,.string c.dev.og,.string c.dev.sb,.string c.dev.dr,.string c.dev.al,.int .i64 c.dev.kd,.int .i64 c.dev.nb,.slice c.dev.ats.A c.dev.ats.l.length c.dev.ats.c,.string c.org,.string c.pnt,.int .i64 x.ab.ix,.int .i64 x.ab.pa,.string x.ab.nam,.string x.ab.og,.string x.ab.sb,.string x.ab.dr,.string x.ab.al,.int .i64 x.ab.kd,.int .i64 x.ab.nb,.slice x.ab.ats.A x.ab.ats.l.length x.ab.ats.c,.bool x.re]
theorem inA_one (c:EmC):(inA c).all (·.oneCell')=true:=by simp [inA,Value.oneCell']
structure InM (w:World) (c:EmC):Prop where
 tr:TrN w c.tA c.tds
 rc:RmN w c.r
 hp:LsN 4 encHp w c.hs
theorem InM.keep {w w':World} {c:EmC} (h:InM w c) (hb:Below w.heap.size w w'):InM w' c:=⟨h.tr.keep hb,h.rc.keep hb,h.hp.keep hb⟩
def EmC.as (c:EmC):List (Option Addr):=[c.tA,c.r.props.A,c.r.tags.A,c.r.links.A,c.r.run.A,c.r.load.A,c.hs.A,c.dev.ats.A]++c.tds.map fun d=>d.ats.A
def Em.as (x:Em):List (Option Addr):=x.dr.as++[x.ab.ats.A]
def OffG (g:Nat) (l:List (Option Addr)):Prop:=∀ a∈l,∀ p,a=some p→p.block≠g
structure EvO (w:World) (g:Nat) (c:EmC) (x:Em):Prop where
 box:w.heap[g]? = some (.cells (evA c x) evT (0,0))
 inp:InM w c
 dev:DvN w c.dev
 dr:DmN w x.dr
 ab:DvN w x.ab
 offc:OffG g c.as
 offx:OffG g x.as
theorem EvO.keep {w w':World} {g:Nat} {c:EmC} {x:Em} (h:EvO w g c x) (hb:Below w.heap.size w w'):EvO w' g c x:=⟨(hb.block _ (blk_lt' h.box)).trans h.box,h.inp.keep hb,h.dev.keep hb,h.dr.keep hb,h.ab.keep hb,h.offc,h.offx⟩
theorem offN {a:Option Addr} {g:Nat} {l:List (Option Addr)} (h:OffG g l) (hm:a∈l):∀ p,a=some p→some p.block≠some g:=fun p e k=>h a hm p e (Option.some.inj k)
theorem TrN.grown {w w':World} {A:Option Addr} {ds:List Dv} {g:Nat} (h:TrN w A ds) (hg:w.grownBy w' (some g)) (hA:∀ p,A=some p→p.block≠g) (hd:∀ d∈ds,∀ p,d.ats.A=some p→p.block≠g):TrN w' A ds :=
 ⟨h.row.grown hg (fun p e k=>hA p e (Option.some.inj k)),fun d hm=>(h.inn d hm).grown hg (fun p e k=>hd d hm p e (Option.some.inj k)),h.len,h.al⟩
theorem EmC.mem {c:EmC} {g:Nat} (h:OffG g c.as):OffG g [c.tA,c.r.props.A,c.r.tags.A,c.r.links.A,c.r.run.A,c.r.load.A,c.hs.A,c.dev.ats.A]∧∀ d∈c.tds,∀ p,d.ats.A=some p→p.block≠g :=
 ⟨fun a ha=>h a (List.mem_append_left _ ha),fun d hd=>h d.ats.A (List.mem_append_right _ (List.mem_map.2 ⟨d,hd,rfl⟩))⟩
theorem InM.grown {w w':World} {c:EmC} {g:Nat} (h:InM w c) (hg:w.grownBy w' (some g)) (ho:OffG g c.as):InM w' c:=by
 obtain ⟨h1,h2⟩:=EmC.mem ho
 exact ⟨h.tr.grown hg (h1 _ (by simp)) h2,⟨h.rc.pr.grown hg (offN h1 (by simp)),h.rc.tg.grown hg (offN h1 (by simp)),h.rc.lk.grown hg (offN h1 (by simp)),h.rc.rn.grown hg (offN h1 (by simp)),h.rc.ld.grown hg (offN h1 (by simp))⟩,h.hp.grown hg (offN h1 (by simp))⟩
theorem DmN.grown {w w':World} {x:Dm} {g:Nat} (h:DmN w x) (hg:w.grownBy w' (some g)) (ho:OffG g x.as):DmN w' x :=
 ⟨h.pr.grown hg (offN ho (by simp [Dm.as])),h.tg.grown hg (offN ho (by simp [Dm.as])),h.lk.grown hg (offN ho (by simp [Dm.as])),h.rn.grown hg (offN ho (by simp [Dm.as])),h.ld.grown hg (offN ho (by simp [Dm.as])),h.cl.grown hg (offN ho (by simp [Dm.as]))⟩
theorem EvO.set {w w5:World} {g:Nat} {c:EmC} {x:Em} (h:EvO w g c x) (hb:Below w.heap.size w w5) (y:Em) (hd:DmN w5 y.dr) (ha:DvN w5 y.ab) (ho:OffG g y.as):EvO (w5.setRow g (evA c y)) g c y∧w.grownBy (w5.setRow g (evA c y)) (some g):=by
 have hg:=grown_setRow w5 g (evA c y)
 have hbx:=(hb.block _ (blk_lt' h.box)).trans h.box
 have h1:=(EmC.mem h.offc).1
 have hyd:OffG g y.dr.as:=fun a hm=>ho a (List.mem_append_left _ hm)
 refine ⟨⟨setRow_heap _ _ _ _ _ _ hbx,(h.inp.keep hb).grown hg h.offc,(h.dev.keep hb).grown hg (offN h1 (by simp)),hd.grown hg hyd,ha.grown hg (offN ho (List.mem_append_right _ (by simp))),h.offc,ho⟩,(grown_below hb _).trans hg⟩
theorem grown_off {w w':World} {g:Nat} (h:w.grownBy w' (some g)) {b:Nat} (hb:b<w.heap.size) (hn:b≠g):w'.heap[b]? = w.heap[b]?:=h.block b hb (fun e=>hn (Option.some.inj e))
theorem grown_low {w w':World} {g B:Nat} (h:w.grownBy w' (some g)) (hB:B≤g) (hs:B≤w.heap.size):Below B w w':=(Below.refl B w).grown h hs (fun j e=>by rw [←Option.some.inj e];exact hB)
structure EmZ (c:EmC) (x:Em) (k:Nat):Prop where
 gd:GdD x.dr.d k
 kk:k≤100000
 ok:InOk c.i
 dv:∀ d∈dsD c.tds,DdI d∧d.sb.size≤1000∧d.dr.size≤1000 ∧ -9223372036854775808≤d.nb∧d.nb≤9223372036854775807∧∀ a∈d.ats,a.val.size≤1000000
 wf:WfT (dsD c.tds)
 ix1 : -9223372036854775808≤c.ix
 ix2:c.ix≤9223372036854775807
 dev:c.dev.d∈dsD c.tds
 ab:x.ab.d∈dsD c.tds
 org:c.org.size≤1000000
 pnt:c.pnt.size≤1000000
 hl:c.hs.l.length≤1000
 hc:∀ y∈c.hs.l,y.cmd.size≤1000000
 act:c.act.size≤1000000
 pl:c.r.props.l.length≤1000
 pz:∀ y∈c.r.props.l,y.name.size≤1000000
end
section
open Go.RowKit
structure EdZ (d:Dr):Prop where
 pl:d.props.length≤1000
 pa:AscA d.props
 pv:∀ x∈d.props,x.val.size≤1000000
 tl:d.tags.length≤1000
 ta:d.tags.Pairwise (· < ·)
 ll:d.links.length≤1000
 la:d.links.Pairwise (· < ·)
 rl:d.run.length≤1000
 dl:d.load.length≤1000
 da:d.load.Pairwise (· < ·)
theorem GdD.edz {d:Dr} {k:Nat} (h:GdD d k):EdZ d:=⟨by have:=h.pl;omega,h.pa,h.pv,by have:=h.tl;omega,h.ta,by have:=h.ll;omega,h.la,by have:=h.rl;omega,by have:=h.dl;omega,h.da⟩
set_option maxHeartbeats 8000000 in
theorem PAsg_any (B g:Nat) (y:Dm) (t:Tm) (v:ByteArray) (w:World) (h:EdO B w g y) (hz:EdZ y.d) (hE:Env w) (hB:nG≤B) (hv:v.size≤1000000) (hK:KeyS t) :
 Calls Tryz.prog 145 #[.pointer (some ⟨g,0,none⟩),tmV t,.string v] w (EdP B g y w (asgS y.d t v)):=by
 obtain ⟨ky,nmm,op,vl⟩:=t
 have HKs:Hid (KeyS ⟨ky,nmm,op,vl⟩):=Lib.hid hK
 clear hK
 obtain ⟨w1,hw1⟩:∃ w1,(w.alloc (.cells #[.int .i64 ky,.string nmm,.int .i64 op,.string vl] 46))=w1:=⟨_,rfl⟩
 have hb1:Below w.heap.size w w1:=by rw [←hw1];exact below_alloc _ _
 have hT:w1.heap[w.heap.size]? = some (.cells #[.int .i64 ky,.string nmm,.int .i64 op,.string vl] 46):=by rw [←hw1];exact heap_alloc_new _ _
 have c0:w1.cell? ⟨w.heap.size,0,none⟩=some (.int .i64 ky):=cellOf hT rfl
 have c1:w1.cell? ⟨w.heap.size,1,none⟩=some (.string nmm):=cellOf hT rfl
 have c2:w1.cell? ⟨w.heap.size,2,none⟩=some (.int .i64 op):=cellOf hT rfl
 have HH:=Lib.hid h
 have HZ:=Lib.hid hz
 have HE:=Lib.hid hE
 have HB1:=Lib.hid hb1
 have HW1:=Lib.hid hw1
 have HV:=Lib.hid hv
 have HL:Hid (∀ {d':Dr} {e:Ending} {W:World},EdP B g y w1 d' e W→EdP B g y w d' e W):=Lib.hid fun h2=>EdP.lift HH.out HB1.out h2
 have HSame:Hid (∀ W,Below w1.heap.size w1 W→EdP B g y w y.d (.returned (.tuple #[])) W):=Lib.hid fun W hW=>EdP.same HH.out (bt HB1.out hW)
 have HF:Hid (∀ W,Below w1.heap.size w1 W→EdO B W g y):=Lib.hid fun W hW=>HH.out.below (bt HB1.out hW)
 have e1:=(hb1.block _ (blk_lt' h.box)).trans h.box
 clear h hz hE hb1 hT hw1 hv
 unfold tmV
 dsimp only
 by_cases hk:ky=6
 · skip
   by_cases h4:op=4
   · subst h4
     have hA:asgS y.d ⟨ky,nmm,4,vl⟩ v=moreS y.d nmm v:=by subst hk;rfl
     rw [hA]
     clear hA
     subst hk
     have HC:=Lib.hid (PMore_any B g y nmm v w1 (HF.out w1 (Below.refl _ _)) HZ.out.pl HZ.out.pa HV.out HZ.out.pv)
     have c0:=c0
     clear e1 HSame HF
     go_enter Tryz.func145,Tryz.ntmps145
     go_upto_region 1 with fail
     rw [HW1.out]
     go_wp2_with (go_at_call 170;refine HC.out.mono ?_;rintro e w2 hP;obtain ⟨rfl,-⟩:=id hP;have HP:=Lib.hid hP;clear hP)
     refine bodyPost_ret (v:=.tuple #[]) (results_none rfl _ _ _) rfl ?_
     exact HL.out HP.out
   · have hA:asgS y.d ⟨ky,nmm,op,vl⟩ v=envS y.d nmm v:=by subst hk;unfold asgS;rw [if_pos rfl,if_neg h4]
     rw [hA]
     clear hA
     subst hk
     have HC:=Lib.hid (PEnv_any B g y nmm v w1 (HF.out w1 (Below.refl _ _)) HZ.out.pl HZ.out.pa (by have:=HV.out;omega))
     clear e1 HSame HF
     go_enter Tryz.func145,Tryz.ntmps145
     go_upto_region 1 with fail
     rw [HW1.out]
     go_wp2_with (go_at_call 164;refine HC.out.mono ?_;rintro e w2 hP;obtain ⟨rfl,-⟩:=id hP;have HP:=Lib.hid hP;clear hP)
     refine bodyPost_ret (v:=.tuple #[]) (results_none rfl _ _ _) rfl ?_
     exact HL.out HP.out
 have n6:¬ ky=6:=hk
 clear hk
 by_cases hk:ky=7
 · skip
   have hA:asgS y.d ⟨ky,nmm,op,vl⟩ v=tagS y.d op v:=by subst hk;rfl
   rw [hA]
   clear hA
   subst hk
   have HC:=Lib.hid (PTag_any B g y op v w1 (HF.out w1 (Below.refl _ _)) HZ.out.tl HZ.out.ta HV.out)
   clear e1 HSame HF
   go_enter Tryz.func145,Tryz.ntmps145
   go_upto_region 1 with fail
   rw [HW1.out]
   go_wp2_with (go_at_call 171;refine HC.out.mono ?_;rintro e w2 hP;obtain ⟨rfl,-⟩:=id hP;have HP:=Lib.hid hP;clear hP)
   refine bodyPost_ret (v:=.tuple #[]) (results_none rfl _ _ _) rfl ?_
   exact HL.out HP.out
 have n7:¬ ky=7:=hk
 clear hk
 by_cases hk:ky=15
 · have h9:=HKs.out
   dsimp only [KeyS] at h9
   omega
 have n15:¬ ky=15:=hk
 clear hk
 by_cases hk:ky=16
 · skip
   have hA:asgS y.d ⟨ky,nmm,op,vl⟩ v=linkS y.d op v:=by subst hk;rfl
   rw [hA]
   clear hA
   subst hk
   have HC:=Lib.hid (PLink_any B g y op v w1 (HF.out w1 (Below.refl _ _)) HZ.out.ll HZ.out.la (HE.out.go HB1.out).toEnv0 hB HV.out)
   clear e1 HSame HF
   go_enter Tryz.func145,Tryz.ntmps145
   go_upto_region 1 with fail
   rw [HW1.out]
   go_wp2_with (go_at_call 173;refine HC.out.mono ?_;rintro e w2 hP;obtain ⟨rfl,-⟩:=id hP;have HP:=Lib.hid hP;clear hP)
   refine bodyPost_ret (v:=.tuple #[]) (results_none rfl _ _ _) rfl ?_
   exact HL.out HP.out
 have n16:¬ ky=16:=hk
 clear hk
 by_cases hk:ky=17
 · have h9:=HKs.out
   dsimp only [KeyS] at h9
   omega
 have n17:¬ ky=17:=hk
 clear hk
 by_cases hk:ky=18
 · have h9:=HKs.out
   dsimp only [KeyS] at h9
   omega
 have n18:¬ ky=18:=hk
 clear hk
 by_cases hk:ky=19
 · have h9:=HKs.out
   dsimp only [KeyS] at h9
   omega
 have n19:¬ ky=19:=hk
 clear hk
 by_cases hk:ky=20
 · have h9:=HKs.out
   dsimp only [KeyS] at h9
   omega
 have n20:¬ ky=20:=hk
 clear hk
 by_cases hk:ky=21
 · have h9:=HKs.out
   dsimp only [KeyS] at h9
   omega
 have n21:¬ ky=21:=hk
 clear hk
 by_cases hk:ky=22
 · have h9:=HKs.out
   dsimp only [KeyS] at h9
   omega
 have n22:¬ ky=22:=hk
 clear hk
 have hA:asgS y.d ⟨ky,nmm,op,vl⟩ v=y.d:=by unfold asgS;rw [if_neg n6,if_neg n7,if_neg n15,if_neg n16,if_neg n17,if_neg n18,if_neg n19,if_neg n20,if_neg n21,if_neg n22]
 rw [hA]
 clear hA e1 HF
 go_enter Tryz.func145,Tryz.ntmps145
 go_upto_region 1 with fail
 rw [HW1.out]
 go_wp2
 refine bodyPost_ret (v:=.tuple #[]) (results_none rfl _ _ _) rfl ?_
 exact HSame.out w1 (Below.refl _ _)
end
section
open Go.RowKit Go.Shelf
instance:Inhabited Hp:=⟨⟨⟨#[]⟩,⟨#[]⟩,false,0⟩⟩
theorem helpC_any (cmd:ByteArray) (B:Nat) (w:World) (hs:cmd.size≤1000000) (hB:B<w.heap.size) (h0:w.cell? ⟨B,0,none⟩=some (.string cmd)) (l:List Hp) (hl:∀ x∈l,x.cmd.size≤1000000) (W:World) (hb:Below w.heap.size w W) (x:Hp) (hx:x∈l) :
 Calls Tryz.prog 158 #[.agg #[.string x.cmd,.string x.out,.bool x.fails,.int .i64 x.ticks],.pointer (some ⟨B,0,none⟩)] W fun e w'=>e=.returned (.bool (globM (L x.cmd) (L cmd)))∧Below w.heap.size w w':=by
 have c0:W.cell? ⟨B,0,none⟩=some (.string cmd):=(hb.cell (p:=⟨B,0,none⟩) hB).trans h0
 have hBW:B<W.heap.size:=Nat.lt_of_lt_of_le hB hb.size
 have hne:B≠W.heap.size:=by omega
 have HM:=Lib.hid (fun W=>PGMatch_any x.cmd cmd W (by have:=hl x hx;omega) (by omega))
 have HB:=Lib.hid (bAl (o:=.cells #[.string x.cmd,.string x.out,.bool x.fails,.int .i64 x.ticks] 99) (Below.refl W.heap.size W))
 have HW:=Lib.hid hb
 clear hb h0 hl
 generalize globM (L x.cmd) (L cmd)=b at *
 go_enter Tryz.func158,Tryz.ntmps158
 go_wp2_with (go_at_call 142;refine (HM.out _).mono ?_;rintro e w2 ⟨rfl,hb2⟩)
 go_ret
 exact ⟨rfl,bt HW.out (bt HB.out hb2)⟩
theorem hp_at {w wr:World} {B:Nat} {A:Option Addr} {l:List Hp} (h:RowAt w B A 4 l.length (cellsOf encHp l)) (hb:Below B w wr) {k:Nat} (hk:k<l.length):∃ ba off,A=some ⟨ba,off,none⟩∧ba<B ∧
 wr.cell? ⟨ba,off+k*4+0,none⟩=some (.string l[k].cmd)∧wr.cell? ⟨ba,off+k*4+1,none⟩=some (.string l[k].out)∧wr.cell? ⟨ba,off+k*4+2,none⟩=some (.bool l[k].fails)∧wr.cell? ⟨ba,off+k*4+3,none⟩=some (.int .i64 l[k].ticks):=by
 obtain ⟨ba,off,e,hB,hc⟩:=h.cell (enc:=encHp) (fun _=>rfl) (by omega:0<l.length)
 refine ⟨ba,off,e,hB,?_⟩
 have hx:l[k]? = some l[k]:=List.getElem?_eq_getElem hk
 have f:∀ i v,(encHp l[k])[i]? = some v→wr.cell? ⟨ba,off+k*4+i,none⟩=some v:=fun i v hv=>by
  have h1:=hc k l[k] hx i v hv
  rw [←Nat.add_assoc] at h1
  exact (hb.cell (p:=⟨ba,off+k*4+i,none⟩) hB).trans h1
 exact ⟨f 0 _ rfl,f 1 _ rfl,f 2 _ rfl,f 3 _ rfl⟩
abbrev Hq:Type:={ x:Hp // x.cmd.size≤1000000 }
instance:Inhabited Hq:=⟨⟨⟨⟨#[]⟩,⟨#[]⟩,false,0⟩,by decide⟩⟩
theorem hq_list:∀ (l:List Hp),(∀ x∈l,x.cmd.size≤1000000)→∃ zs:List Hq,zs.map (fun x=>x.1)=l
 | [],_=>⟨[],rfl⟩
 | x :: l,h=>by
   obtain ⟨zs,hz⟩:=hq_list l (fun y hy=>h y (List.mem_cons_of_mem _ hy))
   exact ⟨⟨x,h x (List.mem_cons_self ..)⟩ :: zs,by rw [List.map_cons,hz]⟩
theorem IndexH_none (fv:Value) (w:World):Calls Tryz.prog 157 #[.slice none 0 0,fv] w fun e w'=>e=.returned (.int .i64 (-1))∧w'=w:=by
 go_enter Tryz.func157,Tryz.ntmps157
 go_wp2
 go_loopg [5,8] 0 (fun _ _ s8 wr=>s8=.int .i64 0∧wr=w)
 case atStart=>exact ⟨rfl,rfl⟩
 case round =>
  obtain ⟨rfl,rfl⟩:=hrel
  go_wp2
  go_ret
  exact ⟨rfl,rfl⟩
theorem IndexH_any (cmd:ByteArray) (B:Nat) (y:Ls Hp) (w:World) (hy:LsN 4 encHp w y) (hl:y.l.length≤1000) (hc:∀ x∈y.l,x.cmd.size≤1000000) (hs:cmd.size≤1000000) (hB:B<w.heap.size) (h0:w.cell? ⟨B,0,none⟩=some (.string cmd)) :
 Calls Tryz.prog 157 #[.slice y.A y.l.length y.c,.func (.func 158) #[] #[.pointer (some ⟨B,0,none⟩)]] w fun e w'=>((∃ (k:Nat) (hk:k<y.l.length),e=.returned (.int .i64 k)∧(y.l.find? fun x=>globM (L x.cmd) (L cmd))=some y.l[k])∨(e=.returned (.int .i64 (-1))∧(y.l.find? fun x=>globM (L x.cmd) (L cmd))=none))∧Below w.heap.size w w':=by
 obtain ⟨A,c,l⟩:=y
 dsimp only at hl hc ⊢
 cases A with
 | none =>
   have h0:l=[]:=by
    rcases Nat.eq_zero_or_pos l.length with e | e
    · exact List.length_eq_zero_iff.1 e
    · obtain ⟨_,_,e2,_⟩:=hy.row.row.at_ e
      cases e2
   subst h0
   have hcz:c=0:=hy.nil rfl
   rw [hcz]
   exact (IndexH_none _ w).mono fun _ _ ⟨h1,h2⟩=>⟨Or.inr ⟨h1,rfl⟩,by rw [h2];exact Below.refl _ _⟩
 | some a =>
   obtain ⟨ea,hlt⟩:=hy.row.pl a rfl
   have hr:=hy.row.row
   dsimp only at hr
   rw [ea] at hr ⊢
   obtain ⟨zs,hzs⟩:=hq_list l hc
   have hzl:zs.length=l.length:=by rw [←hzs,List.length_map]
   have hP:PredBelow Tryz.prog 158 #[.pointer (some ⟨B,0,none⟩)] (fun x:Hq=>.agg (encHp x.1).toArray) (fun x:Hq=>globM (L x.1.cmd) (L cmd)) w:=fun W x hb=>helpC_any cmd B w hs hB h0 [x.1] (fun z hz=>by rw [List.mem_singleton.1 hz];exact x.2) W hb x.1 (List.mem_singleton.2 rfl)
   have h:=AnyQ.slices_IndexFunc (ρ:=laysIxH_ren) (P:=Tryz.prog) laysIxH 4 (by exact Tryz.isAgg99) (by exact Tryz.sizeOf99) (fun x:Hq=>encHp x.1) (fun _=>rfl) (fun x:Hq=>globM (L x.1.cmd) (L cmd)) 158 #[.pointer (some ⟨B,0,none⟩)] (fun _ _=>rfl) a.block a.off l.length c zs w hP (by omega) (by omega) hlt (fun j hj i v hv=>by
    obtain ⟨b,off,e,hb,hcc⟩:=hr.cell (enc:=encHp) (fun _=>rfl) (by omega:0<l.length)
    injection e with e
    injection e with e3 e4
    rw [e3,e4,Nat.add_assoc]
    refine hcc j zs[j]!.1 ?_ i v hv
    rw [getElem!_pos zs j hj,←hzs,List.getElem?_map,List.getElem?_eq_getElem hj]
    rfl)
   have ht:zs.take l.length=zs:=by rw [←hzl,List.take_length]
   rw [ht] at h
   refine h.mono ?_
   rintro e w' ⟨h1,h2⟩
   refine ⟨?_,h2⟩
   have hff:(l.find? fun x=>globM (L x.cmd) (L cmd))=(zs.find? fun x=>globM (L x.1.cmd) (L cmd)).map (·.1):=by
    rw [←hzs,List.find?_map]
    rfl
   rcases idx_cases (fun x:Hq=>globM (L x.1.cmd) (L cmd)) zs with ⟨k,x,hx,hi,hf⟩ | ⟨hi,hf⟩
   · left
     have hk:=(List.getElem?_eq_some_iff.1 hx).1
     refine ⟨k,by omega,by rw [h1,hi],?_⟩
     rw [hff,hf]
     show some x.1=_
     have e1:l[k]? = some x.1:=by rw [←hzs,List.getElem?_map,hx];rfl
     rw [List.getElem?_eq_getElem (by omega)] at e1
     exact e1.symm
   · right
     exact ⟨by rw [h1,hi],by rw [hff,hf];rfl⟩
theorem callD0 (E O:Nat) (u:FrameMode) (w:World) (h0:w.cell? ⟨E,0,none⟩=some (.int .i64 0)) :
 CallsD Tryz.prog 156 #[.pointer (some ⟨E,0,none⟩),.pointer (some ⟨O,0,none⟩)] u w fun e u' w'=>u'=u∧(e=.returned (.tuple #[])∧w'=w):=by
 go_enter_d Tryz.func156,Tryz.ntmps156
 go_wp2
 go_end0
 exact ⟨rfl,rfl⟩
theorem callD1 (E O:Nat) (ev:Int) (s:ByteArray) (u:FrameMode) (w:World) (h0:w.cell? ⟨E,0,none⟩=some (.int .i64 ev)) (hv:¬ ev=0) (h1:w.cell? ⟨O,0,none⟩=some (.string s)) (hf:w.frozen? ⟨O,0,none⟩=false) :
 CallsD Tryz.prog 156 #[.pointer (some ⟨E,0,none⟩),.pointer (some ⟨O,0,none⟩)] u w fun e u' w'=>u'=u∧(e=.returned (.tuple #[])∧w'=w.setCell ⟨O,0,none⟩ (.string ⟨#[]⟩)):=by
 have hb:(ev == 0)=false:=by simpa using hv
 go_enter_d Tryz.func156,Tryz.ntmps156
 go_wp2
 go_end0
 exact ⟨rfl,rfl⟩
end
section
open Go.RowKit Go.Shelf
theorem endW {W:World} {O E:Nat} {s:ByteArray} {ev:Int} (hne:O≠E) (p1:W.cell? ⟨O,0,none⟩=some (.string s)) (p2:W.cell? ⟨E,0,none⟩=some (.int .i64 ev)) (u1:W.frozen? ⟨O,0,none⟩=false) :
 ((W.setCell ⟨O,0,none⟩ (.string s)).setCell ⟨E,0,none⟩ (.int .i64 ev)).drew.cell? ⟨O,0,none⟩=some (.string s)∧((W.setCell ⟨O,0,none⟩ (.string s)).setCell ⟨E,0,none⟩ (.int .i64 ev)).drew.frozen? ⟨O,0,none⟩=false∧((W.setCell ⟨O,0,none⟩ (.string s)).setCell ⟨E,0,none⟩ (.int .i64 ev)).drew.cell? ⟨E,0,none⟩=some (.int .i64 ev) :=
 ⟨(World.cell?_setCell_other _ _ _ _ (fun e=>by injection e with e;exact hne e.symm)).trans (World.cell?_setCell_same _ _ _ p1),((World.frozen?_setCell ..).trans (World.frozen?_setCell ..)).trans u1,World.cell?_setCell_same _ _ _ ((World.cell?_setCell_other _ _ _ _ (fun e=>by injection e with e;exact hne e)).trans p2)⟩
set_option maxHeartbeats 800000 in
theorem callEnd (R:ByteArray × Int × Int) (w:World):∀ (tmps:Array Value) (W:World) (ev tk:Int) (s:ByteArray),tmps.getD 8 undef=.pointer (some ⟨w.heap.size+1,0,none⟩)→tmps.getD 9 undef=.int .i64 tk→tmps.getD 10 undef=.pointer (some ⟨w.heap.size+2,0,none⟩)→W.cell? ⟨w.heap.size+1,0,none⟩=some (.string s)→W.frozen? ⟨w.heap.size+1,0,none⟩=false→W.cell? ⟨w.heap.size+2,0,none⟩=some (.int .i64 ev)→Below w.heap.size w W→R=(if ev=0 then s else ⟨#[]⟩,tk,ev) →
 bodyPostD Tryz.prog Tryz.f135 (fun e w'=>e=.returned (.tuple #[.string R.1,.int .i64 R.2.1,.int .i64 R.2.2])∧Below w.heap.size w w') Exit.ret { tmps:=tmps,defers:=[{ target:=Target.fn (Fn.func 156) #[.pointer (some ⟨w.heap.size+2,0,none⟩),.pointer (some ⟨w.heap.size+1,0,none⟩)],args:=#[] }] } W:=by
 intro tmps W ev tk s h8 h9 h10 hO hF hE hB hRR
 have h8':tmps[8]?.getD undef=.pointer (some ⟨w.heap.size+1,0,none⟩):=by simpa using h8
 have h9':tmps[9]?.getD undef=.int .i64 tk:=by simpa using h9
 have h10':tmps[10]?.getD undef=.pointer (some ⟨w.heap.size+2,0,none⟩):=by simpa using h10
 refine leaves_cons (f:=156) (args:=#[.pointer (some ⟨w.heap.size+2,0,none⟩),.pointer (some ⟨w.heap.size+1,0,none⟩)]) (by simp) (by simp [go_sem]) ?_
 by_cases hev:ev=0
 · rw [hev] at hE
   refine (callD0 (w.heap.size+2) (w.heap.size+1) .returning _ hE).mono ?_
   rintro e u' w'' ⟨rfl,rfl,rfl⟩
   rw [hRR,if_pos hev]
   simp [Leaves,settle,results,Tryz.results135,go_sem,hO,hE,h8',h9',h10',hev]
   exact hB
 · refine (callD1 (w.heap.size+2) (w.heap.size+1) ev s .returning _ hE hev hO hF).mono ?_
   rintro e u' w'' ⟨rfl,rfl,rfl⟩
   have hO3:(W.setCell ⟨w.heap.size+1,0,none⟩ (.string ⟨#[]⟩)).cell? ⟨w.heap.size+1,0,none⟩=some (.string ⟨#[]⟩):=World.cell?_setCell_same _ _ _ hO
   have hE3:(W.setCell ⟨w.heap.size+1,0,none⟩ (.string ⟨#[]⟩)).cell? ⟨w.heap.size+2,0,none⟩=some (.int .i64 ev):=by
    rw [World.cell?_setCell_other _ _ _ _ (fun e=>by injection e with e;omega)];exact hE
   have hBB3:Below w.heap.size w (W.setCell ⟨w.heap.size+1,0,none⟩ (.string ⟨#[]⟩)):=bCell hB (by omega)
   rw [hRR,if_neg hev]
   generalize W.setCell ⟨w.heap.size+1,0,none⟩ (.string ⟨#[]⟩)=W3 at *
   simp [Leaves,settle,results,Tryz.results135,go_sem,hO3,hE3,h8',h9',h10']
   exact hBB3
end
section
open Go.RowKit Go.Shelf
set_option maxHeartbeats 800000 in
theorem HCall_early (y:Ls Hp) (lim calls:Int) (cmd:ByteArray) (w:World) (hy:LsN 4 encHp w y) (hl:y.l.length≤1000) (hc:∀ x∈y.l,x.cmd.size≤1000000) (hs:cmd.size≤1000000)
 (hno:¬ 16≤calls→y.l.find? (fun x=>globM (L x.cmd) (L cmd))=none) :
 Calls Tryz.prog 135 #[.slice y.A y.l.length y.c,.int .i64 lim,.int .i64 calls,.string cmd] w fun e w'=>e=.returned (.tuple #[.string (callS y.l lim calls cmd).1,.int .i64 (callS y.l lim calls cmd).2.1,.int .i64 (callS y.l lim calls cmd).2.2])∧Below w.heap.size w w':=by
 have hmf:∀ (fn:Fn) (first cap:Array Value) (w:World),(Instr.makeFunc fn first cap).run Tryz.prog w=.ok (.func fn first cap) w:=fun _ _ _ _=>rfl
 obtain ⟨w1,hw1⟩:∃ w1,((w.alloc (.cells #[.string cmd] 9)).alloc (.cells #[.string ⟨#[]⟩] 9)).alloc (.cells #[.int .i64 0] 39)=w1:=⟨_,rfl⟩
 obtain ⟨hs1,k0,k1,k2,hb1⟩:=alloc3 w (.cells #[.string cmd] 9) (.cells #[.string ⟨#[]⟩] 9) (.cells #[.int .i64 0] 39)
 rw [hw1] at hs1 k0 k1 k2 hb1
 have HI:=Lib.hid (IndexH_any cmd w.heap.size y w1 (hy.keep hb1) hl hc hs (by omega) (cellOf k0 rfl))
 obtain ⟨R,hR⟩:∃ R,callS y.l lim calls cmd=R:=⟨_,rfl⟩
 rw [hR]
 have HB1:=Lib.hid hb1
 have HW1:=Lib.hid hw1
 have HK1:=Lib.hid k1
 have HK2:=Lib.hid k2
 have HS1:=Lib.hid hs1
 have HR:=Lib.hid hR
 have HY:=Lib.hid hy
 clear hw1 hs1 k0 k1 k2 hb1 hy hR
 have c1:w1.cell? ⟨w.heap.size+1,0,none⟩=some (.string ⟨#[]⟩):=cellOf HK1.out rfl
 have c2:w1.cell? ⟨w.heap.size+2,0,none⟩=some (.int .i64 0):=cellOf HK2.out rfl
 have f1:=frz HK1.out 0
 have f2:=frz HK2.out 0
 have HEnd:=Lib.hid (callEnd R w)
 by_cases h16:16≤calls
 · have hRe:R=(⟨#[]⟩,0,144):=by rw [←HR.out];unfold callS;rw [if_pos h16]
   have HRe:=Lib.hid hRe
   clear hRe
   go_enter_defers Tryz.func135,Tryz.ntmps135
   go_upto_region 1 with fail
   rw [HW1.out]
   go_wp2
   refine HEnd.out _ _ 144 0 ⟨#[]⟩ rfl rfl rfl ?_ ?_ ?_ (bCell (bCell HB1.out (by omega)) (by omega)) HRe.out
   · rw [World.cell?_setCell_other _ _ _ _ (fun e=>by injection e with e;omega)]
     exact World.cell?_setCell_same _ _ _ c1
   · rw [World.frozen?_setCell,World.frozen?_setCell];exact f1
   · exact World.cell?_setCell_same _ _ _ ((World.cell?_setCell_other _ _ _ _ (fun e=>by injection e with e;omega)).trans c2)
 · have hpre:R=match y.l.find? (fun x=>globM (L x.cmd) (L cmd)) with
    | none=>(⟨#[]⟩,0,143)
    | some x=>if lim<x.ticks then (⟨#[]⟩,lim,142) else if x.fails then (⟨#[]⟩,x.ticks,141) else (x.out,x.ticks,0):=by
    rw [←HR.out];unfold callS;rw [if_neg h16]
    rfl
   have HPre:=Lib.hid hpre
   clear hpre
   go_enter_defers Tryz.func135,Tryz.ntmps135
   go_upto_region 1 with fail
   rw [HW1.out]
   go_upto_region 5 with (go_at_call 157;refine HI.out.mono ?_;rintro e w2 ⟨h2,hb2⟩;have H2:=Lib.hid h2;have HB2:=Lib.hid hb2;rcases h2 with ⟨k,hk,rfl,hf⟩ | ⟨rfl,hf⟩)
   · exact absurd hf (by rw [hno (by omega)];simp)
   · have hPre:=HPre.out
     rw [hf] at hPre
     have HP2:=Lib.hid hPre
     have hcc1:=(HB2.out.block _ (blk_lt' HK1.out)).trans HK1.out
     have hcc2:=(HB2.out.block _ (blk_lt' HK2.out)).trans HK2.out
     have d1:w2.cell? ⟨w.heap.size+1,0,none⟩=some (.string ⟨#[]⟩):=cellOf hcc1 rfl
     have d2:w2.cell? ⟨w.heap.size+2,0,none⟩=some (.int .i64 0):=cellOf hcc2 rfl
     have g1:=frz hcc1 0
     have g2:=frz hcc2 0
     clear hPre hcc1 hcc2 hf c1 c2 f1 f2 hc
     go_wp2
     refine HEnd.out _ _ 143 0 ⟨#[]⟩ rfl rfl rfl ?_ ?_ ?_ (bCell (bCell (bt HB1.out HB2.out) (by omega)) (by omega)) HP2.out
     · rw [World.cell?_setCell_other _ _ _ _ (fun e=>by injection e with e;omega)]
       exact World.cell?_setCell_same _ _ _ d1
     · rw [World.frozen?_setCell,World.frozen?_setCell];exact g1
     · exact World.cell?_setCell_same _ _ _ ((World.cell?_setCell_other _ _ _ _ (fun e=>by injection e with e;omega)).trans d2)
end
section
open Go.RowKit
abbrev conT:TypeId:=158
abbrev chgT:TypeId:=160
def kindV (t:Tm):Value:=.iface (if matchB t.op then conT else chgT) (tmV t)
theorem bu_con (parts:Array (Nat × Value)):Instr.build conT parts=buG conT parts:=by unfold buG;rfl
theorem bu_chg (parts:Array (Nat × Value)):Instr.build chgT parts=buG chgT parts:=by unfold buG;rfl
theorem con_build (t:Tm) (W:World):(buG conT #[(0,.agg #[.int .i64 t.key,.string t.name,.int .i64 t.op,.string t.value])]).run Tryz.prog W=.ok (.agg #[.int .i64 t.key,.string t.name,.int .i64 t.op,.string t.value]) W:=by
 unfold buG
 exact run_build W _ _ _ (by kernel_rfl)
theorem chg_build (t:Tm) (W:World):(buG chgT #[(0,.agg #[.int .i64 t.key,.string t.name,.int .i64 t.op,.string t.value])]).run Tryz.prog W=.ok (.agg #[.int .i64 t.key,.string t.name,.int .i64 t.op,.string t.value]) W:=by
 unfold buG
 exact run_build W _ _ _ (by kernel_rfl)
theorem assert_con (W:World) (v:Value):(Instr.typeAssert (.iface conT v) 20 conT true).run Tryz.prog W=.ok (.tuple #[v,.bool true]) W:=by kernel_rfl
theorem assert_chg (W:World) (v:Value):(Instr.typeAssert (.iface chgT v) 20 chgT true).run Tryz.prog W=.ok (.tuple #[v,.bool true]) W:=by kernel_rfl
theorem assert_con_no (W:World) (v:Value):(Instr.typeAssert (.iface chgT v) 20 conT true).run Tryz.prog W=.ok (.tuple #[.agg #[.int .i64 0,.string ⟨#[]⟩,.int .i64 0,.string ⟨#[]⟩],.bool false]) W:=by kernel_rfl
attribute [local go_sem ↓] bu_con bu_chg
theorem EKind_any (t:Tm) (w:World):Calls Tryz.prog 85 #[tmV t] w fun e w'=>e=.returned (kindV t)∧Below w.heap.size w w':=by
 have HM0:=PMatch_any t (w.alloc (.cells #[.int .i64 t.key,.string t.name,.int .i64 t.op,.string t.value] 46))
 obtain ⟨ky,nmm,op,vl⟩:=t
 have hc:=fun (W:World)=>con_build ⟨ky,nmm,op,vl⟩ W
 have hg:=fun (W:World)=>chg_build ⟨ky,nmm,op,vl⟩ W
 unfold kindV
 unfold tmV at *
 dsimp only at *
 have hb1:=below_alloc w (.cells #[.int .i64 ky,.string nmm,.int .i64 op,.string vl] 46)
 obtain ⟨w1,hw1⟩:∃ w1,w.alloc (.cells #[.int .i64 ky,.string nmm,.int .i64 op,.string vl] 46)=w1:=⟨_,rfl⟩
 have hr1:w1.heap[w.heap.size]? = some (.cells #[.int .i64 ky,.string nmm,.int .i64 op,.string vl] 46 (0,0)):=by rw [←hw1];exact heap_alloc_new _ _
 rw [hw1] at HM0 hb1
 have HM:=Lib.hid HM0
 have HB1:=Lib.hid hb1
 have HW1:=Lib.hid hw1
 have HR1:=Lib.hid hr1
 clear HM0 hb1 hw1
 have c0:=cellOf (j:=0) hr1 rfl
 have c1:=cellOf (j:=1) hr1 rfl
 have c2:=cellOf (j:=2) hr1 rfl
 have c3:=cellOf (j:=3) hr1 rfl
 clear hr1
 cases hm:matchB op with
 | true =>
   rw [hm] at HM
   rw [if_pos rfl]
   clear hm
   go_enter Tryz.func85,Tryz.ntmps85
   go_upto_region 1 with fail
   rw [HW1.out]
   go_wp2_with (go_at_call 105;refine HM.out.mono ?_;rintro e w2 ⟨rfl,hb2⟩;have HB2:=Lib.hid hb2;(have hr2:=(hb2.block _ (blk_lt' HR1.out)).trans HR1.out);have d0:=cellOf (j:=0) hr2 rfl;have d1:=cellOf (j:=1) hr2 rfl;have d2:=cellOf (j:=2) hr2 rfl;have d3:=cellOf (j:=3) hr2 rfl;have hc2:=hc w2;clear hr2 hb2 c0 c1 c2 c3 hc hg)
   go_ret
   exact ⟨rfl,bt HB1.out HB2.out⟩
 | false =>
   rw [hm] at HM
   rw [if_neg (by simp)]
   clear hm
   go_enter Tryz.func85,Tryz.ntmps85
   go_upto_region 1 with fail
   rw [HW1.out]
   go_wp2_with (go_at_call 105;refine HM.out.mono ?_;rintro e w2 ⟨rfl,hb2⟩;have HB2:=Lib.hid hb2;(have hr2:=(hb2.block _ (blk_lt' HR1.out)).trans HR1.out);have d0:=cellOf (j:=0) hr2 rfl;have d1:=cellOf (j:=1) hr2 rfl;have d2:=cellOf (j:=2) hr2 rfl;have d3:=cellOf (j:=3) hr2 rfl;have hg2:=hg w2;clear hr2 hb2 c0 c1 c2 c3 hc hg)
   go_ret
   exact ⟨rfl,bt HB1.out HB2.out⟩
end
section
open Go.RowKit
theorem field_look1 (b u:Bool) (f:Value) (w:World):(Instr.field 196 (.agg #[.bool b,.bool u,f]) 1).run Tryz.prog w=.ok (.bool u) w:=by kernel_rfl
set_option maxHeartbeats 1000000 in
theorem PUpward_any (t:Tm) (w:World):Calls Tryz.prog 108 #[tmV t] w fun e w'=>e=.returned (.bool (upB t))∧Below w.heap.size w w':=by
 have hO:=POf_any t (w.alloc (.cells #[.int .i64 t.key,.string t.name,.int .i64 t.op,.string t.value] 46))
 rw [ofA_is] at hO
 have HO:=Lib.hid hO
 clear hO
 unfold tmV at HO ⊢
 generalize staticB t=b at *
 generalize upB t=u at *
 generalize fnOf t=f at *
 have hfl:=field_look1 b u f
 go_enter Tryz.func108,Tryz.ntmps108
 go_wp2_with (go_at_call 130;refine HO.out.mono ?_;rintro e w2 ⟨rfl,hb2⟩;have HB2:=Lib.hid hb2;clear hb2)
 go_ret
 exact ⟨rfl,bt (below_alloc _ _) HB2.out⟩
theorem draftC_any (v s:ByteArray) (B:Nat) (w:World) (hp:v.size≤4611686018427387904) (hs:s.size≤4611686018427387904) (hc:w.cell? ⟨B,3,none⟩=some (.string v)) :
 Calls Tryz.prog 141 #[.string s,.pointer (some ⟨B,0,none⟩)] w fun e w'=>e=.returned (.bool (globM (L v) (L s)))∧Below w.heap.size w w':=by
 have HM:=Lib.hid (fun W=>PGMatch_any v s W hp hs)
 generalize globM (L v) (L s)=b at *
 go_enter Tryz.func141,Tryz.ntmps141
 go_wp2_with (go_at_call 142;refine (HM.out _).mono ?_;rintro e w2 ⟨rfl,hb2⟩)
 go_ret
 exact ⟨rfl,hb2⟩
structure DrZ (d:Dr):Prop where
 pl:d.props.length≤1000
 pv:∀ x∈d.props,x.val.size≤1000000
 rs:d.res.size≤1000000
 tl:d.tags.length≤1000
 tv:∀ s∈d.tags,s.length≤1000000
set_option maxHeartbeats 8000000 in
theorem PMDraft_any (t:Tm) (act:ByteArray) (x:Dm) (w:World) (hN:DmN w x) (hz:DrZ x.d) (hp:t.value.size≤1000000) (ha:act.size≤1000000) :
 Calls Tryz.prog 112 #[tmV t,.string act,.agg (drA x)] w fun e w'=>e=.returned (.bool (draftB t act x.d))∧Below w.heap.size w w':=by
 obtain ⟨ky,nmm,op,vl⟩:=t
 dsimp only at hp
 have HM0:=fun W=>PMatch_any (⟨ky,nmm,op,vl⟩:Tm) W
 have HHo:=Lib.hid (fun (v:ByteArray) (hv:v.size≤1000000) W=>PHolds_any (⟨ky,nmm,op,vl⟩:Tm) v W (by dsimp only;omega) (by omega))
 obtain ⟨w1,hw1⟩:∃ w1,(w.alloc (.cells #[.int .i64 ky,.string nmm,.int .i64 op,.string vl] 46)).alloc (.cells (drA x) drT)=w1:=⟨_,rfl⟩
 have hb1:Below w.heap.size w w1:=by rw [←hw1];exact bt (below_alloc _ _) (below_alloc _ _)
 have hT:w1.heap[w.heap.size]? = some (.cells #[.int .i64 ky,.string nmm,.int .i64 op,.string vl] 46):=by rw [←hw1];exact ((below_alloc _ _).block _ (by simp)).trans (heap_alloc_new _ _)
 have hD:w1.heap[w.heap.size+1]? = some (.cells (drA x) drT):=by rw [←hw1];have:=heap_alloc_new (w.alloc (.cells #[.int .i64 ky,.string nmm,.int .i64 op,.string vl] 46)) (.cells (drA x) drT);simpa using this
 have HSx:Hid (∀ W,Below w1.heap.size w1 W→W.cell? ⟨w.heap.size,0,none⟩=some (.int .i64 ky)∧W.cell? ⟨w.heap.size,1,none⟩=some (.string nmm)∧W.cell? ⟨w.heap.size,2,none⟩=some (.int .i64 op)∧W.cell? ⟨w.heap.size,3,none⟩=some (.string vl)∧W.cell? ⟨w.heap.size+1,0,none⟩=some (.slice x.props.A x.props.l.length x.props.c)∧W.cell? ⟨w.heap.size+1,1,none⟩=some (.slice x.tags.A x.tags.l.length x.tags.c)∧W.cell? ⟨w.heap.size+1,10,none⟩=some (.string x.res)):=Lib.hid fun W hW=>by
  have h1:=(hW.block _ (blk_lt' hT)).trans hT
  have h2:=(hW.block _ (blk_lt' hD)).trans hD
  exact ⟨cellOf h1 rfl,cellOf h1 rfl,cellOf h1 rfl,cellOf h1 rfl,cellOf h2 rfl,cellOf h2 rfl,cellOf h2 rfl⟩
 have hN1:=hN.keep hb1
 have HG:Hid (∀ W,Below w1.heap.size w1 W→Calls Tryz.prog 27 #[.slice x.props.A x.props.l.length x.props.c,.string nmm] W fun e w'=>e=.returned (.tuple #[.string (attrS x.props.l (L nmm)),.bool (findF x.props.l (L nmm)).isSome])∧Below W.heap.size W w'):=Lib.hid fun W hW=>by
  have h1:=PGet_any x.props.A x.props.c x.props.l nmm W ((hN1.keep hW).pr.row.row) (by have:=hz.pl;have e:x.d.props=x.props.l:=rfl;rw [e] at this;omega)
  unfold GetPost at h1
  rw [getU_is] at h1
  exact h1
 have hav:(attrS x.props.l (L nmm)).size≤1000000:=by
  unfold attrS
  split
  · rename_i y hy;exact hz.pv y (List.mem_of_find?_eq_some hy)
  · exact Nat.zero_le _
 have HC:Hid (∀ W,Below w1.heap.size w1 W→Calls Tryz.prog 140 #[.slice x.tags.A x.tags.l.length x.tags.c,.func (.func 141) #[] #[.pointer (some ⟨w.heap.size,0,none⟩)]] W fun e w'=>e=.returned (.bool (x.tags.l.any fun s=>globM (L vl) s))∧Below W.heap.size W w'):=Lib.hid fun W hW=>by
  have hrow:=(hN1.keep hW).tg.row.row
  have e1:cellsOf encS x.tags.l=(x.tags.l.map bs).map Value.string:=by
   generalize x.tags.l=l
   induction l with
   | nil=>rfl
   | cons s l ih=>rw [List.map_cons,List.map_cons,←ih];rfl
  have e2:(x.tags.l.map bs).length=x.tags.l.length:=List.length_map ..
  rw [e1,←e2] at hrow
  have hP:PredS 141 #[.pointer (some ⟨w.heap.size,0,none⟩)] (fun s=>globM (L vl) (L s)) (x.tags.l.map bs) W:=fun s hs W2 hW2=>by
   obtain ⟨s0,hs0,rfl⟩:=List.mem_map.1 hs
   have hz1:(bs s0).size≤1000000:=by rw [size_bs];exact hz.tv s0 hs0
   exact (draftC_any vl (bs s0) w.heap.size W2 (by omega) (by omega) (HSx.out W2 (bt hW hW2)).2.2.2.1).mono fun _ _ ⟨h1,h2⟩=>⟨h1,bt hW2 h2⟩
  have h1:=ContB_any 141 #[.pointer (some ⟨w.heap.size,0,none⟩)] (fun _ _=>rfl) (fun s=>globM (L vl) (L s)) x.tags.A x.tags.c (x.tags.l.map bs) W hrow (by rw [e2];have:=hz.tl;have e:x.d.tags=x.tags.l:=rfl;rw [e] at this;omega) hP
  rw [e2] at h1
  have e3:((x.tags.l.map bs).any fun s=>globM (L vl) (L s))=x.tags.l.any fun s=>globM (L vl) s:=by
   rw [List.any_map]
   simp only [Function.comp_def,L_bs]
  rw [e3] at h1
  exact h1
 have hrs:=hz.rs
 have hE:draftB ⟨ky,nmm,op,vl⟩ act x.d=(matchB op && (if ky=1 then holdsB ⟨ky,nmm,op,vl⟩ act else if ky=6 then holdsB ⟨ky,nmm,op,vl⟩ (attrS x.props.l (L nmm)) else if ky=13 then holdsB ⟨ky,nmm,op,vl⟩ x.res else if ky=7 then (x.tags.l.any fun s=>globM (L vl) s) == (op == 1) else false)):=rfl
 rw [hE]
 have HB1:=Lib.hid hb1
 have HW1:=Lib.hid hw1
 clear hE hw1 hT hD hN1 hb1 hN hz
 unfold tmV drA at *
 dsimp only at HM0
 cases hm:matchB op with
 | false =>
   simp only [hm] at HM0
   rw [Bool.false_and]
   have HM:=Lib.hid HM0
   clear HM0 hm
   go_enter Tryz.func112,Tryz.ntmps112
   go_upto_region 1 with fail
   rw [HW1.out]
   obtain ⟨c0,c1,c2,c3,d0,d1,d2⟩:=HSx.out w1 (Below.refl _ _)
   go_wp2_with (go_at_call 105;refine (HM.out _).mono ?_;rintro e w2 ⟨rfl,hb2⟩;have HB2:=Lib.hid hb2;clear hb2)
   go_ret
   exact ⟨rfl,bt HB1.out HB2.out⟩
 | true =>
   simp only [hm] at HM0
   have HM:=Lib.hid HM0
   clear HM0 hm
   rw [Bool.true_and]
   by_cases h1:ky=1
   · subst h1
     rw [if_pos rfl]
     have HH:=Lib.hid (HHo.out act ha)
     clear HHo HC HG
     generalize holdsB _ act=b at *
     go_enter Tryz.func112,Tryz.ntmps112
     go_upto_region 1 with fail
     rw [HW1.out]
     obtain ⟨c0,c1,c2,c3,d0,d1,d2⟩:=HSx.out w1 (Below.refl _ _)
     go_wp2_with (first | (go_at_call 105;refine (HM.out _).mono ?_;rintro e w2 ⟨rfl,hb2⟩;have HB2:=Lib.hid hb2;obtain ⟨e0,e1,e2,e3,f0,f1,f2⟩:=HSx.out w2 hb2;clear hb2 c0 c1 c2 c3 d0 d1 d2) | (go_at_call 131;refine (HH.out _).mono ?_;rintro e w3 ⟨rfl,hb3⟩))
     go_ret
     exact ⟨rfl,bt HB1.out (bt HB2.out hb3)⟩
   · rw [if_neg h1]
     by_cases h6:ky=6
     · subst h6
       rw [if_pos rfl]
       have HH:=Lib.hid (HHo.out _ hav)
       clear HHo HC
       generalize holdsB _ (attrS x.props.l (L nmm))=b at *
       generalize attrS x.props.l (L nmm)=av at *
       go_enter Tryz.func112,Tryz.ntmps112
       go_upto_region 1 with fail
       rw [HW1.out]
       obtain ⟨c0,c1,c2,c3,d0,d1,d2⟩:=HSx.out w1 (Below.refl _ _)
       go_wp2_with (first | (go_at_call 105;refine (HM.out _).mono ?_;rintro e w2 ⟨rfl,hb2⟩;have HB2:=Lib.hid hb2;obtain ⟨e0,e1,e2,e3,f0,f1,f2⟩:=HSx.out w2 hb2;clear hb2 c0 c1 c2 c3 d0 d1 d2) | (go_at_call 27;refine (HG.out _ HB2.out).mono ?_;rintro e w3 ⟨rfl,hb3⟩;have HB3:=Lib.hid (bt HB2.out hb3);obtain ⟨g0,g1,g2,g3,k0,k1,k2⟩:=HSx.out w3 HB3.out;clear hb3 e0 e1 e2 e3 f0 f1 f2) | (go_at_call 131;refine (HH.out _).mono ?_;rintro e w4 ⟨rfl,hb4⟩))
       go_ret
       exact ⟨rfl,bt HB1.out (bt HB3.out hb4)⟩
     · rw [if_neg h6]
       by_cases h13:ky=13
       · subst h13
         rw [if_pos rfl]
         have HH:=Lib.hid (HHo.out _ hrs)
         clear HHo HC HG
         have er:x.d.res=x.res:=rfl
         rw [er] at HH
         clear er
         generalize holdsB _ x.res=b at *
         go_enter Tryz.func112,Tryz.ntmps112
         go_upto_region 1 with fail
         rw [HW1.out]
         obtain ⟨c0,c1,c2,c3,d0,d1,d2⟩:=HSx.out w1 (Below.refl _ _)
         go_wp2_with (first | (go_at_call 105;refine (HM.out _).mono ?_;rintro e w2 ⟨rfl,hb2⟩;have HB2:=Lib.hid hb2;obtain ⟨e0,e1,e2,e3,f0,f1,f2⟩:=HSx.out w2 hb2;clear hb2 c0 c1 c2 c3 d0 d1 d2) | (go_at_call 131;refine (HH.out _).mono ?_;rintro e w3 ⟨rfl,hb3⟩))
         go_ret
         exact ⟨rfl,bt HB1.out (bt HB2.out hb3)⟩
       · rw [if_neg h13]
         by_cases h7:ky=7
         · subst h7
           rw [if_pos rfl]
           clear HHo HG
           generalize (x.tags.l.any fun s=>globM (L vl) s)=b at *
           go_enter Tryz.func112,Tryz.ntmps112
           go_upto_region 1 with fail
           rw [HW1.out]
           obtain ⟨c0,c1,c2,c3,d0,d1,d2⟩:=HSx.out w1 (Below.refl _ _)
           go_wp2_with (first | (go_at_call 105;refine (HM.out _).mono ?_;rintro e w2 ⟨rfl,hb2⟩;have HB2:=Lib.hid hb2;obtain ⟨e0,e1,e2,e3,f0,f1,f2⟩:=HSx.out w2 hb2;clear hb2 c0 c1 c2 c3 d0 d1 d2) | (go_at_call 140;refine (HC.out _ HB2.out).mono ?_;rintro e w3 ⟨rfl,hb3⟩;have HB3:=Lib.hid (bt HB2.out hb3);obtain ⟨g0,g1,g2,g3,k0,k1,k2⟩:=HSx.out w3 HB3.out;clear hb3 e0 e1 e2 e3 f0 f1 f2))
           all_goals
            go_ret
            exact ⟨ret_bool (by first | rfl | simp [*]),bt HB1.out HB3.out⟩
         · rw [if_neg h7]
           clear HHo HC HG
           go_enter Tryz.func112,Tryz.ntmps112
           go_upto_region 1 with fail
           rw [HW1.out]
           obtain ⟨c0,c1,c2,c3,d0,d1,d2⟩:=HSx.out w1 (Below.refl _ _)
           go_wp2_with (first | (go_at_call 105;refine (HM.out _).mono ?_;rintro e w2 ⟨rfl,hb2⟩;have HB2:=Lib.hid hb2;obtain ⟨e0,e1,e2,e3,f0,f1,f2⟩:=HSx.out w2 hb2;clear hb2 c0 c1 c2 c3 d0 d1 d2))
           go_ret
           exact ⟨rfl,bt HB1.out HB2.out⟩
end
section
open Go.RowKit
structure RuN (w:World) (A:Option Addr) (rl:List Rl):Prop where
 row:RowAt w w.heap.size A 3 rl.length (cellsOf encRl rl)
 inn:∀ y∈rl,RowAt w w.heap.size y.tms.A 4 y.tms.l.length (cellsOf encTm y.tms.l)
theorem RuN.keep {w w':World} {A:Option Addr} {rl:List Rl} (h:RuN w A rl) (hb:Below w.heap.size w w'):RuN w' A rl:=⟨(h.row.keep hb).up hb.size,fun y hy=>((h.inn y hy).keep hb).up hb.size⟩
def rlT (rl:List Rl):List (List Tm):=rl.map fun y=>y.tms.l
theorem rlT_len (rl:List Rl):(rlT rl).length=rl.length:=List.length_map ..
theorem rlT_get (rl:List Rl) {k:Nat} (hk:k<rl.length):(rlT rl)[k]? = some rl[k].tms.l:=by
 unfold rlT
 rw [List.getElem?_map,List.getElem?_eq_getElem hk];rfl
def labB (tt:ByteArray) (m:List Tm):Bool:=match valT m 23 with
 | some x=>L x == L tt
 | none=>false
theorem next_eq (ls:List (List Tm)) (a:Nat) (l:List Tm):nextS ls a l=match valT l 24 with
 | none=>a+1
 | some tt=>match (ls.drop (a+1)).findIdx? (labB tt) with
   | some i=>a+1+i
   | none=>a+1:=by
 unfold nextS
 cases valT l 24 <;> rfl
theorem next_none {ls:List (List Tm)} {a:Nat} {l:List Tm} (h:valT l 24=none):nextS ls a l=a+1:=by rw [next_eq,h]
theorem next_miss {ls:List (List Tm)} {a:Nat} {l:List Tm} {tt:ByteArray} (h:valT l 24=some tt) (hn:∀ j m,a<j→ls[j]? = some m→labB tt m=false):nextS ls a l=a+1:=by
 rw [next_eq,h]
 have:(ls.drop (a+1)).findIdx? (labB tt)=none:=by
  rw [List.findIdx?_eq_none_iff]
  intro m hm
  obtain ⟨j,hj⟩:=List.mem_iff_getElem?.1 hm
  rw [List.getElem?_drop] at hj
  exact hn _ m (by omega) hj
 dsimp only
 rw [this]
theorem next_hit {ls:List (List Tm)} {a k:Nat} {l m:List Tm} {tt:ByteArray} (h:valT l 24=some tt) (hk:a<k) (hm:ls[k]? = some m) (hl:labB tt m=true) (hn:∀ j m,a<j→j<k→ls[j]? = some m→labB tt m=false):nextS ls a l=k:=by
 rw [next_eq,h]
 have:(ls.drop (a+1)).findIdx? (labB tt)=some (k - (a+1)):=by
  have hlt:=(List.getElem?_eq_some_iff.1 hm).1
  rw [List.findIdx?_eq_some_iff_getElem]
  refine ⟨by rw [List.length_drop];omega,?_,fun j hj=>?_⟩
  · have e:(ls.drop (a+1))[k - (a+1)]? = some m:=by rw [List.getElem?_drop,show a+1+(k - (a+1))=k from by omega];exact hm
    rw [List.getElem?_eq_getElem (by rw [List.length_drop];omega)] at e
    rw [Option.some.inj e];exact hl
  · have hj2:a+1+j<ls.length:=by omega
    have e:(ls.drop (a+1))[j]? = some ls[a+1+j]:=by rw [List.getElem?_drop,List.getElem?_eq_getElem hj2]
    rw [List.getElem?_eq_getElem (by rw [List.length_drop];omega)] at e
    rw [Option.some.inj e]
    simpa using hn (a+1+j) _ (by omega) (by omega) (List.getElem?_eq_getElem hj2)
 dsimp only
 rw [this]
 show a+1+(k - (a+1))=k
 omega
theorem rl_cells {w wr:World} {B:Nat} {A:Option Addr} {l:List Rl} (h:RowAt w B A 3 l.length (cellsOf encRl l)) (hb:Below B w wr) {k:Nat} (hk:k<l.length):∃ ba off,A=some ⟨ba,off,none⟩∧wr.cell? ⟨ba,off+k*3,none⟩=some (.string l[k].file)∧wr.cell? ⟨ba,off+k*3+1,none⟩=some (.int .i64 l[k].line)∧wr.cell? ⟨ba,off+k*3+2,none⟩=some (.slice l[k].tms.A l[k].tms.l.length l[k].tms.c):=by
 obtain ⟨ba,off,e,hB,hc⟩:=h.cell encRl_len hk
 have hx:l[k]? = some l[k]:=List.getElem?_eq_getElem hk
 refine ⟨ba,off,e,?_,?_,?_⟩
 · rw [hb.cell (p:=⟨ba,off+k*3,none⟩) hB];exact hc k _ hx 0 _ rfl
 · rw [hb.cell (p:=⟨ba,off+k*3+1,none⟩) hB];exact hc k _ hx 1 _ rfl
 · rw [hb.cell (p:=⟨ba,off+k*3+2,none⟩) hB];exact hc k _ hx 2 _ rfl
theorem EVal2_any (y:Rl) (key:Int) (w:World) (hn:y.tms.l.length≤1000000) (h:RowAt w w.heap.size y.tms.A 4 y.tms.l.length (cellsOf encTm y.tms.l)) :
 Calls Tryz.prog 88 #[.agg #[.string y.file,.int .i64 y.line,.slice y.tms.A y.tms.l.length y.tms.c],.int .i64 key] w fun e w'=>e=.returned (.tuple #[.string ((valT y.tms.l key).getD ⟨#[]⟩),.bool (valT y.tms.l key).isSome])∧Below w.heap.size w w' :=
 EVal_any y.file y.line y.tms.A y.tms.c y.tms.l key w hn h
set_option maxHeartbeats 4000000 in
theorem EvNext_any (A:Option Addr) (c:Nat) (rl:List Rl) (a:Nat) (w:World) (hr:RuN w A rl) (ha:a<rl.length) (hl:rl.length≤1000000) (hz:∀ y∈rl,y.tms.l.length≤1000000) :
 Calls Tryz.prog 67 #[.slice A rl.length c,.int .i64 a] w fun e w'=>e=.returned (.int .i64 (nextS (rlT rl) a rl[a].tms.l:Nat))∧Below w.heap.size w w':=by
 have HR:=Lib.hid hr
 have hai:(a:Int)<(rl.length:Int):=by omega
 obtain ⟨ba,off,rfl,c0,c1,c2⟩:=rl_cells hr.row (Below.refl _ _) ha
 have HV0:=EVal2_any rl[a] 24 w (hz _ (List.getElem_mem ha)) (hr.inn _ (List.getElem_mem ha))
 have HVk:=Lib.hid (fun (y:Rl) (hy:y∈rl) (W:World) (hW:Below w.heap.size w W)=>EVal2_any y 23 W (hz y hy) ((hr.keep hW).inn y hy))
 clear hr hz
 cases hv:valT rl[a].tms.l 24 with
 | none =>
   rw [hv] at HV0
   have HV:=Lib.hid HV0
   rw [next_none hv]
   clear HV0 hv HVk
   generalize rl[a].file=ff at *
   generalize rl[a].line=ll at *
   generalize rl[a].tms=tt at *
   generalize rl.length=N at *
   go_enter Tryz.func67,Tryz.ntmps67
   go_wp2_with (go_at_call 88;refine HV.out.mono ?_;rintro e w2 ⟨rfl,hb2⟩)
   go_loopg [7,8,9] 0 (fun _ i _ _ wr=>i=.int .i64 ((a:Int)+1)∧Hid (Below w.heap.size w wr))
   case atStart=>exact ⟨by go_num,Lib.hid hb2⟩
   case round =>
    obtain ⟨rfl,HB⟩:=hrel
    go_wp2
    go_ret
    exact ⟨by first | rfl | go_num,HB.out⟩
 | some tg =>
   rw [hv] at HV0
   have HV:=Lib.hid HV0
   have HN:=Lib.hid (show valT rl[a].tms.l 24=some tg from hv)
   have HRest:=Lib.hid HR.out.row
   generalize hrl:rl[a].tms.l=tl24 at *
   clear HV0 hv
   generalize hff:rl[a].file=ff at *
   generalize hll:rl[a].line=ll at *
   generalize htA:rl[a].tms.A=ttA at *
   generalize htc:rl[a].tms.c=ttc at *
   clear hff hll htA htc hrl
   obtain ⟨N,hN⟩:∃ N,rl.length=N:=⟨_,rfl⟩
   have HNl:=Lib.hid hN
   rw [hN] at hai hl ⊢
   clear hN
   go_enter Tryz.func67,Tryz.ntmps67
   go_wp2_with (go_at_call 88;refine HV.out.mono ?_;rintro e w2 ⟨rfl,hb2⟩;have HB2:=Lib.hid hb2;clear hb2)
   clear c0 c1 c2
   go_loopg [7,8,9] (N - a) (fun gk i _ _ wr=>∃ k:Nat,i=.int .i64 k∧a<k∧k≤N∧k+gk=N+1∧Hid (Below w.heap.size w wr)∧Hid (∀ j m,a<j→j<k→(rlT rl)[j]? = some m→labB tg m=false))
   case atStart=>exact ⟨a+1,by go_num,by omega,by omega,by omega,HB2,Lib.hid fun j m h1 h2=>by omega⟩
   case round =>
    obtain ⟨k,rfl,hk1,hk2,hkg,HB,HA⟩:=hrel
    by_cases hlt:k<N
    · have hlt':k<rl.length:=by rw [HNl.out];exact hlt
      obtain ⟨ba2,off2,e2,d0,d1,d2⟩:=rl_cells HRest.out HB.out hlt'
      injection e2 with e2
      injection e2 with e3 e4
      subst e3 e4
      have HC:=HVk.out rl[k] (List.getElem_mem hlt') wr HB.out
      have hget:=rlT_get rl hlt'
      have hlab:labB tg rl[k].tms.l=match valT rl[k].tms.l 23 with | some x=>L x == L tg | none=>false:=rfl
      cases hv:valT rl[k].tms.l 23 with
      | none =>
        rw [hv] at HC hlab
        have HC2:=Lib.hid HC
        have HA2:Hid (∀ j m,a<j→j<k+1→(rlT rl)[j]? = some m→labB tg m=false):=Lib.hid fun j m h1 h2 h3=>by
         rcases Nat.lt_or_ge j k with h4 | h4
         · exact HA.out j m h1 h4 h3
         · obtain rfl:j=k:=by omega
           rw [hget] at h3
           rw [←Option.some.inj h3,hlab]
        clear HC hlab hget hv
        generalize rl[k].tms.l.length=n9 at *
        generalize rl[k].file=ff at *
        generalize rl[k].line=ll at *
        generalize rl[k].tms.A=ttA at *
        generalize rl[k].tms.c=ttc at *
        go_wp2_with (go_at_call 88;refine HC2.out.mono ?_;rintro e w3 ⟨rfl,hb3⟩)
        go_roundg (gk - 1)
        case measure=>omega
        case rel=>exact ⟨k+1,by go_num,by omega,by omega,by omega,Lib.hid (bt HB.out hb3),HA2⟩
      | some xl =>
        rw [hv] at HC hlab
        have HC2:=Lib.hid HC
        dsimp only at hlab
        by_cases hq:xl.toList=tg.toList
        · have hlt2:labB tg rl[k].tms.l=true:=by rw [hlab,←tl,←tl,hq];simp
          have HEq:=Lib.hid (next_hit HN.out hk1 hget hlt2 HA.out)
          clear HC hlab hget hv hlt2
          generalize rl[k].tms.l.length=n9 at *
          generalize rl[k].file=ff at *
          generalize rl[k].line=ll at *
          generalize rl[k].tms.A=ttA at *
          generalize rl[k].tms.c=ttc at *
          go_wp2_with (go_at_call 88;refine HC2.out.mono ?_;rintro e w3 ⟨rfl,hb3⟩)
          go_ret
          rw [HEq.out]
          exact ⟨rfl,bt HB.out hb3⟩
        · have hqb:(xl.toList == tg.toList)=false:=by simpa using hq
          have hlt2:labB tg rl[k].tms.l=false:=by rw [hlab,←tl,←tl];exact hqb
          have HA2:Hid (∀ j m,a<j→j<k+1→(rlT rl)[j]? = some m→labB tg m=false):=Lib.hid fun j m h1 h2 h3=>by
           rcases Nat.lt_or_ge j k with h4 | h4
           · exact HA.out j m h1 h4 h3
           · obtain rfl:j=k:=by omega
             rw [hget] at h3
             rw [←Option.some.inj h3,hlt2]
          clear HC hlab hget hv hlt2
          generalize rl[k].tms.l.length=n9 at *
          generalize rl[k].file=ff at *
          generalize rl[k].line=ll at *
          generalize rl[k].tms.A=ttA at *
          generalize rl[k].tms.c=ttc at *
          go_wp2_with (go_at_call 88;refine HC2.out.mono ?_;rintro e w3 ⟨rfl,hb3⟩)
          go_roundg (gk - 1)
          case measure=>omega
          case rel=>exact ⟨k+1,by go_num,by omega,by omega,by omega,Lib.hid (bt HB.out hb3),HA2⟩
    · obtain rfl:k=N:=by omega
      have HEq:=Lib.hid (next_miss (ls:=rlT rl) (a:=a) HN.out (fun j m h1 h3=>HA.out j m h1 (by
       have:=(List.getElem?_eq_some_iff.1 h3).1
       rw [rlT_len] at this
       have:=HNl.out;omega) h3))
      go_wp2
      go_ret
      rw [HEq.out]
      exact ⟨by first | rfl | go_num,HB.out⟩
end
section
theorem next_gt (ls:List (List Tm)) (a:Nat) (l:List Tm):a+1≤nextS ls a l:=by
 unfold nextS
 split
 · exact Nat.le_refl _
 · split
   · omega
   · exact Nat.le_refl _
end
end Go.Proofs.YtobcmlmbblgcdaaGreatDoor
