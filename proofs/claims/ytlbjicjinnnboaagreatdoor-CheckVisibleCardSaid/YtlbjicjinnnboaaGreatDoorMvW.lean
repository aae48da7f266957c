/- MvW: laws and walks for CheckVisible. -/
import Derived.Test.YtlbjicjinnnboaaGreatDoorUShelf
import Derived.Test.YtlbjicjinnnboaaGreatDoorMvV
import Derived.Test.YtlbjicjinnnboaaGreatDoorMvQ
import Derived.Test.YtlbjicjinnnboaaGreatDoorMvG
import Derived.Test.YtlbjicjinnnboaaGreatDoorMvR
import Derived.Deep.DeepCutAuto
import Derived.BigQuiet
import Derived.Test.YtlbjicjinnnboaaGreatDoorMvH
import Derived.Test.YtlbjicjinnnboaaGreatDoorMvP
import Derived.Test.YtlbjicjinnnboaaGreatDoorRows
import Derived.ProofKit
import Derived.OpenShut
import Derived.LaidMore
import Derived.Lay
import Derived.HandedShaped
import Derived.Stop.Joined
set_option maxHeartbeats 8000000
set_option maxRecDepth 100000
set_option linter.unusedVariables false
set_option linter.unusedSimpArgs false
namespace Go.Proofs.YtlbjicjinnnboaaGreatDoor
open Go.RowKit Go.Proofs.Tryz
open Pw
variable {x node t n c k P z:Nat}{vs:List bT}{w0 w1 w:World}{f:aG}{l:List Nat}{A:Option Addr}
structure PgX (g:PgV) (ub zb:Nat) (w:World):Prop where
 pw:PgW g w
 ua:g.ua=(ub,())
 un:g.un=g.p.ns.length
 za:g.za=(zb,())
 zn:g.zn=g.p.fs.length
 fn:Own w 3 1 (ub,g.p.ns.length,g.uc) g.p.ns.length (ints g.p.fn)
 sz:Own w 3 1 (zb,g.p.fs.length,g.zc) g.p.fs.length (ints g.p.sizes)
 lf:g.p.fn.length=g.p.ns.length
 lz:g.p.sizes.length=g.p.fs.length
 fewf:g.p.fs.length<=6
 pars:∀f∈g.p.fs,f.params.length<=3
 body:∀f∈g.p.fs,∃nd,g.p.ns[f.body]?=some nd∧nd.kind=18
section
variable {g:PgV}{ub zb:Nat}{w w':World}
theorem PgW.no (h:PgW g w) (f:Fr nob w w'):PgW g w':=⟨h.few,h.tree.no f,h.types.fr f (λ_ _ x=>x),h.slots.fr f (λ_ _ x=>x),h.blocks⟩
theorem PgX.no (h:PgX g ub zb w) (f:Fr nob w w'):PgX g ub zb w':=⟨h.pw.no f,h.ua,h.un,h.za,h.zn,h.fn.fr f (λ_ _ x=>x),h.sz.fr f (λ_ _ x=>x),h.lf,h.lz,h.fewf,h.pars,h.body⟩
theorem xP {b:Nat}{xs:List Value}{v:Value} (h:Own w t 1 (b,n,c) n xs) (hx:xs[x]?=some v) (hl:x<n):w.cell? (b,x)=some v:=by
 obtain⟨b',e,hc⟩:=h.some (by omega);injection e with e;injection e with e;subst e;exact hc x v hx
theorem PgX.fnc (h:PgX g ub zb w) (hx:g.p.fn[x]?=some k):w.cell? (ub,x)=k:=
 xP h.fn (by unfold ints;rw[List.getElem?_map,hx];rfl) (by rw[<-h.lf];exact (gK hx))
end
section
variable {g:PgV}{w:World}{ub zb:Nat}
def aGj (g:PgV) (P N F node:Nat) (cs:Array Value):List (Nat×TypeId×Array Value):=
 [(P,29,#[(g.nb,g.p.ns.length,g.nc),(g.fb,g.p.fs.length,g.fc),(g.tb,g.p.ns.length,g.tc),(g.sb,g.p.ns.length,g.sc),.slice g.ua g.un g.uc,.slice g.za g.zn g.zc]),(N,3,#[node]),(F,48,cs)]
theorem Vr.blks {V N F:Nat}{cs:Array Value} (h:Vr w0 V (aGj g P N F node cs) vs w1):
  Blk w1 P 29 #[(g.nb,g.p.ns.length,g.nc),(g.fb,g.p.fs.length,g.fc),(g.tb,g.p.ns.length,g.tc),(g.sb,g.p.ns.length,g.sc),.slice g.ua g.un g.uc,.slice g.za g.zn g.zc]∧Blk w1 N 3 #[node]∧Blk w1 F 48 cs:=
 ⟨(h.rc _ (List.mem_cons_self ..)).1,(h.rc _ (List.mem_cons_of_mem _ (List.mem_cons_self ..))).1,(h.rc _ (List.mem_cons_of_mem _ (List.mem_cons_of_mem _ (List.mem_cons_self ..)))).1⟩
theorem Vr.start {N F:Nat}{cs:Array Value} (f:Fr nob w0 w1) (hP:Blk w1 P 29 #[(g.nb,g.p.ns.length,g.nc),(g.fb,g.p.fs.length,g.fc),(g.tb,g.p.ns.length,g.tc),(g.sb,g.p.ns.length,g.sc),.slice g.ua g.un g.uc,.slice g.za g.zn g.zc]) (hN:Blk w1 N 3 #[node]) (hF:Blk w1 F 48 cs):
   Vr w0 w1.heap.size (aGj g P N F node cs) [] (w1.alloc (.cells #[Un] 58)):=by
 refine⟨f.alloc _,⟨none,0,Blk.new _ _ _,Own.nil _ _ _,λb hb=>by simp[blk] at hb⟩,f.size,λq hq=>?_⟩;unfold aGj at hq;simp only[List.mem_cons,List.not_mem_nil,or_false] at hq;rcases hq with rfl|rfl|rfl
 . exact⟨hP.alloc _,(by decide:(29:Nat)≠62),(by decide:(29:Nat)≠58)⟩
 . exact⟨hN.alloc _,(by decide:(3:Nat)≠62),(by decide:(3:Nat)≠58)⟩
 . exact⟨hF.alloc _,(by decide:(48:Nat)≠62),(by decide:(48:Nat)≠58)⟩
theorem Vr.cell {V:Nat}{RS:List (Nat×TypeId×Array Value)} (h:Vr w0 V RS vs w1):∃A c,w1.cell? (V,0)=some (.slice A vs.length c)∧Own w1 62 3 (.slice A vs.length c) vs.length (aH vs)∧w1.frozen? (V,())=false∧V<w1.heap.size:=by
 obtain⟨A,c,hb,ho,_⟩:=h.vc;exact⟨A,c,(hb.cell 0).trans rfl,ho,hb.frozen 0,hb.lt⟩
theorem zJ (PF:PgX g ub zb w) (hk:g.p.fn[node]?=some k) (hf:g.p.fs[k]?=some f):
  Calls prog 34 #[.agg #[(g.nb,g.p.ns.length,g.nc),(g.fb,g.p.fs.length,g.fc),(g.tb,g.p.ns.length,g.tc),(g.sb,g.p.ns.length,g.sc),.slice g.ua g.un g.uc,.slice g.za g.zn g.zc],node] w λen w'=>∃A n c,en = .returned (.slice A n c)∧n=(tL g.p node f).length∧Own w' 62 3 (.slice A n c) n (aH (tL g.p node f))∧Fr nob w w':=by
 have hn:node<g.p.ns.length:=by rw[<-PF.lf];exact (gK hk)
 have hkf:k<g.p.fs.length:=(gK hf);have hf6:g.p.fs.length<=6:=PF.fewf;have hn3:g.p.ns.length<=300:=PF.pw.few;have hp3:f.params.length<=3:=PF.pars f (List.mem_of_getElem? hf);have HUA:=hD PF.ua;have HUN:=hD PF.un;have hbod:∃nd,g.p.ns[f.body]?=some nd∧nd.kind=18:=by
  exact PF.body f (List.mem_of_getElem? hf)
 have hbl:f.body<g.p.ns.length:=by obtain⟨nd,h,_⟩:=hbod;exact (gK h)
 -- the world behind the two boxes
 have B0:=Blk.new w 29 #[(g.nb,g.p.ns.length,g.nc),(g.fb,g.p.fs.length,g.fc),(g.tb,g.p.ns.length,g.tc),(g.sb,g.p.ns.length,g.sc),.slice g.ua g.un g.uc,.slice g.za g.zn g.zc];have BP:=hD (B0.alloc (.cells #[node] 3));have BN:=hD (show Blk ((w.alloc (.cells #[(g.nb,g.p.ns.length,g.nc),(g.fb,g.p.fs.length,g.fc),(g.tb,g.p.ns.length,g.tc),(g.sb,g.p.ns.length,g.sc),.slice g.ua g.un g.uc,.slice g.za g.zn g.zc] 29)).alloc (.cells #[node] 3)) (w.heap.size+1) 3 #[node] from by
  have:=Blk.new (w.alloc (.cells #[(g.nb,g.p.ns.length,g.nc),(g.fb,g.p.fs.length,g.fc),(g.tb,g.p.ns.length,g.tc),(g.sb,g.p.ns.length,g.sc),.slice g.ua g.un g.uc,.slice g.za g.zn g.zc] 29)) 3 #[node];rw[World.size_alloc] at this;exact this)
 have F1:=hD (((fR w).alloc (.cells #[(g.nb,g.p.ns.length,g.nc),(g.fb,g.p.fs.length,g.fc),(g.tb,g.p.ns.length,g.tc),(g.sb,g.p.ns.length,g.sc),.slice g.ua g.un g.uc,.slice g.za g.zn g.zc] 29)).alloc (.cells #[node] 3));have HPF:=hD PF;have HK:=hD hk;have HF:=hD hf;have HBOD:=hD hbod;have HBL:=hD hbl;clear B0 PF hk hf hbod hbl;go_enter func34,ntmps34;go_upto_region 1 with fail;generalize (w.alloc (.cells #[(g.nb,g.p.ns.length,g.nc),(g.fb,g.p.fs.length,g.fc),(g.tb,g.p.ns.length,g.tc),(g.sb,g.p.ns.length,g.sc),.slice g.ua g.un g.uc,.slice g.za g.zn g.zc] 29)).alloc (.cells #[node] 3)=w1 at *;generalize w.heap.size+1=N at *;generalize w.heap.size=P at *;obtain⟨pv,hpo,d0,d1,d2,d3,d4⟩:=HPF.o.pw.tree.fn HF.o;obtain⟨PA,PC,rfl,hpc,-⟩:=hpo.cap;have u0:=HPF.o.fnc HK.o;have HPO:=hD hpo;obtain⟨p0,p1,p2,p3,p4,p5,-⟩:=BP.o.sixth;have n0:=(BN.o.cell 0).trans rfl;rw[HUA.o,HUN.o] at p4;have hn5:(node:Int)<(g.p.ns.length:Int):=by omega
 have hk5:(k:Int)<(g.p.fs.length:Int):=by omega
 have HK2:=hD (show ∀wx,Fr nob w1 wx->wx.cell? (P,1)=(g.fb,g.p.fs.length,g.fc)∧wx.cell? (P,4)=(ub,g.p.ns.length,g.uc)∧wx.cell? (N,0)=node∧wx.cell? (ub,node)=k∧wx.cell? (g.fb,k*5)=(bs f.name)∧wx.cell? (g.fb,k*5+1)=f.line∧wx.cell? (g.fb,k*5+2)=some (.slice PA f.params.length PC)∧wx.cell? (g.fb,k*5+3)=f.ret∧wx.cell? (g.fb,k*5+4)=f.body from λwx fx=>by
  have c:∀{b o:Nat} {v:Value},w1.cell? (b,o)=some v->wx.cell? (b,o)=some v:=λh=>(fx.cell (World.block_lt_of_cell? _ _ h) (λx=>x)).trans h
  have d:∀{b o:Nat} {v:Value},w.cell? (b,o)=some v->wx.cell? (b,o)=some v:=λh=>((F1.o.tr fx).cell (World.block_lt_of_cell? _ _ h) (λx=>x)).trans h
  exact⟨c p1,c p4,c n0,d u0,d d0,d d1,d d2,d d3,d d4⟩)
 have BP3:=hD ((BP.o.alloc (.cells #[bs f.name,f.line,.slice PA f.params.length PC,f.ret,f.body] 48)).fr ((fR _).drew) (λx=>x));have BN3:=hD ((BN.o.alloc (.cells #[bs f.name,f.line,.slice PA f.params.length PC,f.ret,f.body] 48)).fr ((fR _).drew) (λx=>x));have F3:=hD ((F1.o.alloc (.cells #[bs f.name,f.line,.slice PA f.params.length PC,f.ret,f.body] 48)).tr ((fR _).drew));have BF3:=hD ((Blk.new w1 48 #[bs f.name,f.line,.slice PA f.params.length PC,f.ret,f.body]).fr ((fR _).drew) (λx=>x));clear hpo;go_wp2_with fail
 go_region_held3 (λwx=>wx.cell? (P,1)=(g.fb,g.p.fs.length,g.fc)∧wx.cell? (P,4)=(ub,g.p.ns.length,g.uc)∧wx.cell? (N,0)=node∧wx.cell? (ub,node)=k∧wx.cell? (g.fb,k*5)=(bs f.name)∧wx.cell? (g.fb,k*5+1)=f.line∧wx.cell? (g.fb,k*5+2)=some (.slice PA f.params.length PC)∧wx.cell? (g.fb,k*5+3)=f.ret∧wx.cell? (g.fb,k*5+4)=f.body) (first|exact HK2 _ ((fR w1).drew)|exact HK2 _ (((fR w1).drew).alloc _)) (fail)
 clear HK2 d0 d1 d2 d3 d4 u0 p0 p1 p2 p3 p4 p5 n0 BP BN F1 hn5 hk5;generalize (w1.alloc (.cells #[bs f.name,f.line,.slice PA f.params.length PC,f.ret,f.body] 48)).drew=w3 at *;generalize w1.heap.size=FB at *;have V0:=hD (Vr.start F3 BP3 BN3 BF3);clear BP3 BN3 F3;go_upto_region 3 with fail;generalize w3.alloc (.cells #[Un] 58)=w4 at *;generalize w3.heap.size=V at *;obtain⟨m,hm⟩:∃m,f.params.length=m:=⟨_,rfl⟩;have HM:=hD hm;rw[hm] at V0 HPO BF3 hpc hp3;have q2:=(V0.o.blks.2.2.cell 2).trans rfl;have hpcI:(m:Int)<=(PC:Int):=by omega
 have hp3I:(m:Int)<=3:=by omega
 clear hm BF3;go_wp2
 clear q2;go_loopw [23] (λi wr=>∃j:Nat,j<=m∧i = .int .i64 j∧Hd (Vr w V (aGj g P N FB node #[bs f.name,f.line,.slice PA m PC,f.ret,f.body]) (kX (f.params.take j)) wr) ) (λi _=>m - (intOf i).toNat)
 case atStart=>exact⟨0,aA4 _,rfl,V0⟩
 case round=>
  clear V0;obtain⟨j,hj,rfl,SS⟩:=hrel;by_cases hlt:j<m
  . obtain⟨q,hq⟩:∃q,f.params[j]?=some q:=⟨_,gE (by rw[HM.o];exact hlt)⟩
    obtain⟨vs,hvs⟩:∃vs,kX (f.params.take j)=vs:=⟨_,rfl⟩;have hl:vs.length=j:=by rw[<-hvs,nW,List.length_take];have:=HM.o;omega
    have NX:=hD (show kX (f.params.take (j+1))=vs++[⟨q.1,q.2,j⟩] from by
     rw[List.take_add_one,hq]
     show kX (f.params.take j++[q])=_
     rw[sD,hvs,List.length_take,Nat.min_eq_left (by have:=HM.o;omega)])
    rw[hvs] at SS;clear hvs;subst hl;obtain⟨pb,e,pc⟩:=(HPO.o.fr SS.o.fr (λ_ _ x=>x)).some (by omega);have q0:=pc _ _ (aP hq).1;have q1:=pc _ _ (aP hq).2;subst e;obtain⟨A,C,v0,hvo,-,-⟩:=SS.o.cell;have hlt2:(vs.length:Int)<(m:Int):=by omega
    have hvs3:vs.length<=3:=by omega
    have HJ:=hD hlt;have HVS:=hD hvs3;have HHV:=hD v0;have HV:=hD ((hvo.alloc (.cells #[bs q.1,q.2] 101)).alloc (.cells #[bs q.1,q.2,vs.length] 62));have HR:=hD (Rd.eZ (n:=1) (size:=3) (cs:=[bs q.1,q.2,vs.length]) (Blk.new (wr.alloc (.cells #[bs q.1,q.2] 101)) 62 [.string (bs q.1),.int .i64 (q.2:Nat),.int .i64 (vs.length:Nat)].toArray) rfl (by decide));have v0b:(wr.alloc (.cells #[bs q.1,q.2] 101)).cell? (V,0)=some (.slice A vs.length C):=((fR wr).alloc _).cell (World.block_lt_of_cell? _ _ v0) (λx=>x) |>.trans v0;clear hq pc hvo hlt hj v0;go_wp2_with (at_builtin;revert HJ)
    intro HJ;rw[World.size_alloc] at HR;refine aL (v:= .slice A vs.length C) (n:=vs.length) (m:=1) (xs:=aH vs) (news:=[bs q.1,q.2,vs.length]) rfl _ _ rfl qJ rfl rfl HV HR (by simp[Value.oneCell']) (by have:=HVS.o;omega) (by unfold maxLen;have:=HVS.o;omega) ?_;intro A6 c6 w6 ho6 hf6 hv6;obtain⟨av,f0,vlt,c0,-⟩:=SS.o.app (v:=⟨q.1,q.2,vs.length⟩) HHV (((fR wr).alloc (.cells #[bs q.1,q.2] 101)).alloc (.cells #[bs q.1,q.2,vs.length] 62)) ho6 hf6 hv6;have AV:=hD av;clear av ho6 hf6 hv6 SS HV HR q0 q1 v0b hvs3;go_wp2
    go_roundw
    case rel=>exact⟨vs.length+1,by have:=HJ.o;omega,by go_num,by rw[NX.o];exact AV⟩
    case measure=>simp[intOf];have:=HJ.o;omega
  . have hjm:j=m:=by omega
    subst hjm;have hlt2:¬(j:Int)<(j:Int):=by omega
    have SS2:=hD (show Vr w V (aGj g P N FB node #[bs f.name,f.line,.slice PA j PC,f.ret,f.body]) (kX f.params) wr from by have:=SS.o;rw[aA5 (Nat.le_of_eq HM.o)] at this;exact this);clear SS hlt hj;go_upto_region 9 with fail;have F5:=hD ((fR wr).alloc (.cells #[.nilFunc] 74));have B5:=hD (Blk.new wr 74 #[.nilFunc]);have hw:=aA1 wr.heap.size;generalize hFN:wr.heap.size=FN at *;generalize wr.alloc (.cells #[.nilFunc] 74)=w5 at *;have F6:Hd (Fr nob wr (w5.setCell (FN,()) (.func (.func 63) #[] (qX V P N FN)))):=F5.o.trans ((Fr.refl (bY FN) w5).setCell _ _ (λ_=>rfl)) (λ_ _ x=>x) (λb hlt hm=>by have hm:b=FN:=hm;omega);have B6:Hd (Blk (w5.setCell (FN,()) (.func (.func 63) #[] (qX V P N FN))) FN 74 #[.func (.func 63) #[] (qX V P N FN)]):=B5.o.setCell 0 _;have W6:=hD (show Vw g w V P N FN node (kX f.params) (w5.setCell (FN,()) (.func (.func 63) #[] (qX V P N FN))) from ⟨(SS2.o.no F6).fr,(SS2.o.no F6).vc,(SS2.o.no F6).hV,(SS2.o.no F6).blks.1,(SS2.o.no F6).blks.2.1,B6⟩);have BF6:=hD (SS2.o.no F6).blks.2.2;have hmf:∀(fn:Fn) (first cap:Array Value) (w:World),(Instr.makeFunc fn first cap).run prog w = .ok (.func fn first cap) w:=λ_ _ _ _=>rfl
    have g0:=(B5.o.cell 0).trans rfl;have g1:=B5.o.frozen 0;have g2:=B5.o.lt;clear F5 B5 hFN SS2 hw F6;have HV:=hD (aBq HPF.o.pw g.p.ns.length f.body (kX f.params) _ HBL HBOD (by rw[nW];have:=HM.o;omega) W6);clear W6;go_upto_region 10 with fail;unfold qX at HV BF6 B6;generalize w5.setCell (FN,()) (.func (.func 63) #[] #[(V,()),(P,()),(N,()),(FN,())])=w6 at *;have r0:=(B6.o.cell 0).trans rfl;have r4:=(BF6.o.cell 4).trans rfl;clear B6 BF6 g0 g1 g2 hmf;go_wp2_with fail
    clear r0 r4;refine HV.o.mono ?_;rintro en w7 ⟨rfl,h7⟩;obtain⟨bb,hbb⟩:∃bb,(kY g.p.ns g.p.types g.p.slots node g.p.ns.length f.body (kX f.params)).1=bb:=⟨_,rfl⟩;rw[hbb];have HBB:=hD hbb;have W7:=hD h7;clear h7 hbb HV;cases bb with
    | true=>
     obtain⟨vs,hvs⟩:∃vs,(kY g.p.ns g.p.types g.p.slots node g.p.ns.length f.body (kX f.params)).2=vs:=⟨_,rfl⟩;have HE:=hD (show tL g.p node f=vs from by unfold tL;rw[HBB.o,if_pos rfl,hvs]);rw[hvs] at W7;clear hvs;obtain⟨-,-,-,-,-,A,C,d5,ho,-,-⟩:=W7.o.cells;have HO:=hD ho;clear ho;go_wp2
     go_ret;rw[HE.o];exact⟨A,vs.length,C,rfl,rfl,HO,W7.o.fr⟩
    | false=>
     have HE:=hD (show tL g.p node f=[] from by unfold tL;rw[HBB.o,if_neg (by decide)]);go_wp2
     go_ret;rw[HE.o];exact⟨none,0,0,rfl,rfl,Own.nil _ _ _,W7.o.fr⟩
end
theorem aQt {g:PgV} (hi:nC g.p){y:Nat} (hk:Kid (g.p.ns.take x) mM y):y<x∧∃nd,g.p.ns[y]?=some nd∧StV g.p y nd:=by
 obtain⟨hlt,c,hc1,hc2⟩:=hk.take;refine⟨hlt,c,hc1,?_⟩;have hy:y<g.p.ns.length:=(gK hc1);have hok:=hi.tree.ok.nodes y c hc1;have kb:∀{b:Nat},Kid (g.p.ns.take y) pO b->b<y∧∃nd,g.p.ns[b]?=some nd∧nd.kind=18:=λ{b} hb=>by
  obtain⟨h1,d,hd1,hd2⟩:=hb.take;exact⟨h1,d,hd1,by simpa[pO] using hd2⟩
 cases hok with
 | let_ line nm a ha=>
  obtain⟨k,v,_,_,_,hs,_⟩:=aGu hi hc1 rfl;have hlt:=ha.take.1;obtain⟨t,ht⟩:∃t,g.p.types[a]?=some t:=⟨_,gE (by have:=hi.lt;omega)⟩;exact .let_ line nm a t v ht hs (by omega)
 | if2 line a b ha hb=>exact .test 15 line a [b] (.inl rfl) (λc hc=>by rw[List.mem_singleton.1 hc];exact kb hb) (by simp) (by simp)
 | if3 line a b d ha hb hd=>exact .test 15 line a [b,d] (.inl rfl) (λc hc=>by
   rcases List.mem_cons.1 hc with e|hc
   . rw[e];exact kb hb
   . rw[List.mem_singleton.1 hc];exact kb hd) (by simp) (by simp)
 | loop line a b ha hb=>exact .test 16 line a [b] (.inr rfl) (λc hc=>by rw[List.mem_singleton.1 hc];exact kb hb) (by simp) (by simp)
 | set line nm a ha=>exact .other _ (by simp) (by simp) (by simp)
 | put line nm a b ha hb=>exact .other _ (by simp) (by simp) (by simp)
 | do_ line a ha=>exact .other _ (by simp) (by simp) (by simp)
 | print line a ha=>exact .other _ (by simp) (by simp) (by simp)
 | ret0 line=>exact .other _ (by simp) (by simp) (by simp)
 | ret1 line a ha=>exact .other _ (by simp) (by simp) (by simp)
 | _=>simp[mM] at hc2
theorem PgF.toX {g:PgV}{ub zb:Nat} (h:PgF g ub zb w):PgX g ub zb w:=by
 have hi:=h.pg.is;refine⟨⟨hi.tree.ok.few,h.pg.tree,h.pg.types,h.pg.slots,λx nd hx hk=>?_⟩,h.ua,h.un,h.za,h.zn,h.fn,h.sz,hi.lf,rE hi,hi.tree.ok.fewf,hi.tree.ok.pars,λf hf=>?_⟩
 . have h3:=hi.tree.rows nd (List.mem_of_getElem? hx)
   have hok:=hi.tree.ok.nodes x nd hx;cases hok with
   | block line l hl=>exact⟨line,l,rfl,h3,λy hy=>aQt hi (hl y hy)⟩
   | _=>simp at hk
 . obtain⟨c,h1,h2⟩:=hi.tree.ok.bodies f hf
   exact⟨c,h1,by simpa[pO] using h2⟩
abbrev prV (g:PgV):Value:= .agg #[(g.nb,g.p.ns.length,g.nc),(g.fb,g.p.fs.length,g.fc),(g.tb,g.p.ns.length,g.tc),(g.sb,g.p.ns.length,g.sc),.slice g.ua g.un g.uc,.slice g.za g.zn g.zc]
def InV (w:World) (r:Bool×List bT) (en:Ending) (w':World):Prop:=
 Fr nob w w'∧∃A n c,en = .returned (.tuple #[.slice A n c,r.1])∧(r.1=true->n=r.2.length∧Rd w' 3 (.slice A n c) n (aH r.2))
theorem kZ (l:List bT):∀u∈aH l,u.oneCell'=true:=by
 intro u hu;unfold aH at hu;obtain⟨v,_,hu⟩:=List.mem_flatMap.1 hu;simp only[List.mem_cons,List.not_mem_nil,or_false] at hu;rcases hu with rfl|rfl|rfl<;>rfl
theorem rC {P:Program}{e size bytes m Z:Nat}{z src:Value}{news:List Value}{o:Oper}{a:Act}{K:Act->World->Prop}{Q:Exit->Act->World->Prop}{ops:Array Oper}{E:Prop} (hgd:o.guard=none) (s x:Operand) (ho:o.op = .call { callee:= .builtin .append,args:=#[s,x],argTypes:=#[t,t] }) (T:wY P t e size bytes z)
   (hs:a.eval s = .slice (some (Z,())) 0 0) (hx:a.eval x=src) (hrd:Rd w size src m news) (h1:∀u∈news,u.oneCell'=true) (hb:m*bytes<=140737488355328) (hm:m<=maxLen)
   (h:∀A' c' w',Own w' e size (.slice A' m c') m news->Fr nob w w'->(∀b,blk (.slice A' m c')=some b->w.heap.size<=b)->K (a.put o.dst (.slice A' m c')) w'):
   if Region.wanted o (yielded ops a.tmps)=true then Oper.wp P o a w K Q else E:=by
 refine step_append hgd s x ho T hs hx (n:=0) (xs:=[]) (Own.empty _ _ _ _) hrd h1 (by rw[Nat.zero_add];exact hb) (by omega) λA' c' w' ho hf hv=>?_
 rw[Nat.zero_add,List.nil_append] at ho;rw[Nat.zero_add] at hv ⊢;refine h A' c' w' ho (hf.mono (λb _ hb=>by simp[obl,blk] at hb)) λb hb=>?_
 rcases hv with e|e
 . rw[e] at hb;simp[blk] at hb
 . rw[e] at hb;injection hb with hb;omega
section
variable {g:PgV}{w0 w:World}{node:Nat}{vs:List bT}{rec:Nat->List bT->Bool×List bT}
theorem gU (h:Blk w P 29 #[(g.nb,g.p.ns.length,g.nc),(g.fb,g.p.fs.length,g.fc),(g.tb,g.p.ns.length,g.tc),(g.sb,g.p.ns.length,g.sc),.slice g.ua g.un g.uc,.slice g.za g.zn g.zc]):
  w.cell? (P,0)=(g.nb,g.p.ns.length,g.nc)∧w.cell? (P,1)=(g.fb,g.p.fs.length,g.fc)∧w.cell? (P,2)=(g.tb,g.p.ns.length,g.tc)∧w.cell? (P,3)=(g.sb,g.p.ns.length,g.sc)∧w.cell? (P,4)=some (.slice g.ua g.un g.uc)∧w.cell? (P,5)=some (.slice g.za g.zn g.zc):=
 ⟨(h.cell 0).trans rfl,(h.cell 1).trans rfl,(h.cell 2).trans rfl,(h.cell 3).trans rfl,(h.cell 4).trans rfl,(h.cell 5).trans rfl⟩
theorem aPp (PG:PgW g w0){line:Nat} (hx:g.p.ns[x]?=some ⟨18,line,0,[],l⟩) (hl3:l.length<=300) (hvs:vs.length<=190000) (f0:Fr nob w0 w)
  (hrec:∀y v w A c,y<x->(∃nd,g.p.ns[y]?=some nd∧nd.kind=18)->v.length<=vs.length+300->Fr nob w0 w->Rd w 3 (.slice A v.length c) v.length (aH v)->Calls prog 65 #[prV g,y,node,.slice A v.length c] w (InV w (rec y v)))
  (hfix:∀y v,(rec y v).1=false->(rec y v).2=v) (hst:∀y∈l,y<x∧∃nd,g.p.ns[y]?=some nd∧StV g.p y nd) {C:Nat} (h:Rd w 3 (.slice A vs.length C) vs.length (aH vs)):
  Calls prog 65 #[prV g,x,node,.slice A vs.length C] w (InV w (aKz g.p.ns g.p.types g.p.slots node rec l vs)):=by
 have hx5:x<g.p.ns.length:=(gK hx);have hx4:(g.p.ns.length:Int)<=300:=by have:=PG.few;omega
 have hx3:(x:Int)<(g.p.ns.length:Int):=by omega
 have hl4:(l.length:Int)<=300:=by omega
 obtain⟨LA,LC,hlo,-,ncx⟩:=PG.sH hx;have B0:=hD (Blk.new w 29 #[(g.nb,g.p.ns.length,g.nc),(g.fb,g.p.fs.length,g.fc),(g.tb,g.p.ns.length,g.tc),(g.sb,g.p.ns.length,g.sc),.slice g.ua g.un g.uc,.slice g.za g.zn g.zc]);have F0:Hd (Fr nob w (w.alloc (.cells #[(g.nb,g.p.ns.length,g.nc),(g.fb,g.p.fs.length,g.fc),(g.tb,g.p.ns.length,g.tc),(g.sb,g.p.ns.length,g.sc),.slice g.ua g.un g.uc,.slice g.za g.zn g.zc] 29))):=(fR w).alloc _;have G0:=hD (f0.tr F0);have RV:=hD (h.no (by decide) F0);obtain⟨-,-,-,-,n4⟩:=ncx _ G0.o;have HLO:=hD hlo;have HPG:=hD PG;have HREC:=hD hrec;have HFIX:=hD hfix;have HST:=hD hst;have hv3:(vs.length:Int)<=190000:=by omega
 obtain⟨m,hm⟩:∃m,vs.length=m:=⟨_,rfl⟩;have HM:=hD hm;rw[hm] at RV;obtain⟨p0,-⟩:=gU B0.o;dsimp only at n4 HLO;rw[hm];clear ncx hlo h hx hrec hfix hst PG hm f0;go_enter func65,ntmps65;go_upto_region 1 with fail;generalize w.alloc (.cells #[(g.nb,g.p.ns.length,g.nc),(g.fb,g.p.fs.length,g.fc),(g.tb,g.p.ns.length,g.tc),(g.sb,g.p.ns.length,g.sc),.slice g.ua g.un g.uc,.slice g.za g.zn g.zc] 29)=wP at *;generalize w.heap.size=P at *;go_wp2
 clear p0 n4;go_loopw [3,11] (λsv i wr=>∃(j:Nat) (v:List bT) (A:Option Addr) (c:Nat),j<=l.length∧sv = .slice A v.length c∧i = .int .i64 j∧Hd (iN g.p.ns g.p.types g.p.slots node rec l vs=iN g.p.ns g.p.types g.p.slots node rec (l.drop j) v)∧Hd (m<=v.length∧v.length<=m+j)∧Hd (Rd wr 3 (.slice A v.length c) v.length (aH v))∧Hd (Fr nob wP wr)) (λ_ i _=>l.length - (intOf i).toNat)
 case atStart=>exact⟨0,vs,A,C,aA4 _,by rw[HM.o],rfl,hD (by rw[List.drop_zero]),hD (by have:=HM.o;omega),by rw[HM.o];exact RV,hD (Fr.refl _ _)⟩
 case round=>
  clear RV;obtain⟨j,v,A,c,hj,rfl,rfl,EQ,LN,RV,FR⟩:=hrel;by_cases hlt:j<l.length
  . have hlt2:(j:Int)<(l.length:Int):=by omega
    obtain⟨y,hy⟩:∃y,l[j]?=some y:=⟨_,gE hlt⟩;have HD:=hD (show l.drop j=y :: l.drop (j+1) from by
      obtain⟨h1,h2⟩:=List.getElem?_eq_some_iff.1 hy;rw[List.drop_eq_getElem_cons h1,h2])
    obtain⟨hyx,nd,hnd,hs⟩:=HST.o y (List.mem_of_getElem? hy);obtain⟨kb,e9,kc⟩:=(HLO.o.fr (G0.o.tr FR) (λ_ _ x=>x)).some (by omega);subst e9;have k0:=kc j y (by simp[ints,hy]);have EV:=hD (show iN g.p.ns g.p.types g.p.slots node rec l vs=iN g.p.ns g.p.types g.p.slots node rec (y :: l.drop (j+1)) v from by rw[<-HD.o];exact EQ);have HJ:=hD hlt;by_cases hyn:y=node
    . have heb:((y:Int)==(node:Int))=true:=by simp[hyn]
      have HYN:=hD hyn;clear hyn hlt hj hy kc hyx hnd hs;go_wp2
      go_ret2
      rw[lW (EV.o.trans (vR v HYN.o))];exact⟨F0.o.tr FR,_,_,_,rfl,λ_=>⟨rfl,RV⟩⟩
    . have heb:((y:Int)==(node:Int))=false:=by simp;omega
      obtain⟨NA,NC,hno,hnc,ncell⟩:=HPG.o.sH hnd;have hy5:y<g.p.ns.length:=by omega
      have hy3:(y:Int)<(g.p.ns.length:Int):=by omega
      have BPr:=hD (B0.o.fr FR (λx=>x));have GR:=hD (G0.o.tr FR);obtain⟨p0,-⟩:=gU BPr.o;obtain⟨e0,e1,e2,e3,e4⟩:=ncell wr GR.o;have HK2:=hD (show ∀wx,Fr nob wr wx->wx.cell? (P,0)=(g.nb,g.p.ns.length,g.nc)∧wx.cell? (kb,j)=y∧wx.cell? (g.nb,y*5)=nd.kind∧wx.cell? (g.nb,y*5+1)=nd.line∧wx.cell? (g.nb,y*5+2)=nd.n∧wx.cell? (g.nb,y*5+3)=(bs nd.name)∧wx.cell? (g.nb,y*5+4)=some (.slice NA nd.l.length NC) from λwx fx=>by
       have c:∀{b o:Nat} {v:Value},wr.cell? (b,o)=some v->wx.cell? (b,o)=some v:=λh=>(fx.cell (World.block_lt_of_cell? _ _ h) (λx=>x)).trans h
       exact⟨c p0,c k0,c e0,c e1,c e2,c e3,c e4⟩)
      have BN:=hD ((Blk.new wr 50 #[nd.kind,nd.line,nd.n,bs nd.name,.slice NA nd.l.length NC]).fr ((fR _).drew) (λx=>x));have F6:Hd (Fr nob wr (wr.alloc (.cells #[nd.kind,nd.line,nd.n,bs nd.name,.slice NA nd.l.length NC] 50)).drew):=((fR wr).alloc _).drew;have R6:=hD (RV.o.no (by decide) F6);have B6:=hD (BPr.o.fr F6 (λx=>x));have G6:=hD (GR.o.tr F6);have P6:=hD (FR.o.tr F6);have HNO:=hD hno;have HND:=hD hnd;have HYX:=hD hyx;have HSV:=hD hs;have HYN:=hD hyn;have kcI:=hD (show ∀wx,Fr nob wr wx->wx.cell? (kb,j)=y from λwx fx=>(HK2 wx fx).2.1);have K6:=hD (kcI.o _ F6);have hlv:v.length<=190300:=by have:=LN.o;have:=HM.o;omega
      clear hy hlt hj hyx hnd hs ncell hno kc EQ HD hyn RV FR BPr GR p0 e0 e1 e2 e3 e4;go_wp2_with fail
      go_region_held3 (λwx=>wx.cell? (P,0)=(g.nb,g.p.ns.length,g.nc)∧wx.cell? (kb,j)=y∧wx.cell? (g.nb,y*5)=nd.kind∧wx.cell? (g.nb,y*5+1)=nd.line∧wx.cell? (g.nb,y*5+2)=nd.n∧wx.cell? (g.nb,y*5+3)=(bs nd.name)∧wx.cell? (g.nb,y*5+4)=some (.slice NA nd.l.length NC)) (first|exact HK2 _ ((fR wr).drew)|exact HK2 _ (((fR wr).drew).alloc _)) (fail)
      clear HK2 k0 heb kcI;generalize (wr.alloc (.cells #[nd.kind,nd.line,nd.n,bs nd.name,.slice NA nd.l.length NC] 50)).drew=w6 at *;generalize wr.heap.size=T at *;have d0:w6.cell? (T,0)=nd.kind:=(BN.o.cell 0).trans rfl;cases HSV.o with
      | let_ line nm a t k ht hk ha=>
       have EV2:=hD (EV.o.trans (vQ v HYN HND ht hk));obtain⟨ab,e9,nc0⟩:=(HNO.o.fr G6 (λ_ _ x=>x)).some (by simp);subst e9;have a0:=nc0 0 a rfl;obtain⟨tb',e9,tc0⟩:=(HPG.o.types.fr G6 (λ_ _ x=>x)).some (by omega);injection e9 with e9;injection e9 with e9;subst e9;have t0:=tc0 a t (by simp[ints,ht]);obtain⟨sb',e9,sc0⟩:=(HPG.o.slots.fr G6 (λ_ _ x=>x)).some (by omega);injection e9 with e9;injection e9 with e9;subst e9;have s0:=sc0 y k (by simp[eH,hk]);obtain⟨-,-,p2,p3,-,-⟩:=gU B6.o;have ha3:(a:Int)<(g.p.ns.length:Int):=by omega
       have hnc1:1<=NC:=hnc;have HK9:=hD (show ∀wx,Fr nob w6 wx->wx.cell? (T,3)=(bs nm)∧wx.cell? (T,4)=(ab,1,NC)∧wx.cell? (P,2)=(g.tb,g.p.ns.length,g.tc)∧wx.cell? (P,3)=(g.sb,g.p.ns.length,g.sc)∧wx.cell? (ab,0)=a∧wx.cell? (g.tb,a)=t∧wx.cell? (kb,j)=y∧wx.cell? (g.sb,y)=k from λwx fx=>by
        have c:∀{b o:Nat} {v:Value},w6.cell? (b,o)=some v->wx.cell? (b,o)=some v:=λh=>(fx.cell (World.block_lt_of_cell? _ _ h) (λx=>x)).trans h
        exact⟨c ((BN.o.cell 3).trans rfl),c ((BN.o.cell 4).trans rfl),c p2,c p3,c a0,c t0,c K6,c s0⟩)
       have HR:=hD (λ(wx:World)=>Rd.eZ (n:=1) (size:=3) (cs:=[bs nm,t,k]) (Blk.new wx 62 [.string (bs nm),.int .i64 (t:Nat),.int .i64 (k:Nat)].toArray) rfl (by decide));have W1:Hd (Fr nob w6 (w6.alloc (.cells #[] 62)).drew):=((fR w6).alloc _).drew;have W2:Hd (Fr nob w6 ((w6.alloc (.cells #[] 62)).alloc (.cells #[bs nm,t,k] 62)).drew):=(((fR w6).alloc _).alloc _).drew;have W3:Hd (Fr nob w6 ((w6.alloc (.cells #[bs nm,t,k] 62)).alloc (.cells #[] 62)).drew):=(((fR w6).alloc _).alloc _).drew;have N2:=hD (Rd.no (HR (w6.alloc (.cells #[] 62))) (by decide) ((fR _).drew));have N3:=hD (Rd.no (HR w6) (by decide) (((fR _).alloc (.cells #[] 62)).drew));rw[World.size_alloc] at N2;have D1:=hD (R6.o.no (by decide) W1);have D2:=hD (R6.o.no (by decide) W2);have D3:=hD (R6.o.no (by decide) W3);clear nc0 tc0 sc0 ht hk a0 t0 s0 p2 p3 ha hnc;go_wp2_with fail
       go_region_held3 (λwx=>wx.cell? (T,3)=(bs nm)∧wx.cell? (T,4)=(ab,1,NC)∧wx.cell? (P,2)=(g.tb,g.p.ns.length,g.tc)∧wx.cell? (P,3)=(g.sb,g.p.ns.length,g.sc)∧wx.cell? (ab,0)=a∧wx.cell? (g.tb,a)=t∧wx.cell? (kb,j)=y∧wx.cell? (g.sb,y)=k) (first|exact HK9 _ ((fR w6).drew)|exact HK9 _ (((fR w6).drew).alloc _)|exact HK9 _ ((((fR w6).drew).alloc _).alloc _)|exact K7.o|exact K8.o|exact K9) (first
        | ((refine rC (m:=v.length) (news:=aH v) rfl _ _ rfl qJ rfl rfl D1 (kZ _) (by omega) (by unfold maxLen;omega) ?_);go_loud (intro A7 c7 w7 ho hf hv);go_loud (have F7:=hD (W1.o.tr hf));go_loud (have K7:=hD (HK9 _ F7));go_loud (have NV7:=hD (λb hb=>Nat.le_trans W1.o.size (hv b hb)));go_loud (have F8:=hD (F7.o.alloc (.cells #[bs nm,t,k] 62)));go_loud (have K8:=hD (HK9 _ F8));go_loud (have HV8:=hD (ho.alloc (.cells #[bs nm,t,k] 62)));go_loud (have RN8:=hD (HR w7));go_loud (clear ho hf hv))
        | ((refine rC (m:=v.length) (news:=aH v) rfl _ _ rfl qJ rfl rfl D2 (kZ _) (by omega) (by unfold maxLen;omega) ?_);go_loud (intro A7 c7 w7 ho hf hv);go_loud (have F7:=hD (W2.o.tr hf));go_loud (have K7:=hD (HK9 _ F7));go_loud (have NV7:=hD (λb hb=>Nat.le_trans W2.o.size (hv b hb)));go_loud (have F8:=hD F7);go_loud (have K8:=hD K7);go_loud (have HV8:=hD ho);go_loud (have RN8:=hD (N2.o.no (by decide) hf));go_loud (clear ho hf hv))
        | ((refine rC (m:=v.length) (news:=aH v) rfl _ _ rfl qJ rfl rfl D3 (kZ _) (by omega) (by unfold maxLen;omega) ?_);go_loud (intro A7 c7 w7 ho hf hv);go_loud (have F7:=hD (W3.o.tr hf));go_loud (have K7:=hD (HK9 _ F7));go_loud (have NV7:=hD (λb hb=>Nat.le_trans W3.o.size (hv b hb)));go_loud (have F8:=hD F7);go_loud (have K8:=hD K7);go_loud (have HV8:=hD ho);go_loud (have RN8:=hD (N3.o.no (by decide) hf));go_loud (clear ho hf hv))
        | ((refine step_append (v:= .slice A7 v.length c7) (n:=v.length) (m:=1) (xs:=aH v) (news:=[bs nm,t,k]) rfl _ _ rfl qJ rfl rfl HV8 RN8 (by simp[Value.oneCell']) (by omega) (by unfold maxLen;omega) ?_);go_loud (intro A9 c9 w9 ho9 hf9 hv9);go_loud (have F9:=hD (F8.o.trans hf9 (λ_ _ x=>x) (λb hlt hb=>by have:=NV7.o b hb;omega)));go_loud (have K9:=hD (HK9 _ F9));go_loud (have HV9:=hD ho9.rd);go_loud (clear ho9 hf9 hv9 K7 K8 HV8 RN8 NV7 F7 F8)))
       all_goals
        obtain⟨-,q4,-⟩:=K9.o;clear K9 d0 HK9 BN K6 B6;go_wp2
        go_loopw [13] (λkv wq=>kv = .int .i64 1∧wq=w9) (λ_ _=>0)
        case atStart=>exact⟨rfl,rfl⟩
        case round=>
          obtain⟨rfl,e⟩:=hrel;rw[e];go_wp2
          go_roundw
          case rel=>exact⟨j+1,v++[⟨nm,t,k⟩],A9,c9,by have:=HJ.o;omega,by rw[aA3,List.length_singleton],by go_num,EV2,hD (by rw[aA3,List.length_singleton];have:=LN.o;omega),hD (by rw[aA3,List.length_singleton,fH];exact HV9),hD (P6.o.tr F9)⟩
          case measure=>simp[intOf];have:=HJ.o;omega
      | test kind line a q hk hb hq3 hq0=>
       have EV2:=hD (EV.o.trans (nM v HYN hk HND));obtain⟨ab,e9,-⟩:=(HNO.o.fr G6 (λ_ _ x=>x)).some (by simp);subst e9;obtain⟨n,hn⟩:∃n,q.length=n:=⟨_,rfl⟩;have hn2:(a :: q).length=n+1:=by rw[<-hn];rfl
       have d4:w6.cell? (T,4)=(ab,(a :: q).length,NC):=(BN.o.cell 4).trans rfl;rw[hn2] at d4 hnc;have HB:=hD hb;have HN:=hD hn;have hn3:(n:Int)<=300:=by omega
       have hnc2:((n+1:Nat):Int)<=(NC:Int):=by omega
       have D0:=hD d0;have D4:=hD d4;clear hb hn hn2 hq3 hq0 K6 EV hnc;rcases hk with rfl|rfl
       all_goals
        go_wp2
        go_loopw [13] (λkv wq=>∃t:Nat,1<=t∧t<=n+1∧kv = .int .i64 t∧Hd (kW rec q v=kW rec (q.drop (t - 1)) v)∧Hd (Fr nob w6 wq)) (λkv _=>n+1 - (intOf kv).toNat)
        case atStart=>exact⟨1,aA1 _,by omega,rfl,hD (by simp),hD (Fr.refl _ _)⟩
        case round=>
          obtain⟨t,ht1,ht,rfl,EA,FQ⟩:=hrel;have cw:∀{b o:Nat} {v:Value},w6.cell? (b,o)=some v->wr.cell? (b,o)=some v:=λh=>(FQ.o.cell (World.block_lt_of_cell? _ _ h) (λx=>x)).trans h
          have q0:=cw D0.o;have q4:=cw D4.o;by_cases hlt:t<n+1
          . have hlt3:(t:Int)<(n:Int)+1:=by omega
            have hlt4:(t:Int)<((n+1:Nat):Int):=by omega
            obtain⟨b,hb⟩:∃b,q[t - 1]?=some b:=⟨_,gE (by have:=HN.o;omega)⟩;have HD:=hD (show q.drop (t - 1)=b :: q.drop (t+1 - 1) from by
             obtain⟨h1,h2⟩:=List.getElem?_eq_some_iff.1 hb;rw[List.drop_eq_getElem_cons h1,h2,show t - 1+1=t+1 - 1 by omega])
            obtain⟨ab',e9,nc1⟩:=(HNO.o.fr (G6.o.tr FQ) (λ_ _ x=>x)).some (by simp);injection e9 with e9;injection e9 with e9;subst e9;have k1:=nc1 t b (by
             obtain⟨t',rfl⟩:∃t',t=t'+1:=⟨t - 1,by omega⟩
             show (List.map (λx:Nat=>Value.int .i64 (x:Nat)) q)[t']?=_
             rw[List.getElem?_map,show q[t']?=some b from hb];rfl)
            have BQ:=gU (B6.o.fr FQ (λx=>x));have HK9:=hD (show ∀wx,Fr nob wr wx->wx.cell? (P,0)=(g.nb,g.p.ns.length,g.nc)∧wx.cell? (P,1)=(g.fb,g.p.fs.length,g.fc)∧wx.cell? (P,2)=(g.tb,g.p.ns.length,g.tc)∧wx.cell? (P,3)=(g.sb,g.p.ns.length,g.sc)∧wx.cell? (P,4)=some (.slice g.ua g.un g.uc)∧wx.cell? (P,5)=some (.slice g.za g.zn g.zc)∧wx.cell? (T,4)=(ab,n+1,NC)∧wx.cell? (ab,t)=b from λwx fx=>by
             have d:∀{b o:Nat} {v:Value},wr.cell? (b,o)=some v->wx.cell? (b,o)=some v:=λh=>(fx.cell (World.block_lt_of_cell? _ _ h) (λx=>x)).trans h
             exact⟨d BQ.1,d BQ.2.1,d BQ.2.2.1,d BQ.2.2.2.1,d BQ.2.2.2.2.1,d BQ.2.2.2.2.2,d q4,d k1⟩)
            obtain⟨hby,hbk⟩:=HB.o b (List.mem_of_getElem? hb);have CT:=hD (HREC b v wr.drew A c (by have:=HYX.o;omega) hbk (by have:=LN.o;have:=HM.o;have:=HJ.o;omega) ((G6.o.tr FQ).drew) (R6.o.no (by decide) FQ.o.drew));have HT:=hD (And.intro ht1 hlt);clear hlt ht ht1 hb hby hbk nc1 k1 BQ cw;obtain⟨bb,hbb⟩:∃bb,(rec b v).1=bb:=⟨_,rfl⟩;obtain⟨v2,hv2⟩:∃v2,(rec b v).2=v2:=⟨_,rfl⟩;have HBB:=hD hbb;have HV2:=hD hv2;clear hbb hv2;go_wp2_with fail
            go_region_held3 (λwx=>wx.cell? (P,0)=(g.nb,g.p.ns.length,g.nc)∧wx.cell? (P,1)=(g.fb,g.p.fs.length,g.fc)∧wx.cell? (P,2)=(g.tb,g.p.ns.length,g.tc)∧wx.cell? (P,3)=(g.sb,g.p.ns.length,g.sc)∧wx.cell? (P,4)=some (.slice g.ua g.un g.uc)∧wx.cell? (P,5)=some (.slice g.za g.zn g.zc)∧wx.cell? (T,4)=(ab,n+1,NC)∧wx.cell? (ab,t)=b) (first|exact HK9 _ ((fR wr).drew)|exact K8) (first|(go_at_call 65;go_loud (refine CT.o.mono ?_);go_loud (rintro en w8 ⟨f8,A8,n8,c8,e8,h8⟩);go_loud (rw[HBB.o] at e8 h8);go_loud (rw[HV2.o] at h8);go_loud (subst e8);go_loud (have F8:=hD f8);go_loud (have H8:=hD h8);go_loud (have K8:=hD (HK9 _ ((fR wr).drew.tr f8)));go_loud (clear f8 h8))|fail)
            clear K8 HK9 q0 q4 d0 d4 CT;cases bb with
            | true=>
             go_wp2
             go_ret2
             have e1:kW rec q v=(true,v2):=EA.o.trans (by rw[HD.o];unfold kW;rw[if_pos HBB.o,HV2.o]);rw[lW (EV2.o.trans (by rw[e1];rfl))];exact⟨F0.o.tr (P6.o.tr (FQ.o.tr ((fR wr).drew.tr F8))),_,_,_,rfl,λ_=>H8.o (by simp)⟩
            | false=>
             go_wp2
             go_roundw
             case rel=>
              have hb9:¬(rec b v).1=true:=by rw[HBB.o];decide
              exact⟨t+1,by omega,by have:=HT.o;omega,by go_num,hD (EA.o.trans (by rw[HD.o,kW,if_neg hb9,HFIX.o b v HBB.o])),hD (FQ.o.tr ((fR wr).drew.tr F8))⟩
             case measure=>simp[intOf];have:=HT.o;omega
          . have e9:t=n+1:=by omega
            subst e9;have hlt3:¬((n:Int)+1<(n:Int)+1):=by omega
            have e0:q.drop (n+1 - 1)=[]:=List.drop_eq_nil_of_le (by have:=HN.o;omega);have e1:kW rec q v=(false,v):=by
             have h9:=EA.o;rw[e0,kW] at h9;exact h9
            have EV3:Hd (iN g.p.ns g.p.types g.p.slots node rec l vs=iN g.p.ns g.p.types g.p.slots node rec (l.drop (j+1)) v):=EV2.o.trans (by rw[e1];exact if_neg (by simp));clear hlt ht ht1 EA e1 e0;go_wp2
            go_roundw
            case rel=>exact⟨j+1,v,A,c,by have:=HJ.o;omega,rfl,by go_num,EV3,hD (by have:=LN.o;omega),hD (R6.o.no (by decide) FQ),hD (P6.o.tr FQ)⟩
            case measure=>simp[intOf];have:=HJ.o;omega
      | other _ h0 h1 h2=>
       have EV2:=hD (EV.o.trans (oJ v HYN HND h0 h1 h2));have e0:((nd.kind:Int)==10)=false:=by simp;omega
       have e1:((nd.kind:Int)==15)=false:=by simp;omega
       have e2:((nd.kind:Int)==16)=false:=by simp;omega
       have d4:w6.cell? (T,4)=some (.slice NA nd.l.length NC):=(BN.o.cell 4).trans rfl;clear h0 h1 h2 K6 BN B6;go_wp2
       go_loopw [13] (λkv wq=>kv = .int .i64 1∧wq=w6) (λ_ _=>0)
       case atStart=>exact⟨rfl,rfl⟩
       case round=>
        obtain⟨rfl,e⟩:=hrel;rw[e];by_cases hl1:1<nd.l.length
        case' pos=>
         have hl2:(1:Int)<(nd.l.length:Int):=by omega
        case' neg=>
         have hl2:¬(1:Int)<(nd.l.length:Int):=by omega
        all_goals
         clear hl1;go_wp2
         go_roundw
         case rel=>exact⟨j+1,v,A,c,by have:=HJ.o;omega,rfl,by go_num,EV2,hD (by have:=LN.o;omega),R6,P6⟩
         case measure=>simp[intOf];have:=HJ.o;omega
  . have e9:j=l.length:=by omega
    subst e9;have hlt2:¬(l.length:Int)<(l.length:Int):=by omega
    have EV:=hD (EQ.o.trans (show iN g.p.ns g.p.types g.p.slots node rec (l.drop l.length) v=(false,v) from by rw[List.drop_length];rfl));clear hlt hj EQ;go_wp2
    go_ret2
    rw[pU EV.o];exact⟨F0.o.tr FR,_,_,_,rfl,λh=>by cases h⟩
theorem aOk (PG:PgW g w0):∀(f x:Nat) (vs:List bT) (w:World) (A:Option Addr) (c:Nat),x<f->(∃nd,g.p.ns[x]?=some nd∧nd.kind=18)->vs.length+300*f<=190000->Fr nob w0 w->Rd w 3 (.slice A vs.length c) vs.length (aH vs) ->
  Calls prog 65 #[prV g,x,node,.slice A vs.length c] w (InV w (kY g.p.ns g.p.types g.p.slots node f x vs))
 | 0,x,_,_,_,_,h,_,_,_,_=>absurd h (Nat.not_lt_zero _)
 | f+1,x,vs,w,A,c,hx,⟨nd,hnd,hk⟩,hlen,hf,h=>by
  obtain⟨line,l,rfl,h3,hl⟩:=PG.blocks x nd hnd hk;have e:∀v,kY g.p.ns g.p.types g.p.slots node (f+1) x v=aKz g.p.ns g.p.types g.p.slots node (kY g.p.ns g.p.types g.p.slots node f) l v:=λv=>by
   rw[kY,hnd];rfl
  rw[e];exact aPp PG hnd h3 (by omega) hf (λy v w' A c hy hb hv hw hr=>aOk PG f y v w' A c (by omega) hb (by omega) hw hr) (λy v h=>aBp f y v h) hl h
end
section
variable {g:PgV}{w:World}{ub zb:Nat}
theorem xM (PF:PgX g ub zb w) (hk:g.p.fn[node]?=some k) (hf:g.p.fs[k]?=some f):
  Calls prog 36 #[prV g,node] w λen w'=>Fr nob w w'∧∃A n c,en = .returned (.slice A n c)∧((kY g.p.ns g.p.types g.p.slots node g.p.ns.length f.body (kX f.params)).1=true->n=(kY g.p.ns g.p.types g.p.slots node g.p.ns.length f.body (kX f.params)).2.length∧Rd w' 3 (.slice A n c) n (aH (kY g.p.ns g.p.types g.p.slots node g.p.ns.length f.body (kX f.params)).2)):=by
 have hn:node<g.p.ns.length:=by rw[<-PF.lf];exact (gK hk)
 have hkf:k<g.p.fs.length:=(gK hf);have hf6:g.p.fs.length<=6:=PF.fewf;have hn3:g.p.ns.length<=300:=PF.pw.few;have hp3:f.params.length<=3:=PF.pars f (List.mem_of_getElem? hf);have HUA:=hD PF.ua;have HUN:=hD PF.un;have HBOD:Hd (∃nd,g.p.ns[f.body]?=some nd∧nd.kind=18):=PF.body f (List.mem_of_getElem? hf);have HBL:=hD (show f.body<g.p.ns.length from by obtain⟨nd,h,_⟩:=HBOD.o;exact (gK h));have B0:=hD (Blk.new w 29 #[(g.nb,g.p.ns.length,g.nc),(g.fb,g.p.fs.length,g.fc),(g.tb,g.p.ns.length,g.tc),(g.sb,g.p.ns.length,g.sc),.slice g.ua g.un g.uc,.slice g.za g.zn g.zc]);have F1:Hd (Fr nob w (w.alloc (.cells #[(g.nb,g.p.ns.length,g.nc),(g.fb,g.p.fs.length,g.fc),(g.tb,g.p.ns.length,g.tc),(g.sb,g.p.ns.length,g.sc),.slice g.ua g.un g.uc,.slice g.za g.zn g.zc] 29))):=(fR w).alloc _;have HPF:=hD PF;have HK:=hD hk;have HF:=hD hf;clear PF hk hf;go_enter func36,ntmps36;go_upto_region 1 with fail;generalize w.alloc (.cells #[(g.nb,g.p.ns.length,g.nc),(g.fb,g.p.fs.length,g.fc),(g.tb,g.p.ns.length,g.tc),(g.sb,g.p.ns.length,g.sc),.slice g.ua g.un g.uc,.slice g.za g.zn g.zc] 29)=w1 at *;generalize w.heap.size=P at *;obtain⟨pv,hpo,d0,d1,d2,d3,d4⟩:=HPF.o.pw.tree.fn HF.o;obtain⟨PA,PC,rfl,hpc,-⟩:=hpo.cap;have u0:=HPF.o.fnc HK.o;have HPO:=hD hpo;obtain⟨p0,p1,p2,p3,p4,p5⟩:=gU B0.o;rw[HUA.o,HUN.o] at p4;have hn5:(node:Int)<(g.p.ns.length:Int):=by omega
 have hk5:(k:Int)<(g.p.fs.length:Int):=by omega
 have HK2:=hD (show ∀wx,Fr nob w1 wx->wx.cell? (P,1)=(g.fb,g.p.fs.length,g.fc)∧wx.cell? (P,4)=(ub,g.p.ns.length,g.uc)∧wx.cell? (ub,node)=k∧wx.cell? (g.fb,k*5)=(bs f.name)∧wx.cell? (g.fb,k*5+1)=f.line∧wx.cell? (g.fb,k*5+2)=some (.slice PA f.params.length PC)∧wx.cell? (g.fb,k*5+3)=f.ret∧wx.cell? (g.fb,k*5+4)=f.body from λwx fx=>by
  have c:∀{b o:Nat} {v:Value},w1.cell? (b,o)=some v->wx.cell? (b,o)=some v:=λh=>(fx.cell (World.block_lt_of_cell? _ _ h) (λx=>x)).trans h
  have d:∀{b o:Nat} {v:Value},w.cell? (b,o)=some v->wx.cell? (b,o)=some v:=λh=>((F1.o.tr fx).cell (World.block_lt_of_cell? _ _ h) (λx=>x)).trans h
  exact⟨c p1,c p4,d u0,d d0,d d1,d d2,d d3,d d4⟩)
 have F2:Hd (Fr nob w1 (w1.alloc (.cells #[bs f.name,f.line,.slice PA f.params.length PC,f.ret,f.body] 48)).drew):=((fR w1).alloc _).drew;have BF:=hD ((Blk.new w1 48 #[bs f.name,f.line,.slice PA f.params.length PC,f.ret,f.body]).fr ((fR _).drew) (λx=>x));clear hpo;go_wp2_with fail
 go_region_held3 (λwx=>wx.cell? (P,1)=(g.fb,g.p.fs.length,g.fc)∧wx.cell? (P,4)=(ub,g.p.ns.length,g.uc)∧wx.cell? (ub,node)=k∧wx.cell? (g.fb,k*5)=(bs f.name)∧wx.cell? (g.fb,k*5+1)=f.line∧wx.cell? (g.fb,k*5+2)=some (.slice PA f.params.length PC)∧wx.cell? (g.fb,k*5+3)=f.ret∧wx.cell? (g.fb,k*5+4)=f.body) (first|exact HK2 _ ((fR w1).drew)|exact HK2 _ (((fR w1).drew).alloc _)) (fail)
 clear HK2 d0 d1 d2 d3 d4 u0 p0 p1 p2 p3 p4 p5 hn5 hk5;have B3:=hD (B0.o.fr F2 (λx=>x));have F3:=hD (F1.o.tr F2);clear B0 F1 F2;generalize (w1.alloc (.cells #[bs f.name,f.line,.slice PA f.params.length PC,f.ret,f.body] 48)).drew=w3 at *;generalize w1.heap.size=FB at *;have F4:Hd (Fr nob w3 (w3.alloc (.cells #[] 62))):=(fR w3).alloc _;go_upto_region 3 with fail;have B4:=hD (B3.o.fr F4 (λx=>x));have BF4:=hD (BF.o.fr F4 (λx=>x));have F5:=hD (F3.o.tr F4);have O4:Hd (Own (w3.alloc (.cells #[] 62)) 62 3 (w3.heap.size,0,0) 0 (aH [])):=Own.empty _ _ _ _;have N4:=hD (show ∀b,blk (w3.heap.size,0,0)=some b->w.heap.size<=b from λb hb=>by simp[blk] at hb);clear B3 BF F3 F4;generalize w3.alloc (.cells #[] 62)=w4 at *;obtain⟨Z,hZ⟩:∃Z:Option Addr,Z=(w3.heap.size,()):=⟨_,rfl⟩;rw[<-hZ] at O4 N4 ⊢;clear hZ;obtain⟨m,hm⟩:∃m,f.params.length=m:=⟨_,rfl⟩;have HM:=hD hm;rw[hm] at BF4 HPO hpc hp3;have q2:=(BF4.o.cell 2).trans rfl;have hpcI:(m:Int)<=(PC:Int):=by omega
 have hp3I:(m:Int)<=3:=by omega
 clear hm;go_wp2
 clear q2;go_loopw [6,7] (λsv i wr=>∃(j:Nat) (A:Option Addr) (c:Nat),j<=m∧sv = .slice A j c∧i = .int .i64 j∧Hd (Own wr 62 3 (.slice A j c) j (aH (kX (f.params.take j))))∧Hd (∀b,blk (.slice A j c)=some b->w.heap.size<=b)∧Hd (Fr nob w wr)∧Hd (Blk wr P 29 #[(g.nb,g.p.ns.length,g.nc),(g.fb,g.p.fs.length,g.fc),(g.tb,g.p.ns.length,g.tc),(g.sb,g.p.ns.length,g.sc),.slice g.ua g.un g.uc,.slice g.za g.zn g.zc])∧Hd (Blk wr FB 48 #[bs f.name,f.line,.slice PA m PC,f.ret,f.body])) (λ_ i _=>m - (intOf i).toNat)
 case atStart=>exact⟨0,_,_,aA4 _,rfl,rfl,O4,N4,F5,B4,BF4⟩
 case round=>
  clear O4 N4 F5 B4 BF4;obtain⟨j,A,c,hj,rfl,rfl,OV,NV,FR,BP,BF⟩:=hrel;have q2:=(BF.o.cell 2).trans rfl;by_cases hlt:j<m
  . obtain⟨q,hq⟩:∃q,f.params[j]?=some q:=⟨_,gE (by rw[HM.o];exact hlt)⟩
    have NX:=hD (show kX (f.params.take (j+1))=kX (f.params.take j)++[⟨q.1,q.2,j⟩] from by
     rw[List.take_add_one,hq]
     show kX (f.params.take j++[q])=_
     rw[sD,List.length_take,Nat.min_eq_left (by have:=HM.o;omega)])
    obtain⟨pb,e,pc⟩:=(HPO.o.fr FR (λ_ _ x=>x)).some (by omega);have q0:=pc _ _ (aP hq).1;have q1:=pc _ _ (aP hq).2;subst e;have hlt2:(j:Int)<(m:Int):=by omega
    have HJ:=hD hlt;have HJ3:=hD (show j<=3 by omega);have OW:=hD ((OV.o.alloc (.cells #[bs q.1,q.2,j] 62)).fr ((fR _).drew) (λ_ _ x=>x));have HR:=hD (Rd.eZ (n:=1) (size:=3) (cs:=[bs q.1,q.2,j]) ((Blk.new wr 62 [.string (bs q.1),.int .i64 (q.2:Nat),.int .i64 (j:Nat)].toArray).fr ((fR _).drew) (λx=>x)) rfl (by decide));have HK2:=hD (show ∀wx,Fr nob wr wx->wx.cell? (FB,2)=(pb,m,PC)∧wx.cell? (pb,j*2)=(bs q.1)∧wx.cell? (pb,j*2+1)=q.2 from λwx fx=>by
     have c:∀{b o:Nat} {v:Value},wr.cell? (b,o)=some v->wx.cell? (b,o)=some v:=λh=>(fx.cell (World.block_lt_of_cell? _ _ h) (λx=>x)).trans h
     exact⟨c q2,c q0,c q1⟩)
    have FA:Hd (Fr nob wr (wr.alloc (.cells #[bs q.1,q.2,j] 62)).drew):=((fR wr).alloc _).drew;have ARM:=hD (λ(A6:Option Addr) (c6:Nat) (w6:World) (ho6:Own w6 62 3 (.slice A6 (j+1) c6) (j+1) (aH (kX (f.params.take j))++[.string (bs q.1),.int .i64 (q.2:Nat),.int .i64 (j:Nat)])) (hf6:Fr (obl (blk (.slice A j c))) (wr.alloc (.cells #[bs q.1,q.2,j] 62)).drew w6) (hv6:blk (.slice A6 (j+1) c6)=blk (.slice A j c)∨blk (.slice A6 (j+1) c6)=some (wr.alloc (.cells #[bs q.1,q.2,j] 62)).drew.heap.size)=>
     show (w6.cell? (FB,2)=(pb,m,PC)∧w6.cell? (pb,j*2)=(bs q.1)∧w6.cell? (pb,j*2+1)=q.2)∧Own w6 62 3 (.slice A6 (j+1) c6) (j+1) (aH (kX (f.params.take (j+1))))∧(∀b,blk (.slice A6 (j+1) c6)=some b->w.heap.size<=b)∧Fr nob w w6∧Blk w6 P 29 #[(g.nb,g.p.ns.length,g.nc),(g.fb,g.p.fs.length,g.fc),(g.tb,g.p.ns.length,g.tc),(g.sb,g.p.ns.length,g.sc),.slice g.ua g.un g.uc,.slice g.za g.zn g.zc]∧Blk w6 FB 48 #[bs f.name,f.line,(pb,m,PC),f.ret,f.body] from by
       have p6:=(BP.o.fr FA (λx=>x)).fr hf6 (λhm=>OW.o.aD (BP.o.fr FA (λx=>x)) (by decide) hm);have f6:=(BF.o.fr FA (λx=>x)).fr hf6 (λhm=>OW.o.aD (BF.o.fr FA (λx=>x)) (by decide) hm);have r6:Fr nob w w6:=(FR.o.tr FA).trans hf6 (λ_ _ x=>x) (λb hlt hm=>by have:=NV.o b hm;omega);obtain⟨pb',e,pc⟩:=(HPO.o.fr r6 (λ_ _ x=>x)).some (by have:=HJ.o;omega);injection e with e;injection e with e;subst e;refine⟨⟨(f6.cell 2).trans rfl,pc _ _ (aP hq).1,pc _ _ (aP hq).2⟩,by rw[NX.o,fH];exact ho6,λb hb=>?_,r6,p6,f6⟩;rcases hv6 with e|e
       . exact NV b (e ▸ hb)
       . rw[e] at hb;injection hb with hb
         have:=(FR.o.tr FA).size;omega)
    clear hq pc hlt hj q2 q0 q1 BP BF FR;have q2:=HK2.o wr (Fr.refl _ _);go_wp2_with fail
    go_region_held3 (λwx=>wx.cell? (FB,2)=(pb,m,PC)∧wx.cell? (pb,j*2)=(bs q.1)∧wx.cell? (pb,j*2+1)=q.2) (first|exact HK2 _ ((fR wr).drew)|exact HK2 _ (((fR wr).drew).alloc _)|exact K9.o.1) (first
     | ((refine step_append (v:= .slice A j c) (n:=j) (m:=1) (xs:=aH (kX (f.params.take j))) (news:=[bs q.1,q.2,j]) rfl _ _ rfl qJ rfl rfl OW HR (by simp[Value.oneCell']) (by have:=HJ3.o;omega) (by unfold maxLen;have:=HJ3.o;omega) ?_);go_loud (intro A6 c6 w6 ho6 hf6 hv6);go_loud (have K9:=hD (ARM A6 c6 w6 ho6 hf6 hv6));go_loud (clear ho6 hf6 hv6)))
    obtain⟨-,o6,n6,r6,p6,f6⟩:=K9.o;have O6:=hD o6;have N6:=hD n6;have R6:=hD r6;have P6:=hD p6;have G6:=hD f6;clear ARM K9 o6 n6 r6 p6 f6 q2 HK2 OW HR;go_wp2
    go_roundw
    case rel=>exact⟨j+1,A6,c6,by have:=HJ.o;omega,rfl,by go_num,O6,N6,R6,P6,G6⟩
    case measure=>simp[intOf];have:=HJ.o;omega
  . have e9:j=m:=by omega
    subst e9;have hlt2:¬(j:Int)<(j:Int):=by omega
    obtain⟨p0,p1,p2,p3,p4,p5⟩:=gU BP.o;have q4:=(BF.o.cell 4).trans rfl;have hvl:(kX f.params).length=j:=by rw[nW];exact HM.o
    have ov:=OV.o.rd;rw[<-HM.o,List.take_length] at ov;have CT:=hD (aOk (node:=node) HPF.o.pw g.p.ns.length f.body (kX f.params) wr A c HBL HBOD (by have:=HM.o;omega) FR (by rw[nW];exact ov));rw[hvl] at CT;clear hlt hj ov hvl;go_wp2_with fail
    refine CT.o.mono ?_;rintro en w8 ⟨f8,A8,n8,c8,e8,h8⟩;obtain⟨bb,hbb⟩:∃bb,(kY g.p.ns g.p.types g.p.slots node g.p.ns.length f.body (kX f.params)).1=bb:=⟨_,rfl⟩;rw[hbb] at e8;subst e8;have F8:=hD (FR.o.tr f8);have H8:=hD h8;clear h8 f8 CT;go_wp2
    go_ret;exact⟨F8,A8,n8,c8,rfl,H8⟩
end
theorem aTh (d:Nat) (a:Int) (w:World):(Op.equalIn (d+1) 3 a a).run prog w = .ok true w:=by
 simp[Op.equalIn,go_sem,underlying3]
theorem eqvs (d:Nat) (a:ByteArray) (w:World):(Op.equalIn (d+1) 9 a a).run prog w = .ok true w:=by
 have h:(a==a)=true:=by obtain⟨l⟩:=a;show (l==l)=true;simp
 simp[Op.equalIn,go_sem,underlying9,h]
theorem aSp (d:Nat) (s:ByteArray) (a b:Int) (w:World):(Op.equalIn (d+1+1) 62 (.agg #[s,a,b]) (.agg #[s,a,b])).run prog w = .ok true w:=by
 rw[Op.equalIn];simp[go_sem,underlying62,aTh,eqvs,part]
theorem aPl (s:ByteArray) (a b:Int) (w:World):(binOp BinOp.neq 62 (.agg #[s,a,b]) (.agg #[s,a,b])).run prog w = .ok false w:=by
 have e:(Op.equal 62 (.agg #[s,a,b]) (.agg #[s,a,b])).run prog w = .ok true w:=aSp 9998 s a b w;simp[binOp,go_sem]
 rw[e];rfl
theorem iZ {l:List bT}{j:Nat}{v:bT} (h:l[j]?=some v):(aH l)[j*3]?=(bs v.name)∧(aH l)[j*3+1]?=v.ty∧(aH l)[j*3+2]?=v.slot:=by
 induction l generalizing j with
 | nil=>simp at h
 | cons a l ih=>
  have e:aH (a :: l)=[.string (bs a.name),.int .i64 (a.ty:Nat),.int .i64 (a.slot:Nat)]++aH l:=rfl;cases j with
  | zero=>simp at h;subst h;rw[e];exact⟨rfl,rfl,rfl⟩
  | succ j=>
   rw[List.getElem?_cons_succ] at h;obtain⟨h1,h2,h3⟩:=ih h;rw[e,Nat.succ_mul];exact⟨h1,h2,h3⟩
theorem Rd.var {l:List bT} (h:Rd w 3 (.slice A n c) n (aH l)){j:Nat}{v:bT} (hj:l[j]?=some v) (hn:n=l.length):
  ∃ad:Addr,A=some ad∧ad.spot=none∧w.cell? (ad.block,ad.off+j*3)=(bs v.name)∧w.cell? (ad.block,ad.off+j*3+1)=v.ty∧w.cell? (ad.block,ad.off+j*3+2)=v.slot:=by
 have hjl:=(gK hj);obtain⟨-,A',c',hv,-,-,hc⟩:=h;injection hv with e1 _ e2;subst e1;subst e2;obtain⟨ad,rfl,hs,hc⟩:=hc (by omega);obtain⟨g0,g1,g2⟩:=iZ hj;exact⟨ad,rfl,hs,hc _ _ g0,hc _ _ g1,hc _ _ g2⟩
theorem xL (w:World){B:Option Addr}{d:Nat}{l:List bT} (hn:n=l.length) (hn3:n<=200000) (ha:Rd w 3 (.slice A n c) n (aH l)) (hb:Rd w 3 (.slice B n d) n (aH l)):
  Calls prog 35 #[.slice A n c,.slice B n d] w λe w'=>e = .returned true∧Fr nob w w':=by
 have HN:=hD hn;have HA:=hD ha;have HB:=hD hb;have hc:n<=c:=by obtain⟨_,_,e,h,_⟩:=ha.slice;injection e with _ _ e;omega
 have hd:n<=d:=by obtain⟨_,_,e,h,_⟩:=hb.slice;injection e with _ _ e;omega
 have hn4:(n:Int)<=200000:=by omega
 have c1:((n:Int) != (n:Int))=false:=by simp
 clear hn ha hb;go_enter func35,ntmps35;go_wp2
 clear c1;go_loopw [5] (λi wr=>∃j:Nat,j<=n∧i = .int .i64 j∧Hd (Fr nob w wr)) (λi _=>n - (intOf i).toNat)
 case atStart=>exact⟨0,aA4 _,rfl,hD (Fr.refl _ _)⟩
 case round=>
  obtain⟨j,hj,rfl,F⟩:=hrel;by_cases hlt:j<n
  . obtain⟨x,hx⟩:∃x,l[j]?=some x:=⟨_,gE (by have:=HN.o;omega)⟩
    obtain⟨⟨ia,io,is⟩,ea,sa,y0,y1,y2⟩:=(HA.o.no (by decide) F).var hx HN.o;obtain⟨⟨ib,jo,js⟩,eb,sb,z0,z1,z2⟩:=(HB.o.no (by decide) F).var hx HN.o;dsimp only at sa sb y0 y1 y2 z0 z1 z2;subst sa;subst sb;subst ea;subst eb;have hlt2:(j:Int)<(n:Int):=by omega
    have HJ:=hD hlt;obtain⟨nm,ty,sl⟩:=x;dsimp only at y0 y1 y2 z0 z1 z2;generalize bs nm=SX at *;have hq:=aPl SX (ty:Nat) (sl:Nat);clear hx hlt hj;go_wp2_with fail
    go_quiet (fail)
    go_wp2
    go_roundw
    case rel=>exact⟨j+1,by have:=HJ.o;omega,by go_num,by first|exact F|exact hD (F.o.drewN _)⟩
    case measure=>simp[intOf];have:=HJ.o;omega
  . have hlt2:¬(j:Int)<(n:Int):=by omega
    clear hlt hj;go_wp2
    go_ret;exact⟨rfl,F⟩
structure fG (z:Nat) (vs:List bT):Prop where
 ty:∀v∈vs,1<=v.ty∧v.ty<=4∧v.slot<z
 asc:vs.Pairwise λa b=>a.slot<b.slot
 un:vs.Pairwise λa b=>a.name≠b.name
theorem fG.mono {z':Nat} (h:fG z vs) (hz:z<=z'):fG z' vs:=⟨λv hv=>by have:=h.ty v hv;omega,h.asc,h.un⟩
theorem fG.snoc (h:fG z vs){nm:List UInt8} (ht:1<=t∧t<=4) (hf:(dV vs nm).isSome=false):fG (z+1) (vs++[⟨nm,t,z⟩]):=by
 refine⟨λv hv=>?_,?_,?_⟩
 . rcases List.mem_append.1 hv with hv|hv
   . have:=h.ty v hv;omega
   . rw[List.mem_singleton.1 hv];show 1<=t∧t<=4∧z<z+1;omega
 . rw[List.pairwise_append]
   exact⟨h.asc,List.pairwise_singleton _ _,λa ha b hb=>by rw[List.mem_singleton.1 hb];exact (h.ty a ha).2.2⟩
 . rw[List.pairwise_append]
   refine⟨h.un,List.pairwise_singleton _ _,λa ha b hb=>?_⟩;rw[List.mem_singleton.1 hb];intro e;have e:a.name=nm:=e;unfold dV at hf;have h2:(List.find? (λv=>decide (v.name=nm)) vs).isSome=true:=List.find?_isSome.2 ⟨a,ha,by simpa using e⟩;rw[hf] at h2;cases h2
theorem fG.sub {us:List bT} (h:fG z vs) (hs:us.Sublist vs):fG z us:=⟨λv hv=>h.ty v (hs.subset hv),h.asc.sublist hs,h.un.sublist hs⟩
section
variable {ns:List aF}{fs:List aG}{k a b c d z i:Nat}{s s0 s1 s2 s':CkS}{ex:Nat->CkS->CkR (Nat×CkS)}{bl:Nat->CkS->CkR CkS}{types:List Nat}{slots:List Int}{rec:Nat->List bT->Bool×List bT}
def AgT (types:List Nat) (slots:List Int) (s:CkS) (a b:Nat):Prop:=∀y,a<=y->y<b->types[y]?=s.types[y]?∧slots[y]?=s.slots[y]?
theorem AgT.back {a' b':Nat} (h:AgT types slots s' a b) (t:Turns c d s s') (hc:b'<=c) (ha:a<=a') (hb:b'<=b):AgT types slots s a' b':=λy h1 h2=>by
 obtain⟨e1,e2⟩:=h y (by omega) (by omega);obtain⟨f1,f2,_⟩:=t.oth y (.inl (by omega));exact⟨e1.trans f1,e2.trans f2⟩
theorem AgT.sub {a' b':Nat} (h:AgT types slots s a b) (ha:a<=a') (hb:b'<=b):AgT types slots s a' b':=λy h1 h2=>h y (by omega) (by omega)
theorem Pw.Seg.exprs (hn:aS ns) (h:Seg ns a l b):(∀u∈l,∃nd,ns[u]?=some nd∧kC nd.kind=true)->∀y nd,a<=y->y<b->ns[y]?=some nd->kC nd.kind=true:=by
 induction h with
 | nil a=>intro _ y nd h1 h2;omega
 | cons a x l b nd hx h h2 ih1 ih2=>
  intro hc y ny h3 h4 hy;obtain⟨nd',hx',hk⟩:=hc x (List.mem_cons_self ..);rw[hx] at hx';injection hx' with hx';subst hx';by_cases h5:y<x
  . refine ih1 ?_ y ny h3 h5 hy
    intro u hu;have hN:=hn x nd hx;have kk:∀{u:Nat},Kid (ns.take x) iV u->∃nd,ns[u]?=some nd∧kC nd.kind=true:=λhu=>by
      obtain⟨c,h1,h2⟩:=jL hu;exact⟨c,h1,tY h2⟩
    cases hN<;>simp only[List.mem_cons,List.not_mem_nil,or_false] at hu
    case index k1=>subst hu;exact kk k1
    case len k1=>subst hu;exact kk k1
    case neg k1=>subst hu;exact kk k1
    case not k1=>subst hu;exact kk k1
    case bin k1 k2=>rcases hu with rfl|rfl;exact kk k1;exact kk k2
    case new k1=>subst hu;exact kk k1
    case call k1=>exact kk (k1 u hu)
    all_goals simp[kC,iV] at hk
  . by_cases h6:y=x
    . subst h6;rw[hx] at hy;injection hy with hy;subst hy;exact hk
    . exact ih2 (λu hu=>hc u (List.mem_cons_of_mem _ hu)) y ny (by omega) h4 hy
def IsS (ns:List aF) (i:Nat):Prop:=∃nd,ns[i]?=some nd∧mM nd.kind=true
theorem IsS.aIu (h:IsS ns i) (hn:aS ns) (hs:Seg ns a l b) (hl:∀u∈l,∃nd,ns[u]?=some nd∧kC nd.kind=true):i<a∨b<=i:=by
 obtain⟨nd,h1,h2⟩:=h;by_cases h3:a<=i∧i<b
 . have:=hs.exprs hn hl i nd h3.1 h3.2 h1
   simp[kC,iV,mM] at this h2;omega
 . omega
def BlV (ns:List aF) (fs:List aG) (k i z:Nat) (types:List Nat) (slots:List Int) (bl:Nat->CkS->CkR CkS) (rec:Nat->List bT->Bool×List bT):Prop:=
 ∀x s s' nd a,ns[x]?=some nd->nd.kind=18->Seg ns a nd.l x->fF ns a (x+1) s->dS s->fG s.size s.vars->bl x s = .good s'->AgT types slots s' a (x+1)->s'.size<=z ->
  (a<=i->i<x+1->∃us,rec x s.vars=(true,us)∧fG z us)∧((i<a∨x+1<=i)->rec x s.vars=(false,s.vars))
theorem aKp (hn:aS ns) (hbl:aRw ns fs k bl) (hv:BlV ns fs k i z types slots bl rec):∀{l:List Nat}{a b:Nat}{s s':CkS},Seg ns a l b->(∀x∈l,∃nd,ns[x]?=some nd∧nd.kind=18)->fF ns a b s->dS s->fG s.size s.vars->dX bl l s = .good s'->AgT types slots s' a b->s'.size<=z ->
  (a<=i->i<b->∃us,kW rec l s.vars=(true,us)∧fG z us)∧((i<a∨b<=i)->kW rec l s.vars=(false,s.vars))
 | [],a,b,s,s',h,_,hf,_,_,he,_,_=>by
  have:=aBu h;subst this;exact⟨λh1 h2=>by omega,λ_=>rfl⟩
 | x :: l,a,b,s,s',h,hc,hf,ho,hfi,he,ht,hz=>by
  cases h with
  | cons _ _ _ _ nd hx h h2=>
    unfold dX at he;obtain⟨q,hq,he⟩:=CkR.bind_eq he;obtain⟨nd',hx',hcl⟩:=hc x (List.mem_cons_self ..);rw[hx] at hx';injection hx' with hx';subst hx';have hxb:x+1<=b:=h2.le;have hax:a<=x:=h.le;have fx:=hf.sub (aA1 a) hxb;obtain⟨o1,o2⟩:=hbl x s q nd a hx hcl h fx ho hq;have f2:=(hf.sub (a':=x+1) (by omega) (aA1 _)).turn o1.turns (.inl (aA1 _));have v2:dS q:=ho.up o2 (by rw[o1.size];omega);have l2:∀y∈l,∃nd,ns[y]?=some nd∧nd.kind=18:=λy hy=>hc y (List.mem_cons_of_mem _ hy)
    obtain⟨i1,i2⟩:=lX hn hbl h2 l2 f2 v2 he;have z1:q.size<=s'.size:=by rw[i1.size];omega
    obtain⟨p1,p2⟩:=hv x s q nd a hx hcl h fx ho hfi hq (ht.back i1.turns (aA1 _) (aA1 _) hxb) (by omega);have IH:=aKp hn hbl hv h2 l2 f2 v2 (by rw[o2];exact hfi.mono (by rw[o1.size];omega)) he (ht.sub (by omega) (aA1 _)) hz;rw[o2] at IH;refine⟨λh3 h4=>?_,λh3=>?_⟩
    . by_cases h5:i<x+1
      . obtain⟨us,e,hu⟩:=p1 h3 h5
        exact⟨us,by unfold kW;rw[e,if_pos rfl],hu⟩
      . obtain⟨us,e,hu⟩:=IH.1 (by omega) h4
        exact⟨us,by unfold kW;rw[p2 (by omega),if_neg (by simp)];exact e,hu⟩
    . unfold kW
      rw[p2 (by omega),if_neg (by simp)];exact IH.2 (by omega)
theorem aOw (hn:aS ns) (hex:aQi ns fs k ex) (hbl:aRw ns fs k bl) (hv:BlV ns fs k i z types slots bl rec) (hi:IsS ns i){nd:aF} (hx:ns[x]?=some nd) (hcl:mM nd.kind=true) (hseg:Seg ns a nd.l x) (hf:fF ns a (x+1) s) (ho:dS s) (hfi:fG s.size s.vars)
  (he:fI fs k ex bl x nd s = .good s') (ht:AgT types slots s' a (x+1)) (hz:s'.size<=z):
  fG s'.size s'.vars∧(a<=i->i<x+1->∀l,∃us,iN ns types slots i rec (x :: l) s.vars=(true,us)∧fG z us)∧((i<a∨x+1<=i)->∀l,iN ns types slots i rec (x :: l) s.vars=iN ns types slots i rec l s'.vars):=by
 have hax:=hseg.le;have SO:=zP hn hex hbl hx hcl hseg hf ho he;have hN:=hn x nd hx;have hsz:s.size<=s'.size:=by rw[SO.did.size];omega
 have hit:i=x->∀l,∃us,iN ns types slots i rec (x :: l) s.vars=(true,us)∧fG z us:=λe l=>⟨s.vars,vR s.vars e.symm,hfi.mono (by omega)⟩
 have hE:∀{u:Nat},Kid (ns.take x) iV u->∃nd,ns[u]?=some nd∧kC nd.kind=true:=λhu=>by
  obtain⟨c,h1,h2⟩:=jL hu;exact⟨c,h1,tY h2⟩
 -- what is no let and no test
 have other:(∀u∈nd.l,∃nd,ns[u]?=some nd∧kC nd.kind=true)->nd.kind≠10->nd.kind≠15->nd.kind≠16->s'.vars=s.vars->fG s'.size s'.vars∧(a<=i->i<x+1->∀l,∃us,iN ns types slots i rec (x :: l) s.vars=(true,us)∧fG z us)∧((i<a∨x+1<=i)->∀l,iN ns types slots i rec (x :: l) s.vars=iN ns types slots i rec l s'.vars):=λh1 h2 h3 h4 h5=>by
  rw[h5];refine⟨hfi.mono hsz,λh6 h7=>?_,λh6 l=>?_⟩
  . by_cases e:i=x
    . exact hit e
    . have:=hi.aIu hn hseg h1;omega
  . exact oJ s.vars (by omega) hx h2 h3 h4
 have hfx:fF ns a x s:=hf.sub (aA1 _) (Nat.le_succ _);have T0:Turns x (x+1) s { s with fn:=s.fn.set x k }:=Turns.set _ _ _ _ _ (.inl rfl) (.inl rfl) (.inr ⟨_,rfl⟩);have hf0:fF ns a x { s with fn:=s.fn.set x k }:=hfx.turn T0 (.inr (aA1 _));have hv0:dS { s with fn:=s.fn.set x k }:=ho;have T2:∀v:bT,Turns x (x+1) s { s with fn:=s.fn.set x k,slots:=s.slots.set x (v.slot:Int) }:=λv=>Turns.set _ _ _ _ _ (.inl rfl) (.inr ⟨_,rfl⟩) (.inr ⟨_,rfl⟩)
 -- tests
 have test:∀{u:Nat} {m:List Nat} {r:Nat×CkS},nd.l=u :: m->(nd=⟨nd.kind,nd.line,0,[],u :: m⟩)->(nd.kind=15∨nd.kind=16)->Kid (ns.take x) iV u->(∀y∈m,∃nd,ns[y]?=some nd∧nd.kind=18)->ex u { s with fn:=s.fn.set x k } = .good r->dX bl m r.2 = .good s' ->
    fG s'.size s'.vars∧(a<=i->i<x+1->∀l,∃us,iN ns types slots i rec (x :: l) s.vars=(true,us)∧fG z us)∧((i<a∨x+1<=i)->∀l,iN ns types slots i rec (x :: l) s.vars=iN ns types slots i rec l s'.vars):=λ{u m r} e1 e2 hk hu hm hr he=>by
  rw[e1] at hseg;cases hseg with
  | cons _ _ _ _ n1 hu1 h1 h2=>
    have l1:=h1.le;have l2:=h2.le;have hcu:=lM hu hu1;have o:=hex u _ r.1 r.2 n1 a hu1 (tY hcu) h1 (hf0.sub (aA1 _) l2) hv0 hr;have f2:=(hf0.sub (a':=u+1) (by omega) (aA1 _)).turn o.did.turns (.inl (aA1 _));have v2:=hv0.eq o.vars o.size;obtain⟨i1,i2⟩:=lX hn hbl h2 hm f2 v2 he;have ov:r.2.vars=s.vars:=o.vars;have oz:r.2.size=s.size:=o.size;obtain⟨q1,q2⟩:=aKp hn hbl hv h2 hm f2 v2 (by rw[ov,oz];exact hfi) he (ht.sub (by omega) (by omega)) hz;rw[ov] at q1 q2;have sv:s'.vars=s.vars:=i2.trans ov;rw[sv];have hx2:=hx;rw[e2] at hx2;have ni:=hi.aIu hn (Seg.cons a u [] (u+1) n1 hu1 h1 (.nil _)) (λy hy=>by rw[List.mem_singleton.1 hy];exact hE hu);refine⟨hfi.mono hsz,λh6 h7=>?_,λh6 l=>?_⟩
    . by_cases e:i=x
      . exact hit e
      . obtain⟨us,e3,hus⟩:=q1 (by omega) (by omega)
        exact λl=>⟨us,by rw[nM s.vars (λe4=>e e4.symm) hk hx2,e3,if_pos rfl],hus⟩
    . rw[nM s.vars (by omega) hk hx2,q2 (by omega),if_neg (by simp)]
 cases hN with
 | let_ line y u hu=>
  simp[fI,aGg] at he
  obtain⟨r,hr,he⟩:=CkR.bind_eq he;have hseg0:=hseg;obtain⟨o1,o2,o3,o4,ole⟩:=oK hex hseg hu hf0 hv0 hr;split at he
  . cases he
  . rename_i h0
    split at he
    . cases he
    . rename_i hnf
      split at he
      . cases he
      . injection he with he
        subst he;have o2:r.2.vars=s.vars:=o2;have o3:r.2.size=s.size:=o3;have hlen1:x<r.2.slots.length:=by rw[o1.turns.ls];show x<s.slots.length;rw[hf.ls];have:=hf.hb;omega
        have hux:u<x:=by
          obtain⟨nd,hu2,h1,rfl⟩:=aOy hseg0;exact Nat.lt_succ_self u
        have hau:a<=u:=by
          obtain⟨nd,hu2,h1,_⟩:=aOy hseg0;exact h1.le
        have htu:types[u]?=some r.1:=by
          rw[(ht u hau (by omega)).1]
          show r.2.types[u]?=some r.1
          have:u<r.2.types.length:=by rw[o1.turns.lt];show u<s.types.length;rw[hf.lt];have:=hf.hb;omega
          rw[gE this];rw[List.getD_eq_getElem?_getD,gE this] at o4;exact congrArg some o4
        have hsx:slots[x]?=some (r.2.size:Int):=by
          rw[(ht x hax (by omega)).2];exact List.getElem?_set_self hlen1
        have hfv:(dV s.vars y).isSome=false:=by rw[<-o2];simpa using hnf
        have F2:fG (r.2.size+1) (r.2.vars++[⟨y,r.1,r.2.size⟩]):=by
          rw[o2,o3];exact hfi.snoc ⟨by omega,ole⟩ hfv
        refine⟨F2,λh6 h7=>?_,λh6 l=>?_⟩
        . by_cases e:i=x
          . exact hit e
          . have:=hi.aIu hn hseg0 (λw hw=>by rw[List.mem_singleton.1 hw];exact jL hu);omega
        . rw[vQ s.vars (by omega) hx htu hsx,o2]
 | set line y u hu=>
  simp[fI] at he
  obtain⟨t,htt,he⟩:=CkR.bind_eq he;obtain⟨r,hr,he⟩:=CkR.bind_eq he;obtain⟨v,hv1,rfl⟩:=mI htt;split at he
  . injection he with he
    subst he;obtain⟨o1,o2,o3,o4,ole⟩:=oK hex hseg hu (hfx.turn (T2 v) (.inr (aA1 _))) (ho.eq rfl rfl) hr;exact other (λw hw=>by rw[List.mem_singleton.1 hw];exact jL hu) (by simp) (by simp) (by simp) o2
  . cases he
 | put line y u w hu hw=>
  simp[fI] at he
  obtain⟨t,htt,he⟩:=CkR.bind_eq he;obtain⟨r,hr,he⟩:=CkR.bind_eq he;obtain⟨q,hq,he⟩:=CkR.bind_eq he;obtain⟨v,hv1,rfl⟩:=mI htt;split at he
  . injection he with he
    subst he;obtain⟨o1,o2,o3,o4,o5,o6⟩:=zL hn hex hseg hu hw (hfx.turn (T2 v) (.inr (aA1 _))) (ho.eq rfl rfl) hr hq;exact other (λg hg=>by
      rcases List.mem_cons.1 hg with rfl|hg
      . exact hE hu
      . rw[List.mem_singleton.1 hg];exact hE hw) (by simp) (by simp) (by simp) o2
  . cases he
 | do_ line u hu=>
  simp[fI] at he
  obtain⟨r,hr,he⟩:=CkR.map_eq he;subst he;have hu2:Kid (ns.take x) kC u:=by
    obtain⟨c,hc,hk⟩:=hu;exact⟨c,hc,by simp[aNn] at hk;rw[hk];rfl⟩
  obtain⟨o1,o2,o3,o4,ole⟩:=oK hex hseg hu2 hf0 hv0 hr;exact other (λw hw=>by rw[List.mem_singleton.1 hw];exact jL hu2) (by simp) (by simp) (by simp) o2
 | print line u hu=>
  simp[fI] at he
  obtain⟨r,hr,he⟩:=CkR.bind_eq he;split at he
  . cases he
  . injection he with he
    subst he;obtain⟨o1,o2,o3,o4,o5⟩:=uI hex hseg hu hf0 hv0 hr;exact other (λw hw=>by rw[List.mem_singleton.1 hw];exact hE hu) (by simp) (by simp) (by simp) o2
 | ret0 line=>
  simp[fI,vV] at he
  split at he
  . injection he with he
    subst he;exact other (λw hw=>by cases hw) (by simp) (by simp) (by simp) rfl
  . cases he
 | ret1 line u hu=>
  simp[fI,vV] at he
  split at he
  . cases he
  . obtain⟨r,hr,he⟩:=CkR.bind_eq he
    split at he
    . injection he with he
      subst he;obtain⟨o1,o2,o3,o4,o5⟩:=uI hex hseg hu hf0 hv0 hr;exact other (λw hw=>by rw[List.mem_singleton.1 hw];exact hE hu) (by simp) (by simp) (by simp) o2
    . cases he
 | if2 line u v hu hw=>
  simp[fI] at he
  obtain⟨r,hr,he⟩:=CkR.bind_eq he;split at he
  . exact test rfl rfl (.inl rfl) hu (λy hy=>by rw[List.mem_singleton.1 hy];exact yK hw) hr he
  . cases he
 | if3 line u v w3 hu hw hw3=>
  simp[fI] at he
  obtain⟨r,hr,he⟩:=CkR.bind_eq he;split at he
  . exact test rfl rfl (.inl rfl) hu (λy hy=>by
        rcases List.mem_cons.1 hy with rfl|hy
        . exact yK hw
        . rw[List.mem_singleton.1 hy];exact yK hw3) hr he
  . cases he
 | loop line u v hu hw=>
  simp[fI] at he
  obtain⟨r,hr,he⟩:=CkR.bind_eq he;split at he
  . exact test rfl rfl (.inr rfl) hu (λy hy=>by rw[List.mem_singleton.1 hy];exact yK hw) hr he
  . cases he
 | _=>simp[mM] at hcl
theorem aHa (hn:aS ns) (hi:IsS ns i){st:Nat->CkS->CkR CkS} (hst:∀x s s' nd a,ns[x]?=some nd->mM nd.kind=true->Seg ns a nd.l x->fF ns a (x+1) s->dS s->st x s = .good s'->wX ns fs k a (x+1) s s')
  (hsv:∀x s s' nd a,ns[x]?=some nd->mM nd.kind=true->Seg ns a nd.l x->fF ns a (x+1) s->dS s->fG s.size s.vars->st x s = .good s'->AgT types slots s' a (x+1)->s'.size<=z ->
    fG s'.size s'.vars∧(a<=i->i<x+1->∀l,∃us,iN ns types slots i rec (x :: l) s.vars=(true,us)∧fG z us)∧((i<a∨x+1<=i)->∀l,iN ns types slots i rec (x :: l) s.vars=iN ns types slots i rec l s'.vars)):
  ∀{l:List Nat} {a b:Nat} {s s':CkS},Seg ns a l b->(∀x∈l,∃nd,ns[x]?=some nd∧mM nd.kind=true)->fF ns a b s->dS s->fG s.size s.vars->dX st l s = .good s'->AgT types slots s' a b->s'.size<=z ->
    (a<=i->i<b->∃us,iN ns types slots i rec l s.vars=(true,us)∧fG z us)∧((i<a∨b<=i)->iN ns types slots i rec l s.vars=(false,s'.vars))
 | [],a,b,s,s',h,_,hf,_,_,he,_,_=>by
  have:=aBu h;subst this;injection he with he;subst he;exact⟨λh1 h2=>by omega,λ_=>rfl⟩
 | x :: l,a,b,s,s',h,hc,hf,ho,hfi,he,ht,hz=>by
  cases h with
  | cons _ _ _ _ nd hx h h2=>
    unfold dX at he;obtain⟨q,hq,he⟩:=CkR.bind_eq he;obtain⟨nd',hx',hcl⟩:=hc x (List.mem_cons_self ..);rw[hx] at hx';injection hx' with hx';subst hx';have hxb:x+1<=b:=h2.le;have hax:a<=x:=h.le;have fx:=hf.sub (aA1 a) hxb;have o:=hst x s q nd a hx hcl h fx ho hq;have f2:=(hf.sub (a':=x+1) (by omega) (aA1 _)).turn o.did.turns (.inl (aA1 _));have l2:∀y∈l,∃nd,ns[y]?=some nd∧mM nd.kind=true:=λy hy=>hc y (List.mem_cons_of_mem _ hy)
    have i1:=qK hn hst h2 l2 f2 o.vars he;have z1:q.size<=s'.size:=by rw[i1.did.size];omega
    obtain⟨g,p1,p2⟩:=hsv x s q nd a hx hcl h fx ho hfi hq (ht.back i1.did.turns (aA1 _) (aA1 _) hxb) (by omega);obtain⟨r1,r2⟩:=aHa hn hi hst hsv h2 l2 f2 o.vars g he (ht.sub (by omega) (aA1 _)) hz;refine⟨λh3 h4=>?_,λh3=>?_⟩
    . by_cases h5:i<x+1
      . exact p1 h3 h5 l
      . rw[p2 (by omega) l]
        exact r1 (by omega) h4
    . rw[p2 (by omega) l]
      exact r2 (by omega)
theorem yY (hn:aS ns) (hret:∀f∈fs,f.ret<=4) (hi:IsS ns i):∀f,BlV ns fs k i z types slots (eT ns fs k f) (kY ns types slots i f)
 | 0=>λx s s' nd a hx hk hseg hf hv _ he=>by cases he
 | f+1=>λx s s' nd a hx hk hseg hf ho hfi he ht hz=>by
  have ih:=yY hn hret hi f;simp only[eT,hx] at he;obtain⟨r,hr,he⟩:=CkR.map_eq he;subst he;have hax:=hseg.le;have T0:Turns x (x+1) s { s with fn:=s.fn.set x k }:=Turns.set _ _ _ _ _ (.inl rfl) (.inl rfl) (.inr ⟨_,rfl⟩);have hl:∀y∈nd.l,∃c,ns[y]?=some c∧mM c.kind=true:=by
    have hN:=hn x nd hx;cases hN with
    | block line l h=>exact λy hy=>jL (h y hy)
    | _=>simp at hk
  have hst:∀x s s' nd a,ns[x]?=some nd->mM nd.kind=true->Seg ns a nd.l x->fF ns a (x+1) s->dS s->(λa s=>match ns[a]? with
      | none=>CkR.bad 95 0
      | some na=>fI fs k (eO ns fs k ns.length) (eT ns fs k f) a na s) x s = .good s'->wX ns fs k a (x+1) s s':=λy s s' nd a hy hcl hs hf hv he=>by
       simp only[hy] at he;exact zP hn (oC hn hret _) (mO hn hret f) hy hcl hs hf hv he
  have f0:=(hf.sub (a':=a) (b':=x) (aA1 _) (Nat.le_succ _)).turn T0 (.inr (aA1 _));have i1:=qK hn hst hseg hl f0 (show dS { s with fn:=s.fn.set x k } from ho) hr;obtain⟨r1,r2⟩:=aHa (z:=z) (types:=types) (slots:=slots) (rec:=kY ns types slots i f) hn hi hst (λy s s' nd a hy hcl hs hf hv hfi he ht hz=>by
       simp only[hy] at he;exact aOw hn (oC hn hret _) (mO hn hret f) ih hi hy hcl hs hf hv hfi he ht hz) hseg hl f0 (show dS { s with fn:=s.fn.set x k } from ho) (show fG s.size s.vars from hfi) hr (λy h1 h2=>ht y h1 (by omega)) hz
  obtain⟨m,hm⟩:=i1.more;have hm:r.vars=s.vars++m:=hm;have e0:kY ns types slots i (f+1) x s.vars=aKz ns types slots i (kY ns types slots i f) nd.l s.vars:=by
    rw[kY,hx];rfl
  rw[e0];refine⟨λh3 h4=>?_,λh3=>?_⟩
  . by_cases e:i=x
    . obtain⟨n2,g1,g2⟩:=hi
      rw[e,hx] at g1;injection g1 with g1;subst g1;rw[hk] at g2;simp[mM] at g2
    . obtain⟨us,e2,hu⟩:=r1 h3 (by omega)
      exact⟨us,lW e2,hu⟩
  . have e2:=r2 (by omega)
    rw[pU e2,hm,List.take_left' rfl]
theorem uU {body:Nat}:∀{l:List (List UInt8×Nat)}{vs vs':List bT},iL body l vs = .good vs'->(∀p∈l,1<=p.2∧p.2<=4)->fG vs.length vs->fG vs'.length vs'∧∀ps,vs=kX ps->vs'=kX (ps++l)
 | [],vs,vs',h,_,hv=>by
  injection h with h;subst h;exact⟨hv,λps e=>by rw[List.append_nil];exact e⟩
 | p :: l,vs,vs',h,hp,hv=>by
  unfold iL at h;split at h
  . cases h
  . rename_i hnf
    have:=hp p (List.mem_cons_self ..);have ih:=uU h (λq hq=>hp q (List.mem_cons_of_mem _ hq)) (by rw[aA3,List.length_singleton];exact hv.snoc this (by simpa using hnf));refine⟨ih.1,λps e=>?_⟩;have e2:=ih.2 (ps++[p]) (by rw[sD,e,nW]);rw[e2,List.append_assoc,List.singleton_append]
theorem aMz (hn:aS ns) (hret:∀f∈fs,f.ret<=4) (hi:IsS ns i) (hp:∀p∈f.params,1<=p.2∧p.2<=4) (hb:Kid ns pO f.body) (hseg:Seg ns a [f.body] b) (hf:fF ns a b s) (he:gV ns fs k f s = .good s') (ht:AgT types slots s' a b) (h1:a<=i) (h2:i<b):
  ∃us,kY ns types slots i ns.length f.body (kX f.params)=(true,us)∧fG s'.size us:=by
 obtain⟨nd,hx,h3,rfl⟩:=aOy hseg;obtain⟨c,hc,hk⟩:=hb;rw[hx] at hc;injection hc with hc;subst hc;unfold gV at he;obtain⟨vs,hvs,he⟩:=CkR.bind_eq he;obtain⟨e1,e2⟩:=oV hvs hp (λv hv=>by cases hv);obtain⟨g1,g2⟩:=uU hvs hp ⟨λv hv=>(by cases hv),List.Pairwise.nil,List.Pairwise.nil⟩;have g2:vs=kX f.params:=by simpa using g2 [] rfl
 obtain⟨us,e,hu⟩:=(yY (k:=k) (z:=s'.size) (types:=types) (slots:=slots) hn hret hi ns.length f.body { s with vars:=vs,size:=vs.length } s' nd a hx (by simpa[pO] using hk) h3 ⟨hf.lt,hf.ls,hf.lf,hf.hb,hf.new⟩ e2 g1 he ht (aA1 _)).1 h1 h2;exact⟨us,by rw[<-g2];exact e,hu⟩
theorem yN (hn:aS ns) (hret:∀f∈fs,f.ret<=4) (hi:IsS ns i):∀{l:List aG}{k a b:Nat}{zs0 zs:List Nat}{s s':CkS},(∀f∈l,(∀p∈f.params,1<=p.2∧p.2<=4)∧Kid ns pO f.body)->Seg ns a (l.map (·.body)) b->fF ns a b s->iR ns fs k l zs0 s = .good (zs,s')->AgT types slots s' a b->a<=i->i<b ->
  ∃j f z us,l[j]?=some f∧zs[zs0.length+j]?=some z∧s'.fn[i]?=some (k+j)∧kY ns types slots i ns.length f.body (kX f.params)=(true,us)∧fG z us
 | [],k,a,b,zs0,zs,s,s',_,h,hf,he,ht,h1,h2=>by
  have:=aBu h;omega
 | f :: l,k,a,b,zs0,zs,s,s',hp,h,hf,he,ht,h1,h2=>by
  unfold iR at he;obtain⟨r,hr,he⟩:=CkR.bind_eq he;cases h with
  | cons _ _ _ _ nd hx h h3=>
   obtain⟨hp1,hk⟩:=hp f (List.mem_cons_self ..);have l2:=h3.le;have hsg:Seg ns a [f.body] (f.body+1):= .cons _ _ _ _ nd hx h (.nil _);have fx:=hf.sub (aA1 a) l2;obtain⟨o1,o2⟩:=aCj (k:=k) (b:=f.body+1) hn hret hp1 hk hsg fx hr;have f2:=(hf.sub (Nat.le_trans h.le (Nat.le_succ _)) (aA1 _)).turn o2 (.inl (aA1 _));obtain⟨zs1,e,i1,i2⟩:=sS hn hret (λg hg=>hp g (List.mem_cons_of_mem _ hg)) h3 f2 he;by_cases h5:i<f.body+1
   . obtain⟨us,e1,hu⟩:=aMz hn hret hi hp1 hk hsg fx hr (ht.back i2 (aA1 _) (aA1 _) l2) h1 h5
     obtain⟨n2,g1,g2⟩:=hi;refine⟨0,f,r.size,us,rfl,?_,?_,e1,hu⟩
     . rw[e];simp
     . rw[(i2.oth i (.inl h5)).2.2]
       exact (o1.at_ i n2 h1 h5 g1).fn
   . obtain⟨j,g,z,us,e1,e2,e3,e4,e5⟩:=yN hn hret hi (λg hg=>hp g (List.mem_cons_of_mem _ hg)) h3 f2 he (ht.sub (a':=f.body+1) (by have h7:a<=f.body:=h.le;omega) (aA1 _)) (show f.body+1<=i by omega) h2
     refine⟨j+1,g,z,us,by simpa using e1,?_,?_,e4,e5⟩
     . rw[aA3,List.length_singleton] at e2
       rw[show zs0.length+(j+1)=zs0.length+1+j by omega];exact e2
     . rw[show k+(j+1)=k+1+j by omega];exact e3
end
theorem aOp {ns:List aF}{fs:List aG}{p:gB} (ht:aCt ns fs) (h:eD ns fs = .good p){i:Nat} (hi:IsS ns i):∃k f z,p.fn[i]?=some k∧p.fs[k]?=some f∧p.sizes[k]?=some z∧(kY p.ns p.types p.slots i p.ns.length f.body (kX f.params)).1=true∧fG z (tL p i f):=by
 unfold eD at h;obtain⟨_,hh,h⟩:=CkR.bind_eq h;obtain⟨r,hr,h⟩:=CkR.map_eq h;subst h;have hlt:i<ns.length:=by
  obtain⟨nd,h1,_⟩:=hi;exact (gK h1)
 obtain⟨j,f,z,us,e1,e2,e3,e4,e5⟩:=yN (types:=r.2.types) (slots:=r.2.slots) ht.ok.nodes (λf hf=>(ht.ok.types f hf).1) hi (zs:=r.1) (s':=r.2) (λf hf=>⟨λp hp=>⟨ht.pos f hf p hp,(ht.ok.types f hf).2 p hp⟩,ht.ok.bodies f hf⟩) ht.seg (rD ns) hr (λy _ _=>⟨rfl,rfl⟩) (aA4 _) hlt;rw[Nat.zero_add] at e3;refine⟨j,f,z,e3,e1,by simpa using e2,by dsimp only;rw[e4],?_⟩;unfold tL;dsimp only;rw[e4,if_pos rfl];exact e5
end Go.Proofs.YtlbjicjinnnboaaGreatDoor
namespace Go.Proofs.YtlbjicjinnnboaaGreatDoor
open Go.Proofs.Tryz
open Go.ChangeShapes Go.WideShapes Go.ChangeAt Go.RowKit
set_option maxRecDepth 100000
theorem aTg:ownKnob prog.godebug=none:=by kernel_rfl
theorem aOr {W : World} (h : laidMetH Tryz.prog Rows.parseBelowRow.laid W) : ∃ tp p, W.var? Tryz.prog "strconv.ErrRange" = some #[.iface tp p] := by
 rw[MakeChecks.laidMetH_plain _ _ _ (by kernel_rfl)] at h;obtain⟨ps,h,_,_⟩:=h;obtain⟨_,_,_,_,_,_,_,_,_,_,⟨_,_,_,_,_,_,_,_,_,_,⟨_,_,_,_,_,_,_,_,_,_,⟨_,_,_,_,_,_,_,_,_,_,⟨g,t,cs,f,p,q,hg,ht,hv,hd,_⟩,_⟩,_⟩,_⟩,_⟩:=h
 obtain rfl := Option.some.inj ((show Tryz.prog.globalNamed "strconv.ErrRange" = some 2 by kernel_rfl).symm.trans hg)
 obtain rfl:=Option.some.inj ((show (prog.globals[2]?).map (·.type)=some 159 by kernel_rfl).symm.trans ht);obtain⟨f1,u,v,hcs,_,_⟩:=iface_of_trod underlying159 hd;rw[Array.eq_one_of_toList hcs] at hv;exact⟨u,v,hv⟩
theorem qE {H:Type}{enc:TypeId×Value->H}{a:Assume}{C:Checked}{os:Os}{f:FuncId}{fn:Func}{s:ChangeSpec}{conds:List PathCond}{apart fresh handsOn again:Bool}{X:World->Array Value->Prop}
  (hX:∀(w w':World) (args:Array Value),w.heap=w'.heap->X w args->X w' args)
  (own:ownKnob C.prog.godebug=none) (started:os.Started) (noInit:C.prog.inits.idxOf? f=none) (hfn:C.prog.funcs[f]?=some fn)
  (witness:∃(w:World) (tape:Tape) (i:Input),w.os=os∧(w.forCall tape i).Shaped C.prog∧i.vars=[]∧Input.okWide C.prog (w.forCall tape i) .any w.heap.size f i ∧
    ((s.pre enc C.prog fn conds apart (w.forCall tape i).memory i.args∧X (w.forCall tape i).memory i.args)∧sizedMet enc C.prog fn (OpenSpec.ofChange s) apart (w.forCall tape i).memory i.args)∧a.holds C.prog (lone (Frame.enter C.prog f i.args .normal) [] (w.forCall tape i)))
  (contract:∀(W:World) (base:Nat) (args:Array Value) (ds gs:List (DataW H)) (before:List MemPlace),
    (∀(j:Nat) t v,fn.params[j]?=some t->args[j]?=some v->Value.okWide C.prog W .any base t v) ->
    DataW.Whole enc C.prog fn.params.toList s.vars apart W args.toList ds gs before ->
    (DataW.weightsEach C.prog (fn.params.toList++s.plain.varTypes C.prog) (ds++gs)).all (· <= reachBytes)=true->X W args->W.ShapedOpen C.prog ->
    Calls C.prog f args W λe W'=>∃v,e = .returned v∧s.post enc C.prog fn apart fresh handsOn again W args v W'):
  ReturnsInHanded a C os f .any (λw args=>(s.pre enc C.prog fn conds apart w args∧X w args)∧sizedMet enc C.prog fn (OpenSpec.ofChange s) apart w args) (s.post enc C.prog fn apart fresh handsOn again):=by
 refine returnsInHanded_of_calls own started noInit witness ?_;intro w tape i _ hsh _ hok hpre _;obtain⟨_,_,_,fn',hfn',_,_,_,_,hval⟩:=hok;obtain rfl:fn'=fn:=Option.some.inj (hfn'.symm.trans hfn);obtain⟨⟨⟨ds,gs,before,hw,_⟩,hx⟩,hz⟩:=hpre;refine (contract (w.forCall tape i) w.heap.size i.args ds gs before hval (DataW.Whole.of_heap (w':=w.forCall tape i) (by rfl) hw) (hz.weights hw) (hX _ _ _ (by rfl) hx) hsh).mono λe W' ⟨v,he,hp⟩=>?_
 subst he;exact ChangeSpec.post_blind hp
theorem zK {W:World} (h:laidMetH prog Rows.parseBelowRow.laid W) (hs:W.ShapedOpen prog):aBk W:=by
 obtain⟨m,hm⟩:=laysM219.s1_3 W hs;refine⟨⟨⟨m,by exact hm⟩,aOr h⟩,m,?_⟩;obtain⟨cs,hh,hz,_⟩:=hs.1 0 #[U0] 3 (by decide +kernel) (by kernel_rfl);have hc:Blk W 0 3 cs:=hh;change W.cell? (0,0)=m at hm;rw[hc.cell 0] at hm;obtain⟨l⟩:=cs
 match l,hz with
 | [x],_=>
  simp at hm
  subst hm;exact hc
end Go.Proofs.YtlbjicjinnnboaaGreatDoor
