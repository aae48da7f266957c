/- MaQ: KqVe, KsH, Uq, CkA, CkB, CkBin, CkC, CkT, CkCall. -/
import Derived.Test.YtlbjicjinnnboaaGreatDoorMaP
import Derived.Test.YtlbjicjinnnboaaGreatDoorMaF
import Derived.Test.YtlbjicjinnnboaaGreatDoorMaG
import Derived.Test.YtlbjicjinnnboaaGreatDoorMaH
set_option maxHeartbeats 8000000
set_option maxRecDepth 100000
set_option linter.unusedVariables false
set_option linter.unusedSimpArgs false
/- The program's Visible. -/
namespace Go.Proofs.YtlbjicjinnnboaaGreatDoor
open Go.RowKit Go.Proofs.Tryz
open Pw
variable {x line j n a c t:Nat}{cs:Array Value}{f:aH}{w0 w1:World}{nd:aG}{nm name:List UInt8}{vars:List dS}{G:Geo}{v:Value}
section
variable {g:PgV}{w:World}{ub zb:Nat}
def aEe (g:PgV) (P N F node:Nat) (cs:Array Value):List (Nat×TypeId×Array Value):=
 [(P,29,#[.slice (some ⟨g.nb,0,none⟩) g.p.ns.length g.nc,.slice (some ⟨g.fb,0,none⟩) g.p.fs.length g.fc,.slice (some ⟨g.tb,0,none⟩) g.p.ns.length g.tc,.slice (some ⟨g.sb,0,none⟩) g.p.ns.length g.sc,.slice g.ua g.un g.uc,.slice g.za g.zn g.zc]),(N,3,#[.int .i64 (node:Nat)]),(F,48,cs)]
theorem Vr.blks {V P N F node:Nat}{vs:List dS} (h:Vr w0 V (aEe g P N F node cs) vs w1):
  Blk w1 P 29 #[.slice (some ⟨g.nb,0,none⟩) g.p.ns.length g.nc,.slice (some ⟨g.fb,0,none⟩) g.p.fs.length g.fc,.slice (some ⟨g.tb,0,none⟩) g.p.ns.length g.tc,.slice (some ⟨g.sb,0,none⟩) g.p.ns.length g.sc,.slice g.ua g.un g.uc,.slice g.za g.zn g.zc]∧Blk w1 N 3 #[.int .i64 (node:Nat)]∧Blk w1 F 48 cs:=
 ⟨(h.rc _ (List.mem_cons_self ..)).1,(h.rc _ (List.mem_cons_of_mem _ (List.mem_cons_self ..))).1,(h.rc _ (List.mem_cons_of_mem _ (List.mem_cons_of_mem _ (List.mem_cons_self ..)))).1⟩
theorem Vr.start {P N F node:Nat} (f:Fr nob w0 w1) (hP:Blk w1 P 29 #[.slice (some ⟨g.nb,0,none⟩) g.p.ns.length g.nc,.slice (some ⟨g.fb,0,none⟩) g.p.fs.length g.fc,.slice (some ⟨g.tb,0,none⟩) g.p.ns.length g.tc,.slice (some ⟨g.sb,0,none⟩) g.p.ns.length g.sc,.slice g.ua g.un g.uc,.slice g.za g.zn g.zc]) (hN:Blk w1 N 3 #[.int .i64 (node:Nat)]) (hF:Blk w1 F 48 cs):
   Vr w0 w1.heap.size (aEe g P N F node cs) [] (w1.alloc (.cells #[.slice none 0 0] 58)):=by
 refine⟨f.alloc _,⟨none,0,Blk.new _ _ _,Own.nil _ _ _,λb hb=>by simp[blk] at hb⟩,f.size,λq hq=>?_⟩;unfold aEe at hq;simp only[List.mem_cons,List.not_mem_nil,or_false] at hq;rcases hq with rfl|rfl|rfl
 . exact⟨hP.alloc _,(by decide:(29:Nat)≠62),(by decide:(29:Nat)≠58)⟩
 . exact⟨hN.alloc _,(by decide:(3:Nat)≠62),(by decide:(3:Nat)≠58)⟩
 . exact⟨hF.alloc _,(by decide:(48:Nat)≠62),(by decide:(48:Nat)≠58)⟩
theorem Vr.cell {V:Nat}{vs:List dS}{RS:List (Nat×TypeId×Array Value)} (h:Vr w0 V RS vs w1):∃A c,w1.cell? ⟨V,0,none⟩=some (.slice A vs.length c)∧Own w1 62 3 (.slice A vs.length c) vs.length (aO vs)∧w1.frozen? ⟨V,0,none⟩=false∧V<w1.heap.size:=by
 obtain⟨A,c,hb,ho,_⟩:=h.vc;exact⟨A,c,(hb.cell 0).trans rfl,ho,hb.frozen 0,hb.lt⟩
theorem xC (PF:PgX g ub zb w){node k:Nat} (hk:g.p.fn[node]?=some k) (hf:g.p.fs[k]?=some f):
  Calls prog 34 #[.agg #[.slice (some ⟨g.nb,0,none⟩) g.p.ns.length g.nc,.slice (some ⟨g.fb,0,none⟩) g.p.fs.length g.fc,.slice (some ⟨g.tb,0,none⟩) g.p.ns.length g.tc,.slice (some ⟨g.sb,0,none⟩) g.p.ns.length g.sc,.slice g.ua g.un g.uc,.slice g.za g.zn g.zc],.int .i64 (node:Nat)] w λen w'=>∃A n c,en = .returned (.slice A n c)∧n=(xD g.p node f).length∧Own w' 62 3 (.slice A n c) n (aO (xD g.p node f))∧Fr nob w w':=by
 have hn:node<g.p.ns.length:=by rw[<-PF.lf];exact (gK hk)
 have hkf:k<g.p.fs.length:=(gK hf);have hf6:g.p.fs.length≤6:=PF.fewf;have hn3:g.p.ns.length≤300:=PF.pw.few;have hp3:f.params.length≤3:=PF.pars f (List.mem_of_getElem? hf);have HUA:=hD PF.ua;have HUN:=hD PF.un;have hbod:∃nd,g.p.ns[f.body]?=some nd∧nd.kind=18:=by
  exact PF.body f (List.mem_of_getElem? hf)
 have hbl:f.body<g.p.ns.length:=by obtain⟨nd,h,_⟩:=hbod;exact (gK h)
 -- the world behind the two boxes
 have B0:=Blk.new w 29 #[.slice (some ⟨g.nb,0,none⟩) g.p.ns.length g.nc,.slice (some ⟨g.fb,0,none⟩) g.p.fs.length g.fc,.slice (some ⟨g.tb,0,none⟩) g.p.ns.length g.tc,.slice (some ⟨g.sb,0,none⟩) g.p.ns.length g.sc,.slice g.ua g.un g.uc,.slice g.za g.zn g.zc];have BP:=hD (B0.alloc (.cells #[.int .i64 (node:Nat)] 3));have BN:=hD (show Blk ((w.alloc (.cells #[.slice (some ⟨g.nb,0,none⟩) g.p.ns.length g.nc,.slice (some ⟨g.fb,0,none⟩) g.p.fs.length g.fc,.slice (some ⟨g.tb,0,none⟩) g.p.ns.length g.tc,.slice (some ⟨g.sb,0,none⟩) g.p.ns.length g.sc,.slice g.ua g.un g.uc,.slice g.za g.zn g.zc] 29)).alloc (.cells #[.int .i64 (node:Nat)] 3)) (w.heap.size+1) 3 #[.int .i64 (node:Nat)] from by
  have:=Blk.new (w.alloc (.cells #[.slice (some ⟨g.nb,0,none⟩) g.p.ns.length g.nc,.slice (some ⟨g.fb,0,none⟩) g.p.fs.length g.fc,.slice (some ⟨g.tb,0,none⟩) g.p.ns.length g.tc,.slice (some ⟨g.sb,0,none⟩) g.p.ns.length g.sc,.slice g.ua g.un g.uc,.slice g.za g.zn g.zc] 29)) 3 #[.int .i64 (node:Nat)];rw[World.size_alloc] at this;exact this)
 have F1:=hD (((fR w).alloc (.cells #[.slice (some ⟨g.nb,0,none⟩) g.p.ns.length g.nc,.slice (some ⟨g.fb,0,none⟩) g.p.fs.length g.fc,.slice (some ⟨g.tb,0,none⟩) g.p.ns.length g.tc,.slice (some ⟨g.sb,0,none⟩) g.p.ns.length g.sc,.slice g.ua g.un g.uc,.slice g.za g.zn g.zc] 29)).alloc (.cells #[.int .i64 (node:Nat)] 3));have HPF:=hD PF;have HK:=hD hk;have HF:=hD hf;have HBOD:=hD hbod;have HBL:=hD hbl;clear B0 PF hk hf hbod hbl;go_enter func34,ntmps34;go_upto_region 1 with fail;generalize (w.alloc (.cells #[.slice (some ⟨g.nb,0,none⟩) g.p.ns.length g.nc,.slice (some ⟨g.fb,0,none⟩) g.p.fs.length g.fc,.slice (some ⟨g.tb,0,none⟩) g.p.ns.length g.tc,.slice (some ⟨g.sb,0,none⟩) g.p.ns.length g.sc,.slice g.ua g.un g.uc,.slice g.za g.zn g.zc] 29)).alloc (.cells #[.int .i64 (node:Nat)] 3)=w1 at *;generalize w.heap.size+1=N at *;generalize w.heap.size=P at *;obtain⟨pv,hpo,d0,d1,d2,d3,d4⟩:=HPF.o.pw.tree.fn HF.o;obtain⟨PA,PC,rfl,hpc,-⟩:=hpo.cap;have u0:=HPF.o.fnc HK.o;have HPO:=hD hpo;obtain⟨p0,p1,p2,p3,p4,p5,-⟩:=BP.o.sixth;have n0:=(BN.o.cell 0).trans rfl;rw[HUA.o,HUN.o] at p4;have hn5:(node:Int)<(g.p.ns.length:Int):=by omega
 have hk5:(k:Int)<(g.p.fs.length:Int):=by omega
 have HK2:=hD (show ∀wx,Fr nob w1 wx->wx.cell? ⟨P,1,none⟩=some (.slice (some ⟨g.fb,0,none⟩) g.p.fs.length g.fc)∧wx.cell? ⟨P,4,none⟩=some (.slice (some ⟨ub,0,none⟩) g.p.ns.length g.uc)∧wx.cell? ⟨N,0,none⟩=some (.int .i64 (node:Nat))∧wx.cell? ⟨ub,node,none⟩=some (.int .i64 (k:Nat))∧wx.cell? ⟨g.fb,k*5,none⟩=some (.string (bs f.name))∧wx.cell? ⟨g.fb,k*5+1,none⟩=some (.int .i64 f.line)∧wx.cell? ⟨g.fb,k*5+2,none⟩=some (.slice PA f.params.length PC)∧wx.cell? ⟨g.fb,k*5+3,none⟩=some (.int .i64 f.ret)∧wx.cell? ⟨g.fb,k*5+4,none⟩=some (.int .i64 f.body) from λwx fx=>by
  have c:∀{b o:Nat} {v:Value},w1.cell? ⟨b,o,none⟩=some v->wx.cell? ⟨b,o,none⟩=some v:=λh=>(fx.cell (World.block_lt_of_cell? _ _ h) (λx=>x)).trans h
  have d:∀{b o:Nat} {v:Value},w.cell? ⟨b,o,none⟩=some v->wx.cell? ⟨b,o,none⟩=some v:=λh=>((F1.o.tr fx).cell (World.block_lt_of_cell? _ _ h) (λx=>x)).trans h
  exact⟨c p1,c p4,c n0,d u0,d d0,d d1,d d2,d d3,d d4⟩)
 have BP3:=hD ((BP.o.alloc (.cells #[.string (bs f.name),.int .i64 (f.line:Nat),.slice PA f.params.length PC,.int .i64 (f.ret:Nat),.int .i64 (f.body:Nat)] 48)).fr ((fR _).drew) (λx=>x));have BN3:=hD ((BN.o.alloc (.cells #[.string (bs f.name),.int .i64 (f.line:Nat),.slice PA f.params.length PC,.int .i64 (f.ret:Nat),.int .i64 (f.body:Nat)] 48)).fr ((fR _).drew) (λx=>x));have F3:=hD ((F1.o.alloc (.cells #[.string (bs f.name),.int .i64 (f.line:Nat),.slice PA f.params.length PC,.int .i64 (f.ret:Nat),.int .i64 (f.body:Nat)] 48)).tr ((fR _).drew));have BF3:=hD ((Blk.new w1 48 #[.string (bs f.name),.int .i64 (f.line:Nat),.slice PA f.params.length PC,.int .i64 (f.ret:Nat),.int .i64 (f.body:Nat)]).fr ((fR _).drew) (λx=>x));clear hpo;go_wp2_with fail
 go_region_held3 (λwx=>wx.cell? ⟨P,1,none⟩=some (.slice (some ⟨g.fb,0,none⟩) g.p.fs.length g.fc)∧wx.cell? ⟨P,4,none⟩=some (.slice (some ⟨ub,0,none⟩) g.p.ns.length g.uc)∧wx.cell? ⟨N,0,none⟩=some (.int .i64 (node:Nat))∧wx.cell? ⟨ub,node,none⟩=some (.int .i64 (k:Nat))∧wx.cell? ⟨g.fb,k*5,none⟩=some (.string (bs f.name))∧wx.cell? ⟨g.fb,k*5+1,none⟩=some (.int .i64 f.line)∧wx.cell? ⟨g.fb,k*5+2,none⟩=some (.slice PA f.params.length PC)∧wx.cell? ⟨g.fb,k*5+3,none⟩=some (.int .i64 f.ret)∧wx.cell? ⟨g.fb,k*5+4,none⟩=some (.int .i64 f.body)) (first|exact HK2 _ ((fR w1).drew)|exact HK2 _ (((fR w1).drew).alloc _)) (fail)
 clear HK2 d0 d1 d2 d3 d4 u0 p0 p1 p2 p3 p4 p5 n0 BP BN F1 hn5 hk5;generalize (w1.alloc (.cells #[.string (bs f.name),.int .i64 (f.line:Nat),.slice PA f.params.length PC,.int .i64 (f.ret:Nat),.int .i64 (f.body:Nat)] 48)).drew=w3 at *;generalize w1.heap.size=FB at *;have V0:=hD (Vr.start F3 BP3 BN3 BF3);clear BP3 BN3 F3;go_upto_region 3 with fail;generalize w3.alloc (.cells #[.slice none 0 0] 58)=w4 at *;generalize w3.heap.size=V at *;obtain⟨m,hm⟩:∃m,f.params.length=m:=⟨_,rfl⟩;have HM:=hD hm;rw[hm] at V0 HPO BF3 hpc hp3;have q2:=(V0.o.blks.2.2.cell 2).trans rfl;have hpcI:(m:Int)≤(PC:Int):=by omega
 have hp3I:(m:Int)≤3:=by omega
 clear hm BF3;go_wp2
 clear q2;go_loopw [23] (λi wr=>∃j:Nat,j≤m∧i = .int .i64 j∧Hd (Vr w V (aEe g P N FB node #[.string (bs f.name),.int .i64 (f.line:Nat),.slice PA m PC,.int .i64 (f.ret:Nat),.int .i64 (f.body:Nat)]) (wZ (f.params.take j)) wr) ) (λi _=>m - (intOf i).toNat)
 case atStart=>exact⟨0,Nat.zero_le _,rfl,V0⟩
 case round=>
  clear V0;obtain⟨j,hj,rfl,SS⟩:=hrel;by_cases hlt:j<m
  . obtain⟨q,hq⟩:∃q,f.params[j]?=some q:=⟨_,gE (by rw[HM.o];exact hlt)⟩
    obtain⟨vs,hvs⟩:∃vs,wZ (f.params.take j)=vs:=⟨_,rfl⟩;have hl:vs.length=j:=by rw[<-hvs,zW,List.length_take];have:=HM.o;omega
    have NX:=hD (show wZ (f.params.take (j+1))=vs++[⟨q.1,q.2,j⟩] from by
     rw[List.take_add_one,hq]
     show wZ (f.params.take j++[q])=_
     rw[aGf,hvs,List.length_take,Nat.min_eq_left (by have:=HM.o;omega)])
    rw[hvs] at SS;clear hvs;subst hl;obtain⟨pb,e,pc⟩:=(HPO.o.fr SS.o.fr (λ_ _ x=>x)).some (by omega);have q0:=pc _ _ (aN hq).1;have q1:=pc _ _ (aN hq).2;subst e;obtain⟨A,C,v0,hvo,-,-⟩:=SS.o.cell;have hlt2:(vs.length:Int)<(m:Int):=by omega
    have hvs3:vs.length≤3:=by omega
    have HJ:=hD hlt;have HVS:=hD hvs3;have HHV:=hD v0;have HV:=hD ((hvo.alloc (.cells #[.string (bs q.1),.int .i64 (q.2:Nat)] 101)).alloc (.cells #[.string (bs q.1),.int .i64 (q.2:Nat),.int .i64 (vs.length:Nat)] 62));have HR:=hD (Rd.eD (n:=1) (size:=3) (cs:=[.string (bs q.1),.int .i64 (q.2:Nat),.int .i64 (vs.length:Nat)]) (Blk.new (wr.alloc (.cells #[.string (bs q.1),.int .i64 (q.2:Nat)] 101)) 62 [.string (bs q.1),.int .i64 (q.2:Nat),.int .i64 (vs.length:Nat)].toArray) rfl (by decide));have v0b:(wr.alloc (.cells #[.string (bs q.1),.int .i64 (q.2:Nat)] 101)).cell? ⟨V,0,none⟩=some (.slice A vs.length C):=((fR wr).alloc _).cell (World.block_lt_of_cell? _ _ v0) (λx=>x) |>.trans v0;clear hq pc hvo hlt hj v0;go_wp2_with (at_builtin;revert HJ)
    intro HJ;rw[World.size_alloc] at HR;refine aI (v:= .slice A vs.length C) (n:=vs.length) (m:=1) (xs:=aO vs) (news:=[.string (bs q.1),.int .i64 (q.2:Nat),.int .i64 (vs.length:Nat)]) rfl _ _ rfl zF rfl rfl HV HR (by simp[Value.oneCell']) (by have:=HVS.o;omega) (by unfold maxLen;have:=HVS.o;omega) ?_;intro A6 c6 w6 ho6 hf6 hv6;obtain⟨av,f0,vlt,c0,-⟩:=SS.o.app (v:=⟨q.1,q.2,vs.length⟩) HHV (((fR wr).alloc (.cells #[.string (bs q.1),.int .i64 (q.2:Nat)] 101)).alloc (.cells #[.string (bs q.1),.int .i64 (q.2:Nat),.int .i64 (vs.length:Nat)] 62)) ho6 hf6 hv6;have AV:=hD av;clear av ho6 hf6 hv6 SS HV HR q0 q1 v0b hvs3;go_wp2
    go_roundw
    case rel=>exact⟨vs.length+1,by have:=HJ.o;omega,by go_num,by rw[NX.o];exact AV⟩
    case measure=>simp[intOf];have:=HJ.o;omega
  . have hjm:j=m:=by omega
    subst hjm;have hlt2:¬(j:Int)<(j:Int):=by omega
    have SS2:=hD (show Vr w V (aEe g P N FB node #[.string (bs f.name),.int .i64 (f.line:Nat),.slice PA j PC,.int .i64 (f.ret:Nat),.int .i64 (f.body:Nat)]) (wZ f.params) wr from by have:=SS.o;rw[List.take_of_length_le (Nat.le_of_eq HM.o)] at this;exact this);clear SS hlt hj;go_upto_region 9 with fail;have F5:=hD ((fR wr).alloc (.cells #[.nilFunc] 74));have B5:=hD (Blk.new wr 74 #[.nilFunc]);have hw:=Nat.le_refl wr.heap.size;generalize hFN:wr.heap.size=FN at *;generalize wr.alloc (.cells #[.nilFunc] 74)=w5 at *;have F6:Hd (Fr nob wr (w5.setCell ⟨FN,0,none⟩ (.func (.func 63) #[] (pF V P N FN)))):=F5.o.trans ((Fr.refl (bQ FN) w5).setCell _ _ (λ_=>rfl)) (λ_ _ x=>x) (λb hlt hm=>by have hm:b=FN:=hm;omega);have B6:Hd (Blk (w5.setCell ⟨FN,0,none⟩ (.func (.func 63) #[] (pF V P N FN))) FN 74 #[.func (.func 63) #[] (pF V P N FN)]):=B5.o.setCell 0 _;have W6:=hD (show Vw g w V P N FN node (wZ f.params) (w5.setCell ⟨FN,0,none⟩ (.func (.func 63) #[] (pF V P N FN))) from ⟨(SS2.o.no F6).fr,(SS2.o.no F6).vc,(SS2.o.no F6).hV,(SS2.o.no F6).blks.1,(SS2.o.no F6).blks.2.1,B6⟩);have BF6:=hD (SS2.o.no F6).blks.2.2;have hmf:∀(fn:Fn) (first cap:Array Value) (w:World),(Instr.makeFunc fn first cap).run prog w = .ok (.func fn first cap) w:=λ_ _ _ _=>rfl
    have g0:=(B5.o.cell 0).trans rfl;have g1:=B5.o.frozen 0;have g2:=B5.o.lt;clear F5 B5 hFN SS2 hw F6;have HV:=hD (zM HPF.o.pw g.p.ns.length f.body (wZ f.params) _ HBL HBOD (by rw[zW];have:=HM.o;omega) W6);clear W6;go_upto_region 10 with fail;unfold pF at HV BF6 B6;generalize w5.setCell ⟨FN,0,none⟩ (.func (.func 63) #[] #[.pointer (some ⟨V,0,none⟩),.pointer (some ⟨P,0,none⟩),.pointer (some ⟨N,0,none⟩),.pointer (some ⟨FN,0,none⟩)])=w6 at *;have r0:=(B6.o.cell 0).trans rfl;have r4:=(BF6.o.cell 4).trans rfl;clear B6 BF6 g0 g1 g2 hmf;go_wp2_with fail
    clear r0 r4;refine HV.o.mono ?_;rintro en w7 ⟨rfl,h7⟩;obtain⟨bb,hbb⟩:∃bb,(uZ g.p.ns g.p.types g.p.slots node g.p.ns.length f.body (wZ f.params)).1=bb:=⟨_,rfl⟩;rw[hbb];have HBB:=hD hbb;have W7:=hD h7;clear h7 hbb HV;cases bb with
    | true=>
     obtain⟨vs,hvs⟩:∃vs,(uZ g.p.ns g.p.types g.p.slots node g.p.ns.length f.body (wZ f.params)).2=vs:=⟨_,rfl⟩;have HE:=hD (show xD g.p node f=vs from by unfold xD;rw[HBB.o,if_pos rfl,hvs]);rw[hvs] at W7;clear hvs;obtain⟨-,-,-,-,-,A,C,d5,ho,-,-⟩:=W7.o.cells;have HO:=hD ho;clear ho;go_wp2
     go_ret;rw[HE.o];exact⟨A,vs.length,C,rfl,rfl,HO,W7.o.fr⟩
    | false=>
     have HE:=hD (show xD g.p node f=[] from by unfold xD;rw[HBB.o,if_neg (by decide)]);go_wp2
     go_ret;rw[HE.o];exact⟨none,0,0,rfl,rfl,Own.nil _ _ _,W7.o.fr⟩
end
def ex4:List UInt8:=[102,110,32,109,97,105,110,40,41,32,123,32,108,101,116,32,97,32,61,32,49,59,32,112,114,105,110,116,32,97,59,32,125]
def aIr:fF:=⟨[⟨1,1,1,[],[]⟩,⟨10,1,0,[97],[0]⟩,⟨4,1,0,[97],[]⟩,⟨14,1,0,[],[2]⟩,⟨18,1,0,[],[1,3]⟩],[⟨[109,97,105,110],1,[],0,4⟩],[1,0,1,0,0],[-1,0,0,-1,-1],[0,0,0,0,0],[1]⟩
theorem aNk:iF ex4=some (.good aIr):=by kernel_rfl
theorem aNj:(xD aIr 3 ⟨[109,97,105,110],1,[],0,4⟩).length=1:=by kernel_rfl
theorem aLb:∀f∈aIr.fs,∃nd,aIr.ns[f.body]?=some nd∧nd.kind=18:=λf hf=>by
 have:f=⟨[109,97,105,110],1,[],0,4⟩:=List.mem_singleton.1 hf;subst this;exact⟨_,rfl,rfl⟩
theorem aCy (x:Nat) (nd:aG) (hx:aIr.ns[x]?=some nd) (hk:nd.kind=18):∃line l,nd=⟨18,line,0,[],l⟩∧l.length≤300∧∀y∈l,y<x∧∃c,aIr.ns[y]?=some c∧StV aIr y c:=by
 match x,hx with
 | 0,hx=>injection hx with hx;subst hx;cases hk
 | 1,hx=>injection hx with hx;subst hx;cases hk
 | 2,hx=>injection hx with hx;subst hx;cases hk
 | 3,hx=>injection hx with hx;subst hx;cases hk
 | 4,hx=>
  injection hx with hx;subst hx;refine⟨1,[1,3],rfl,by decide,λy hy=>?_⟩;rcases List.mem_cons.1 hy with rfl|hy
  . exact⟨by decide,_,rfl,.let_ 1 [97] 0 1 0 rfl rfl (by decide)⟩
  . rw[List.mem_singleton.1 hy]
    exact⟨by decide,_,rfl,.other _ (by decide) (by decide) (by decide)⟩
 | n+5,hx=>cases hx
theorem aBi {V:World->Prop} (HQ:aQg V) (w:World) (hv:V w):Calls prog 26 #[] w λe w'=>e = .returned (.bool true)∧Fr nob w w':=by
 have HS:=hD (HQ.src ⟨#[102,110,32,109,97,105,110,40,41,32,123,32,108,101,116,32,97,32,61,32,49,59,32,112,114,105,110,116,32,97,59,32,125]⟩ w hv (by decide) (.good aIr) aNk);clear hv HQ;go_enter func26,ntmps26;go_wp2_with fail
 refine HS.o.mono ?_;rintro e w1 ⟨hs,hf⟩;obtain⟨g,ub,zb,hg,pf,rfl⟩:=vL hs (by decide) (by decide) rfl rfl rfl rfl (by decide) (by decide) (by decide) aLb aCy;have P1:=hD pf;have F1:=hD hf;have HG:=hD hg;clear hs hf pf hg HS;have FA:Hd (Fr nob w1 (w1.alloc (.cells #[.slice (some ⟨g.nb,0,none⟩) g.p.ns.length g.nc,.slice (some ⟨g.fb,0,none⟩) g.p.fs.length g.fc,.slice (some ⟨g.tb,0,none⟩) g.p.ns.length g.tc,.slice (some ⟨g.sb,0,none⟩) g.p.ns.length g.sc,.slice (some ⟨ub,0,none⟩) g.p.ns.length g.uc,.slice (some ⟨zb,0,none⟩) g.p.fs.length g.zc] 29))):=(fR w1).alloc _;have P2:=hD (P1.o.no FA);have F2:=hD (F1.o.tr FA);have BP:=hD (Blk.new w1 29 #[.slice (some ⟨g.nb,0,none⟩) g.p.ns.length g.nc,.slice (some ⟨g.fb,0,none⟩) g.p.fs.length g.fc,.slice (some ⟨g.tb,0,none⟩) g.p.ns.length g.tc,.slice (some ⟨g.sb,0,none⟩) g.p.ns.length g.sc,.slice (some ⟨ub,0,none⟩) g.p.ns.length g.uc,.slice (some ⟨zb,0,none⟩) g.p.fs.length g.zc]);have HV:=hD (xC P2 (node:=3) (k:=0) (f:=⟨[109,97,105,110],1,[],0,4⟩) (by rw[HG.o];rfl) (by rw[HG.o];rfl));rw[P2.o.ua,P2.o.za,P2.o.un,P2.o.zn,HG.o,aNj] at HV;have y0:=mI P2.o.pw.types (x:=2) (v:= .int .i64 1) (by rw[HG.o];rfl) (by rw[HG.o];decide);have y1:=mI P2.o.pw.slots (x:=1) (v:= .int .i64 0) (by rw[HG.o];rfl) (by rw[HG.o];decide);have y2:=mI P2.o.sz (x:=0) (v:= .int .i64 1) (by rw[HG.o];rfl) (by rw[HG.o];decide);rw[HG.o] at BP FA P2 F2 y0 y1 y2;clear P1 FA F1;rw[show aIr.ns.length=5 from rfl,show aIr.fs.length=1 from rfl] at *;go_wp2_with fail
 generalize w1.alloc (.cells #[.slice (some ⟨g.nb,0,none⟩) 5 g.nc,.slice (some ⟨g.fb,0,none⟩) 1 g.fc,.slice (some ⟨g.tb,0,none⟩) 5 g.tc,.slice (some ⟨g.sb,0,none⟩) 5 g.sc,.slice (some ⟨ub,0,none⟩) 5 g.uc,.slice (some ⟨zb,0,none⟩) 1 g.zc] 29)=w2 at *;generalize w1.heap.size=PB at *;obtain⟨p0,p1,p2,p3,p4,p5,_⟩:=BP.o.sixth;go_wp2_with fail
 refine HV.o.mono ?_;rintro e w3 ⟨A,n,c,rfl,hn,-,hf⟩;subst hn;have F3:=hD (F2.o.tr hf);clear hf;go_wp2
 go_ret;exact⟨rfl,F3⟩
theorem aCx {fs:List aH} (hu:(fs.map (·.name)).Nodup) (hf:fs[j]?=some f) (nm:List UInt8):findF (fs.take (j+1)) nm=if f.name=nm then some j else findF (fs.take j) nm:=by
 have hj:=(gK hf);unfold findF;rw[List.take_add_one,hf,List.findIdx?_append];have hl:(fs.take j).length=j:=by rw[List.length_take];omega
 by_cases he:f.name=nm
 . rw[if_pos he]
   have h0:List.findIdx? (λf=>decide (f.name=nm)) (fs.take j)=none:=by
    rw[List.findIdx?_eq_none_iff];intro g hg;refine decide_eq_false λh1=>?_
    obtain⟨i,hi,e⟩:=List.getElem_of_mem hg;rw[List.length_take] at hi;rw[List.getElem_take] at e;have h2:=List.pairwise_iff_getElem.1 hu i j (by rw[List.length_map];omega) (by rw[List.length_map];omega) (by omega);rw[List.getElem_map,List.getElem_map,e,(List.getElem?_eq_some_iff.1 hf).2] at h2;exact h2 (h1.trans he.symm)
   rw[h0];simp[he,hl]
 . rw[if_neg he]
   have h1:(some f).toList=[f]:=rfl;rw[h1,List.findIdx?_cons,decide_eq_false he];simp
theorem pG:∀(l:List aH) (seen:List (List UInt8)),dN seen l=none->(l.map (·.name)).Nodup∧∀f∈l,f.name∉seen
 | [],seen,_=>⟨List.nodup_nil,λ_ h=>by cases h⟩
 | a :: l,seen,h=>by
  have h:(if a.name∈seen then some a.body else dN (seen++[a.name]) l)=none:=h;split at h
  . cases h
  . rename_i hn
    obtain⟨h1,h2⟩:=pG l _ h;refine⟨?_,λf hf=>?_⟩
    . rw[List.map_cons,List.nodup_cons]
      refine⟨λhm=>?_,h1⟩;obtain⟨g,hg,e⟩:=List.mem_map.1 hm;exact h2 g hg (by rw[e];simp)
    . rcases List.mem_cons.1 hf with e|hf
      . subst e;exact hn
      . exact λh3=>h2 f hf (List.mem_append_left _ h3)
theorem aCt {fs:List aH} (h:kD fs = .good ()):(fs.map (·.name)).Nodup:=by
 unfold kD at h;split at h
 . cases h
 . rename_i h2;exact (pG _ _ h2).1
section
variable {G:Geo}{w w':World}{s:CkS}{r:CkR CkS}{zs:List Nat}{k e p:Nat}
theorem jM (h:Ck G w s zs k e p) (e' x:Nat) (he':e'≠0):
   Calls prog 99 #[.pointer (some ⟨G.g,0,none⟩),.int .i64 e',.int .i64 x] w λen w'=>en = .returned (.tuple #[])∧Ck G w' s zs k (if e=0 then e' else e) (if e=0 then x else p)∧FrK G w w':=by
 obtain⟨zv,vv,c0,c1,c2,c3,c4,c5,c6,c7,c8,c9,c10,hfz,_⟩:=h.cells;have f9:=hfz 9;have f10:=hfz 10;have hg:=h.jB;have H:=hD h;by_cases he:e=0
 . have heb:((e:Int)==0)=true:=by rw[he];rfl
   rw[if_pos he,if_pos he];have S1:=hD (h.aJo 9 (.int .i64 (e':Nat)) (s':=s) (k':=k) (e':=e') (p':=p) (λ_ _=>rfl) rfl rfl rfl rfl h.kk h.size (λx=>absurd x he') h.vars);clear h he c0 c1 c2 c3 c4 c5 c6 c7 c8 hfz;go_enter func99,ntmps99;go_wp2_with fail
   generalize w.setCell ⟨G.g,9,none⟩ (.int .i64 (e':Nat))=w1 at *;have S2:=hD (S1.o.1.aJo 10 (.int .i64 (x:Nat)) (s':=s) (k':=k) (e':=e') (p':=x) (λ_ _=>rfl) rfl rfl rfl rfl S1.o.1.kk S1.o.1.size (λx=>absurd x he') S1.o.1.vars);have f10':w1.frozen? ⟨G.g,10,none⟩=false:=by
    obtain⟨_,_,_,_,_,_,_,_,_,_,_,_,_,hfz,_⟩:=S1.o.1.cells;exact hfz 10
   have c10':w1.cell? ⟨G.g,10,none⟩=some (.int .i64 (p:Nat)):=by
    obtain⟨_,_,_,_,_,_,_,_,_,_,_,_,c,_⟩:=S1.o.1.cells;exact c
   clear c9 c10 f9 f10 heb;go_wp2
   exact fE rfl rfl ⟨rfl,S2.o.1,S1.o.2.trans S2.o.2⟩
 . have heb:((e:Int)==0)=false:=bN.2 (by omega)
   rw[if_neg he,if_neg he];clear h he c0 c1 c2 c3 c4 c5 c6 c7 c8 hfz;go_enter func99,ntmps99;go_wp2
   exact fE rfl rfl ⟨rfl,H,FrK.refl _ _⟩
theorem CkM.fails (h:CkM G w r zs k) (e' x:Nat) (he':e'≠0) (h99:e'≤99):
   Calls prog 99 #[.pointer (some ⟨G.g,0,none⟩),.int .i64 e',.int .i64 x] w λen w'=>en = .returned (.tuple #[])∧CkM G w' (r.bind λ_=> .bad e' x) zs k∧FrK G w w':=by
 obtain⟨s,e,p,h,hm⟩:=h.open_;refine (jM h e' x he').mono λen w' ⟨h1,h2,h3⟩=>⟨h1,?_,h3⟩
 rcases hm with ⟨rfl,rfl,rfl⟩|⟨h0,h9,rfl⟩
 . exact⟨he',h99,s,h2⟩
 . rw[if_neg h0,if_neg h0] at h2
   exact⟨h0,h9,s,h2⟩
theorem CkM.must (h:CkM G w r zs k) (b:Bool) (x:Nat):
  Calls prog 176 #[.pointer (some ⟨G.g,0,none⟩),.bool b,.int .i64 x] w λen w'=>en = .returned (.tuple #[])∧CkM G w' (r.bind λs=>if b=true then .good s else .bad 42 x) zs k∧FrK G w w':=by
 have H:=hD h;clear h;cases b with
 | true=>
  go_enter func176,ntmps176;go_wp2
  refine fE rfl rfl ⟨rfl,?_,FrK.refl _ _⟩;have:=H.o;cases r<;>exact this
 | false=>
  go_enter func176,ntmps176;go_wp2_with fail
  refine dR (H.o.fails 42 x (by decide) (by decide)) λw1 S1 F1=>?_;go_wp2
  refine fE rfl rfl ⟨rfl,?_,F1⟩;have:=S1.o;cases r<;>exact this
def iD (vars:List dS) (name:List UInt8):Option Nat:=vars.findIdx? λv=>decide (v.name=name)
def zV (o:Option Nat):Int:=match o with|some j=>(j:Int)|none=> -1
theorem aGd {v:dS} (hv:vars[j]?=some v) (he:v.name=name) (hb:∀i u,i<j->vars[i]?=some u->u.name≠name):iD vars name=some j:=by
 obtain⟨hl,e⟩:=List.getElem?_eq_some_iff.1 hv;unfold iD;rw[List.findIdx?_eq_some_iff_getElem];refine⟨hl,by rw[e];exact decide_eq_true he,λi hi=>?_⟩;simpa using hb i _ hi (gE (by omega))
theorem yG (hb:∀i u,i<vars.length->vars[i]?=some u->u.name≠name):iD vars name=none:=by
 unfold iD;rw[List.findIdx?_eq_none_iff];intro v hv;obtain⟨i,hi,e⟩:=List.getElem_of_mem hv;exact decide_eq_false (hb i v hi (by rw[gE hi,e]))
theorem iT (vars:List dS) (name:List UInt8):eF vars name=(iD vars name).bind λj=>vars[j]?:=by
 unfold eF iD;induction vars with
 | nil=>rfl
 | cons a l ih=>
  rw[List.find?_cons,List.findIdx?_cons];by_cases h:decide (a.name=name)=true
  . rw[h];rfl
  . have h:decide (a.name=name)=false:=by simpa using h
    rw[h,ih];cases List.findIdx? (λv=>decide (v.name=name)) l<;>rfl
theorem qA (h:iD vars name=some j):j<vars.length:=by
 unfold iD at h;exact (List.findIdx?_eq_some_iff_getElem.1 h).1
theorem qU (a:List UInt8):(bs a).toList=a:=by rw[ByteArray.toList_eq];rfl
theorem aDu {a b:List UInt8}:((bs a).toList==(bs b).toList)=true↔a=b:=by
 rw[qU,qU];exact beq_iff_eq
theorem mV (h:Ck G w s zs k e p) (name:List UInt8):
  Calls prog 100 #[.pointer (some ⟨G.g,0,none⟩),.string (bs name)] w λen w'=>en = .returned (.int .i64 (zV (iD s.vars name)))∧Fr nob w w':=by
 obtain⟨zv,vv,c0,c1,c2,c3,c4,c5,c6,c7,c8,c9,c10,hfz,hv,_⟩:=h.cells;have hn:(s.vars.length:Int)≤1000:=by have:=h.vars;have:=h.size;have:=h.geo.hM;omega
 have hg:=h.jB;obtain⟨VA,VC,rfl,_,_⟩:=hv.cap;have HV:=hD hv;have C7:=hD c7;obtain⟨R,hR⟩:∃R,zV (iD s.vars name)=R:=⟨_,rfl⟩;rw[hR];generalize s.vars=vars at *;have HR:=hD hR;clear hR;clear h c0 c1 c2 c3 c4 c5 c6 c8 c9 c10 hfz hv c7;go_enter func100,ntmps100;go_wp2
 go_loopw [5] (λi wr=>∃j:Nat,j≤vars.length∧i = .int .i64 j∧Hd (∀i u,i<j->vars[i]?=some u->u.name≠name)∧Hd (Fr nob w wr)) (λi _=>vars.length - (intOf i).toNat)
 case atStart=>exact⟨0,Nat.zero_le _,rfl,hD (λi u hi=>absurd hi (Nat.not_lt_zero _)),hD (fR w)⟩
 case round=>
  obtain⟨j,hj,rfl,HB,FR⟩:=hrel;have c7:=(FR.o.cell (World.block_lt_of_cell? _ _ C7) (λx=>x)).trans C7.o;by_cases hlt:j<vars.length
  . have hlt2:(j:Int)<(vars.length:Int):=by omega
    obtain⟨v,hv⟩:∃v,vars[j]?=some v:=⟨_,gE hlt⟩;obtain⟨vb,e,hc1⟩:=(HV.o.fr FR (λ_ _ x=>x)).some (by omega);subst e;have p0:=hc1 _ _ (fP hv).1;have HN:=hD hv;clear hc1 hv;by_cases he:v.name=name
    . have q0:((bs v.name).toList==(bs name).toList)=true:=aDu.2 he
      go_wp2
      go_ret;refine⟨?_,FR⟩;rw[<-HR.o,aGd HN.o he HB.o];rfl
    . have q0:((bs v.name).toList==(bs name).toList)=false:=by
       rw[Bool.eq_false_iff];intro x;exact he (aDu.1 x)
      go_wp2
      go_roundw
      case rel=>
       refine⟨j+1,by omega,by go_num,hD (λi u hi hu=>?_),FR⟩;by_cases hij:i=j
       . subst hij
         rw[HN.o] at hu;injection hu with hu;subst hu;exact he
       . exact HB i u (by omega) hu
      case measure=>simp[intOf];omega
  . have hle:(vars.length:Int)≤(j:Int):=by omega
    go_wp2
    go_ret;refine⟨?_,FR⟩;rw[<-HR.o,yG (λi u hi=>HB.o i u (by omega))];rfl
end
section
variable {G:Geo}{w w':World}{s:CkS}{r:CkR CkS}{zs:List Nat}{k e p:Nat}
def iJ (G:Geo) (zs:List Nat) (k:Nat) (r:CkR (Nat×CkS)) (w:World) (en:Ending) (w':World):Prop:=
 ∃t:Nat,en = .returned (.int .i64 t)∧CkM G w' (r.map (·.2)) zs k∧FrK G w w'∧∀q,r = .good q->q.1=t
theorem CkM.xM (h:CkM G w r zs k):G.bs<w.heap.size∧G.bt<w.heap.size∧G.bf<w.heap.size∧G.g<w.heap.size:=by
 obtain⟨s,e,p,h,_⟩:=h.open_;exact⟨h.slots.aY h.qV,h.types.aY h.tH,h.fn.aY h.tJ,h.jB⟩
theorem lG (h:Ck G w s zs k 0 0) (hx:G.ns[x]?=some nd):
  Calls prog 174 #[.pointer (some ⟨G.g,0,none⟩),.int .i64 x] w (iJ G zs k (aU x nd.name s) w):=by
 obtain⟨nb,nc,lv,hnv,_,_,_,_,_,x3,_⟩:=h.tree.tree.node hx;obtain⟨zv,vv,c0,_⟩:=h.cells;rw[hnv] at c0;have hx3:(x:Int)<(G.ns.length:Int):=by have:=(gK hx);omega
 have hx4:(G.ns.length:Int)≤300:=by have:=h.geo.few;omega
 have hg:=h.jB;have H:=hD h;cases hpl:iD s.vars nd.name with
 | none=>
  have HF:=hD (show Calls prog 100 #[.pointer (some ⟨G.g,0,none⟩),.string (bs nd.name)] w (λen w'=>en = .returned (.int .i64 (-1))∧Fr nob w w') from by have:=mV h nd.name;rw[hpl] at this;exact this);have em:aU x nd.name s = .bad 40 x:=by unfold aU;rw[iT,hpl];rfl
  rw[em];clear h hpl em hx;go_enter func174,ntmps174;go_wp2_with fail
  refine HF.o.mono ?_;rintro en w1 ⟨rfl,hf⟩;have S1:Hd (CkM G w1 (.good s) zs k):=H.o.no hf;have F1:=hD hf;clear hf c0 x3 hg;go_wp2_with fail
  refine dR (S1.o.fails 40 x (by decide) (by decide)) λw2 S2 F2=>?_;go_wp2
  go_ret;exact⟨0,rfl,S2,(FrK.no F1).trans F2,λq hq=>by cases hq⟩
 | some j=>
  have HF:=hD (show Calls prog 100 #[.pointer (some ⟨G.g,0,none⟩),.string (bs nd.name)] w (λen w'=>en = .returned (.int .i64 (j:Nat))∧Fr nob w w') from by have:=mV h nd.name;rw[hpl] at this;exact this);have hj:=qA hpl;obtain⟨v,hv⟩:∃v,s.vars[j]?=some v:=⟨_,gE hj⟩;have em:aU x nd.name s = .good (v.ty,{ s with slots:=s.slots.set x v.slot }):=by unfold aU;rw[iT,hpl];simp only[Option.bind,hv]
  rw[em];have hj2:(j:Int)<(s.vars.length:Int):=by omega
  have hj3:(s.vars.length:Int)≤1000:=by have:=h.vars;have:=h.size;have:=h.geo.hM;omega
  have HV:=hD hv;clear h hpl em hx hj hv;go_enter func174,ntmps174;go_wp2_with fail
  refine HF.o.mono ?_;rintro en w1 ⟨rfl,hf⟩;have S1:=hD (H.o.no hf);have F1:=hD hf;clear hf c0 x3 hg;obtain⟨zv,vv,_,_,_,c3,_,_,_,c7,_,_,_,hfz,hvv,_⟩:=S1.o.cells;obtain⟨VA,VC,rfl,_,_⟩:=hvv.cap;obtain⟨vb,e,hc1⟩:=hvv.some (by omega);subst e;have p1:=hc1 _ _ (fP HV).2.1;have p2:=hc1 _ _ (fP HV).2.2;have hne:vb≠G.bs:=λe=>S1.o.slots.fM hvv (by decide) (g:=vb) (by simp[blk];have:=hvv.mW.1;omega) (by rw[S1.o.qV,e])
  have hneg:G.g≠G.bs:=S1.o.gne.2.1;have fzs:w1.frozen? ⟨G.bs,x,none⟩=false:=by
   obtain⟨_,A',c',hv',⟨_,h2⟩|⟨g',cur,h1,_,hb,_⟩⟩:=S1.o.slots
   . have:=S1.o.geo.pos;omega
   . injection hv' with e1 _ _
     rw[<-e1] at h1;injection h1 with h1;injection h1 with h1;subst h1;exact hb.frozen x
  have czs:∃u,w1.cell? ⟨G.bs,x,none⟩=some u:=by
   obtain⟨g',e,hcc⟩:=S1.o.slots.some S1.o.geo.pos;injection e with e;injection e with e;subst e;have hl:(dK s.slots).length=G.ns.length*1:=S1.o.slots.len;exact⟨_,hcc x _ (gE (by omega))⟩
  obtain⟨u,czs⟩:=czs;have F0:Hd (FrK G w w1):=FrK.no F1;have S2:=hD (S1.o.aNw x (v.slot:Nat));have n3:(⟨G.bs,x,none⟩:Addr)≠⟨G.g,3,none⟩:=by intro e;injection e with e;exact hneg e.symm
  have n7:(⟨G.bs,x,none⟩:Addr)≠⟨G.g,7,none⟩:=by intro e;injection e with e;exact hneg e.symm
  have np:(⟨G.bs,x,none⟩:Addr)≠⟨vb,j*3+2,none⟩:=by intro e;injection e with e;exact hne e.symm
  have D3:=hD c3;have D7:=hD c7;have DP:=hD p2;have e3:=hD ((World.cell?_setCell_other w1.drew ⟨G.bs,x,none⟩ ⟨G.g,3,none⟩ (.int .i64 (v.slot:Nat)) n3).trans c3);have e7:=hD ((World.cell?_setCell_other w1.drew ⟨G.bs,x,none⟩ ⟨G.g,7,none⟩ (.int .i64 (v.slot:Nat)) n7).trans c7);have ep:=hD ((World.cell?_setCell_other w1.drew ⟨G.bs,x,none⟩ ⟨vb,j*3+2,none⟩ (.int .i64 (v.slot:Nat)) np).trans p2);have eq1:=hD ((World.cell?_setCell_other w1.drew ⟨G.bs,x,none⟩ ⟨vb,j*3+1,none⟩ (.int .i64 (v.slot:Nat)) (by intro e;injection e with e;exact hne e.symm)).trans p1);clear n3 n7 np hfz hc1 hvv hne hneg p1;go_wp2_with fail
  go_region_held3 (λwx=>wx.cell? ⟨G.g,3,none⟩=some (.slice (some ⟨G.bs,0,none⟩) G.ns.length G.cs)∧wx.cell? ⟨G.g,7,none⟩=some (.slice (some ⟨vb,0,none⟩) s.vars.length VC)∧wx.cell? ⟨vb,j*3+2,none⟩=some (.int .i64 (v.slot:Nat))) (first|exact⟨D3,D7,DP⟩|exact⟨e3.o,e7.o,ep.o⟩) (first|fail)
  clear c3 c7 p2 fzs czs;have c7:(w1.setCell ⟨G.bs,x,none⟩ (.int .i64 (v.slot:Nat))).cell? ⟨G.g,7,none⟩=some (.slice (some ⟨vb,0,none⟩) s.vars.length VC):=e7.o;have p1:(w1.setCell ⟨G.bs,x,none⟩ (.int .i64 (v.slot:Nat))).cell? ⟨vb,j*3+1,none⟩=some (.int .i64 (v.ty:Nat)):=eq1.o;clear D3 D7 DP e3 e7 ep eq1;generalize w1.setCell ⟨G.bs,x,none⟩ (.int .i64 (v.slot:Nat))=w2 at *;go_wp2
  go_ret;exact⟨v.ty,rfl,S2.o.1.no ((fR w2).drew),(F0.o.trans S2.o.2).trans (FrK.no ((fR w2).drew)),λq hq=>by injection hq with hq;subst hq;rfl⟩
end
theorem aOx (a b:Nat) (w:World):Calls prog 212 #[.string (bs [124,124]),.int .i64 a,.int .i64 b] w λen w'=>en = .returned (.int .i64 (bP [124,124] a b:Nat))∧Fr nob w w':=by
 have q0:((bs [124,124]).toList==[124,124])=true:=by kernel_rfl
 by_cases hab:a=b
 . subst hab
   have e0:((a:Int) != (a:Int))=false:=by simp
   by_cases h2:a=2
   . subst h2
     rw[show bP [124,124] 2 2=2 from rfl];generalize bs [124,124]=nmv at *;clear e0;go_enter func212,ntmps212;go_wp2
     go_ret;exact⟨rfl,fR w⟩
   . have e2:((a:Int)==2)=false:=bN.2 (by omega)
     rw[show bP [124,124] a a=0 by simp[bP,h2]];generalize bs [124,124]=nmv at *;clear h2;go_enter func212,ntmps212;go_wp2
     go_ret;exact⟨rfl,fR w⟩
 . have e0:((a:Int) != (b:Int))=true:=by rw[bne,bN.2 (by omega)];rfl
   rw[show bP [124,124] a b=0 by simp[bP,hab]];generalize bs [124,124]=nmv at *;clear hab;go_enter func212,ntmps212;go_wp2
   go_ret;exact⟨rfl,fR w⟩
theorem aOw (a b:Nat) (w:World):Calls prog 212 #[.string (bs [38,38]),.int .i64 a,.int .i64 b] w λen w'=>en = .returned (.int .i64 (bP [38,38] a b:Nat))∧Fr nob w w':=by
 have q0:((bs [38,38]).toList==[124,124])=false:=by kernel_rfl
 have q1:((bs [38,38]).toList==[38,38])=true:=by kernel_rfl
 by_cases hab:a=b
 . subst hab
   have e0:((a:Int) != (a:Int))=false:=by simp
   by_cases h2:a=2
   . subst h2
     rw[show bP [38,38] 2 2=2 from rfl];generalize bs [38,38]=nmv at *;clear e0;go_enter func212,ntmps212;go_wp2
     go_ret;exact⟨rfl,fR w⟩
   . have e2:((a:Int)==2)=false:=bN.2 (by omega)
     rw[show bP [38,38] a a=0 by simp[bP,h2]];generalize bs [38,38]=nmv at *;clear h2;go_enter func212,ntmps212;go_wp2
     go_ret;exact⟨rfl,fR w⟩
 . have e0:((a:Int) != (b:Int))=true:=by rw[bne,bN.2 (by omega)];rfl
   rw[show bP [38,38] a b=0 by simp[bP,hab]];generalize bs [38,38]=nmv at *;clear hab;go_enter func212,ntmps212;go_wp2
   go_ret;exact⟨rfl,fR w⟩
theorem aOv (a b:Nat) (w:World):Calls prog 212 #[.string (bs [60]),.int .i64 a,.int .i64 b] w λen w'=>en = .returned (.int .i64 (bP [60] a b:Nat))∧Fr nob w w':=by
 have q0:((bs [60]).toList==[124,124])=false:=by kernel_rfl
 have q1:((bs [60]).toList==[38,38])=false:=by kernel_rfl
 have q2:((bs [60]).toList==[60])=true:=by kernel_rfl
 by_cases hab:a=b
 . subst hab
   have e0:((a:Int) != (a:Int))=false:=by simp
   by_cases h1:a=1
   . subst h1
     rw[show bP [60] 1 1=2 from rfl];generalize bs [60]=nmv at *;clear e0;go_enter func212,ntmps212;go_wp2
     go_ret;exact⟨rfl,fR w⟩
   . have e1:((a:Int)==1)=false:=bN.2 (by omega)
     rw[show bP [60] a a=0 by simp[bP,h1]];generalize bs [60]=nmv at *;clear h1;go_enter func212,ntmps212;go_wp2
     go_ret;exact⟨rfl,fR w⟩
 . have e0:((a:Int) != (b:Int))=true:=by rw[bne,bN.2 (by omega)];rfl
   rw[show bP [60] a b=0 by simp[bP,hab]];generalize bs [60]=nmv at *;clear hab;go_enter func212,ntmps212;go_wp2
   go_ret;exact⟨rfl,fR w⟩
theorem aOu (a b:Nat) (w:World):Calls prog 212 #[.string (bs [60,61]),.int .i64 a,.int .i64 b] w λen w'=>en = .returned (.int .i64 (bP [60,61] a b:Nat))∧Fr nob w w':=by
 have q0:((bs [60,61]).toList==[124,124])=false:=by kernel_rfl
 have q1:((bs [60,61]).toList==[38,38])=false:=by kernel_rfl
 have q2:((bs [60,61]).toList==[60])=false:=by kernel_rfl
 have q3:((bs [60,61]).toList==[60,61])=true:=by kernel_rfl
 by_cases hab:a=b
 . subst hab
   have e0:((a:Int) != (a:Int))=false:=by simp
   by_cases h1:a=1
   . subst h1
     rw[show bP [60,61] 1 1=2 from rfl];generalize bs [60,61]=nmv at *;clear e0;go_enter func212,ntmps212;go_wp2
     go_ret;exact⟨rfl,fR w⟩
   . have e1:((a:Int)==1)=false:=bN.2 (by omega)
     rw[show bP [60,61] a a=0 by simp[bP,h1]];generalize bs [60,61]=nmv at *;clear h1;go_enter func212,ntmps212;go_wp2
     go_ret;exact⟨rfl,fR w⟩
 . have e0:((a:Int) != (b:Int))=true:=by rw[bne,bN.2 (by omega)];rfl
   rw[show bP [60,61] a b=0 by simp[bP,hab]];generalize bs [60,61]=nmv at *;clear hab;go_enter func212,ntmps212;go_wp2
   go_ret;exact⟨rfl,fR w⟩
theorem aOt (a b:Nat) (w:World):Calls prog 212 #[.string (bs [61,61]),.int .i64 a,.int .i64 b] w λen w'=>en = .returned (.int .i64 (bP [61,61] a b:Nat))∧Fr nob w w':=by
 have q0:((bs [61,61]).toList==[124,124])=false:=by kernel_rfl
 have q1:((bs [61,61]).toList==[38,38])=false:=by kernel_rfl
 have q2:((bs [61,61]).toList==[60])=false:=by kernel_rfl
 have q3:((bs [61,61]).toList==[60,61])=false:=by kernel_rfl
 have q4:((bs [61,61]).toList==[61,61])=true:=by kernel_rfl
 by_cases hab:a=b
 . subst hab
   have e0:((a:Int) != (a:Int))=false:=by simp
   by_cases h1:a=1
   . subst h1
     rw[show bP [61,61] 1 1=2 from rfl];generalize bs [61,61]=nmv at *;clear e0;go_enter func212,ntmps212;go_wp2
     go_ret;exact⟨rfl,fR w⟩
   . have e1:((a:Int)==1)=false:=bN.2 (by omega)
     by_cases h2:a=2
     . subst h2
       rw[show bP [61,61] 2 2=2 from rfl];generalize bs [61,61]=nmv at *;clear e0;go_enter func212,ntmps212;go_wp2
       go_ret;exact⟨rfl,fR w⟩
     . have e2:((a:Int)==2)=false:=bN.2 (by omega)
       by_cases h3:a=3
       . subst h3
         rw[show bP [61,61] 3 3=2 from rfl];generalize bs [61,61]=nmv at *;clear e0;go_enter func212,ntmps212;go_wp2
         go_ret;exact⟨rfl,fR w⟩
       . have e3:((a:Int)==3)=false:=bN.2 (by omega)
         rw[show bP [61,61] a a=0 by simp[bP,h1,h2,h3]];generalize bs [61,61]=nmv at *;clear h1;clear h2;clear h3;go_enter func212,ntmps212;go_wp2
         go_ret;exact⟨rfl,fR w⟩
 . have e0:((a:Int) != (b:Int))=true:=by rw[bne,bN.2 (by omega)];rfl
   rw[show bP [61,61] a b=0 by simp[bP,hab]];generalize bs [61,61]=nmv at *;clear hab;go_enter func212,ntmps212;go_wp2
   go_ret;exact⟨rfl,fR w⟩
theorem aOs (a b:Nat) (w:World):Calls prog 212 #[.string (bs [33,61]),.int .i64 a,.int .i64 b] w λen w'=>en = .returned (.int .i64 (bP [33,61] a b:Nat))∧Fr nob w w':=by
 have q0:((bs [33,61]).toList==[124,124])=false:=by kernel_rfl
 have q1:((bs [33,61]).toList==[38,38])=false:=by kernel_rfl
 have q2:((bs [33,61]).toList==[60])=false:=by kernel_rfl
 have q3:((bs [33,61]).toList==[60,61])=false:=by kernel_rfl
 have q4:((bs [33,61]).toList==[61,61])=false:=by kernel_rfl
 have q5:((bs [33,61]).toList==[33,61])=true:=by kernel_rfl
 by_cases hab:a=b
 . subst hab
   have e0:((a:Int) != (a:Int))=false:=by simp
   by_cases h1:a=1
   . subst h1
     rw[show bP [33,61] 1 1=2 from rfl];generalize bs [33,61]=nmv at *;clear e0;go_enter func212,ntmps212;go_wp2
     go_ret;exact⟨rfl,fR w⟩
   . have e1:((a:Int)==1)=false:=bN.2 (by omega)
     by_cases h2:a=2
     . subst h2
       rw[show bP [33,61] 2 2=2 from rfl];generalize bs [33,61]=nmv at *;clear e0;go_enter func212,ntmps212;go_wp2
       go_ret;exact⟨rfl,fR w⟩
     . have e2:((a:Int)==2)=false:=bN.2 (by omega)
       by_cases h3:a=3
       . subst h3
         rw[show bP [33,61] 3 3=2 from rfl];generalize bs [33,61]=nmv at *;clear e0;go_enter func212,ntmps212;go_wp2
         go_ret;exact⟨rfl,fR w⟩
       . have e3:((a:Int)==3)=false:=bN.2 (by omega)
         rw[show bP [33,61] a a=0 by simp[bP,h1,h2,h3]];generalize bs [33,61]=nmv at *;clear h1;clear h2;clear h3;go_enter func212,ntmps212;go_wp2
         go_ret;exact⟨rfl,fR w⟩
 . have e0:((a:Int) != (b:Int))=true:=by rw[bne,bN.2 (by omega)];rfl
   rw[show bP [33,61] a b=0 by simp[bP,hab]];generalize bs [33,61]=nmv at *;clear hab;go_enter func212,ntmps212;go_wp2
   go_ret;exact⟨rfl,fR w⟩
theorem aOr (a b:Nat) (w:World):Calls prog 212 #[.string (bs [43]),.int .i64 a,.int .i64 b] w λen w'=>en = .returned (.int .i64 (bP [43] a b:Nat))∧Fr nob w w':=by
 have q0:((bs [43]).toList==[124,124])=false:=by kernel_rfl
 have q1:((bs [43]).toList==[38,38])=false:=by kernel_rfl
 have q2:((bs [43]).toList==[60])=false:=by kernel_rfl
 have q3:((bs [43]).toList==[60,61])=false:=by kernel_rfl
 have q4:((bs [43]).toList==[61,61])=false:=by kernel_rfl
 have q5:((bs [43]).toList==[33,61])=false:=by kernel_rfl
 have q6:((bs [43]).toList==[43])=true:=by kernel_rfl
 by_cases hab:a=b
 . subst hab
   have e0:((a:Int) != (a:Int))=false:=by simp
   by_cases h1:a=1
   . subst h1
     rw[show bP [43] 1 1=1 from rfl];generalize bs [43]=nmv at *;clear e0;go_enter func212,ntmps212;go_wp2
     go_ret;exact⟨rfl,fR w⟩
   . have e1:((a:Int)==1)=false:=bN.2 (by omega)
     by_cases h3:a=3
     . subst h3
       rw[show bP [43] 3 3=3 from rfl];generalize bs [43]=nmv at *;clear e0;go_enter func212,ntmps212;go_wp2
       go_ret;exact⟨rfl,fR w⟩
     . have e3:((a:Int)==3)=false:=bN.2 (by omega)
       rw[show bP [43] a a=0 by simp[bP,h1,h3]];generalize bs [43]=nmv at *;clear h1;clear h3;go_enter func212,ntmps212;go_wp2
       go_ret;exact⟨rfl,fR w⟩
 . have e0:((a:Int) != (b:Int))=true:=by rw[bne,bN.2 (by omega)];rfl
   rw[show bP [43] a b=0 by simp[bP,hab]];generalize bs [43]=nmv at *;clear hab;go_enter func212,ntmps212;go_wp2
   go_ret;exact⟨rfl,fR w⟩
theorem aOq (a b:Nat) (w:World):Calls prog 212 #[.string (bs [45]),.int .i64 a,.int .i64 b] w λen w'=>en = .returned (.int .i64 (bP [45] a b:Nat))∧Fr nob w w':=by
 have q0:((bs [45]).toList==[124,124])=false:=by kernel_rfl
 have q1:((bs [45]).toList==[38,38])=false:=by kernel_rfl
 have q2:((bs [45]).toList==[60])=false:=by kernel_rfl
 have q3:((bs [45]).toList==[60,61])=false:=by kernel_rfl
 have q4:((bs [45]).toList==[61,61])=false:=by kernel_rfl
 have q5:((bs [45]).toList==[33,61])=false:=by kernel_rfl
 have q6:((bs [45]).toList==[43])=false:=by kernel_rfl
 by_cases hab:a=b
 . subst hab
   have e0:((a:Int) != (a:Int))=false:=by simp
   by_cases h1:a=1
   . subst h1
     rw[show bP [45] 1 1=1 from rfl];generalize bs [45]=nmv at *;clear e0;go_enter func212,ntmps212;go_wp2
     go_ret;exact⟨rfl,fR w⟩
   . have e1:((a:Int)==1)=false:=bN.2 (by omega)
     rw[show bP [45] a a=0 by simp[bP,h1]];generalize bs [45]=nmv at *;clear h1;go_enter func212,ntmps212;go_wp2
     go_ret;exact⟨rfl,fR w⟩
 . have e0:((a:Int) != (b:Int))=true:=by rw[bne,bN.2 (by omega)];rfl
   rw[show bP [45] a b=0 by simp[bP,hab]];generalize bs [45]=nmv at *;clear hab;go_enter func212,ntmps212;go_wp2
   go_ret;exact⟨rfl,fR w⟩
theorem aOp (a b:Nat) (w:World):Calls prog 212 #[.string (bs [42]),.int .i64 a,.int .i64 b] w λen w'=>en = .returned (.int .i64 (bP [42] a b:Nat))∧Fr nob w w':=by
 have q0:((bs [42]).toList==[124,124])=false:=by kernel_rfl
 have q1:((bs [42]).toList==[38,38])=false:=by kernel_rfl
 have q2:((bs [42]).toList==[60])=false:=by kernel_rfl
 have q3:((bs [42]).toList==[60,61])=false:=by kernel_rfl
 have q4:((bs [42]).toList==[61,61])=false:=by kernel_rfl
 have q5:((bs [42]).toList==[33,61])=false:=by kernel_rfl
 have q6:((bs [42]).toList==[43])=false:=by kernel_rfl
 by_cases hab:a=b
 . subst hab
   have e0:((a:Int) != (a:Int))=false:=by simp
   by_cases h1:a=1
   . subst h1
     rw[show bP [42] 1 1=1 from rfl];generalize bs [42]=nmv at *;clear e0;go_enter func212,ntmps212;go_wp2
     go_ret;exact⟨rfl,fR w⟩
   . have e1:((a:Int)==1)=false:=bN.2 (by omega)
     rw[show bP [42] a a=0 by simp[bP,h1]];generalize bs [42]=nmv at *;clear h1;go_enter func212,ntmps212;go_wp2
     go_ret;exact⟨rfl,fR w⟩
 . have e0:((a:Int) != (b:Int))=true:=by rw[bne,bN.2 (by omega)];rfl
   rw[show bP [42] a b=0 by simp[bP,hab]];generalize bs [42]=nmv at *;clear hab;go_enter func212,ntmps212;go_wp2
   go_ret;exact⟨rfl,fR w⟩
theorem aOo (a b:Nat) (w:World):Calls prog 212 #[.string (bs [47]),.int .i64 a,.int .i64 b] w λen w'=>en = .returned (.int .i64 (bP [47] a b:Nat))∧Fr nob w w':=by
 have q0:((bs [47]).toList==[124,124])=false:=by kernel_rfl
 have q1:((bs [47]).toList==[38,38])=false:=by kernel_rfl
 have q2:((bs [47]).toList==[60])=false:=by kernel_rfl
 have q3:((bs [47]).toList==[60,61])=false:=by kernel_rfl
 have q4:((bs [47]).toList==[61,61])=false:=by kernel_rfl
 have q5:((bs [47]).toList==[33,61])=false:=by kernel_rfl
 have q6:((bs [47]).toList==[43])=false:=by kernel_rfl
 by_cases hab:a=b
 . subst hab
   have e0:((a:Int) != (a:Int))=false:=by simp
   by_cases h1:a=1
   . subst h1
     rw[show bP [47] 1 1=1 from rfl];generalize bs [47]=nmv at *;clear e0;go_enter func212,ntmps212;go_wp2
     go_ret;exact⟨rfl,fR w⟩
   . have e1:((a:Int)==1)=false:=bN.2 (by omega)
     rw[show bP [47] a a=0 by simp[bP,h1]];generalize bs [47]=nmv at *;clear h1;go_enter func212,ntmps212;go_wp2
     go_ret;exact⟨rfl,fR w⟩
 . have e0:((a:Int) != (b:Int))=true:=by rw[bne,bN.2 (by omega)];rfl
   rw[show bP [47] a b=0 by simp[bP,hab]];generalize bs [47]=nmv at *;clear hab;go_enter func212,ntmps212;go_wp2
   go_ret;exact⟨rfl,fR w⟩
theorem aNp (a b:Nat) (w:World):Calls prog 212 #[.string (bs [37]),.int .i64 a,.int .i64 b] w λen w'=>en = .returned (.int .i64 (bP [37] a b:Nat))∧Fr nob w w':=by
 have q0:((bs [37]).toList==[124,124])=false:=by kernel_rfl
 have q1:((bs [37]).toList==[38,38])=false:=by kernel_rfl
 have q2:((bs [37]).toList==[60])=false:=by kernel_rfl
 have q3:((bs [37]).toList==[60,61])=false:=by kernel_rfl
 have q4:((bs [37]).toList==[61,61])=false:=by kernel_rfl
 have q5:((bs [37]).toList==[33,61])=false:=by kernel_rfl
 have q6:((bs [37]).toList==[43])=false:=by kernel_rfl
 by_cases hab:a=b
 . subst hab
   have e0:((a:Int) != (a:Int))=false:=by simp
   by_cases h1:a=1
   . subst h1
     rw[show bP [37] 1 1=1 from rfl];generalize bs [37]=nmv at *;clear e0;go_enter func212,ntmps212;go_wp2
     go_ret;exact⟨rfl,fR w⟩
   . have e1:((a:Int)==1)=false:=bN.2 (by omega)
     rw[show bP [37] a a=0 by simp[bP,h1]];generalize bs [37]=nmv at *;clear h1;go_enter func212,ntmps212;go_wp2
     go_ret;exact⟨rfl,fR w⟩
 . have e0:((a:Int) != (b:Int))=true:=by rw[bne,bN.2 (by omega)];rfl
   rw[show bP [37] a b=0 by simp[bP,hab]];generalize bs [37]=nmv at *;clear hab;go_enter func212,ntmps212;go_wp2
   go_ret;exact⟨rfl,fR w⟩
theorem aLk {sg:List UInt8} (hs:sg∈jD) (a b:Nat) (w:World):Calls prog 212 #[.string (bs sg),.int .i64 a,.int .i64 b] w λen w'=>en = .returned (.int .i64 (bP sg a b:Nat))∧Fr nob w w':=by
 simp only[jD,List.mem_cons,List.not_mem_nil,or_false] at hs;rcases hs with rfl|rfl|rfl|rfl|rfl|rfl|rfl|rfl|rfl|rfl|rfl
 . exact aOx a b w
 . exact aOw a b w
 . exact aOv a b w
 . exact aOu a b w
 . exact aOt a b w
 . exact aOs a b w
 . exact aOr a b w
 . exact aOq a b w
 . exact aOp a b w
 . exact aOo a b w
 . exact aNp a b w
structure CkC (G:Geo) (w:World) (r:CkR CkS) (zs:List Nat) (k C:Nat) (t:TypeId) (cs:Array Value):Prop where
 m:CkM G w r zs k
 b:Blk w C t cs
 n0:C≠G.g
 n1:C≠G.bt
 n2:C≠G.bs
 n3:C≠G.bf
 nv:t≠62
section
variable {G:Geo}{w w':World}{s:CkS}{r r':CkR CkS}{zs:List Nat}{k e p C:Nat}{t:TypeId}{cs:Array Value}
theorem CkC.new (h:CkM G w r zs k) (t:TypeId) (cs:Array Value) (hv:t≠62):CkC G (w.alloc (.cells cs t)) r zs k w.heap.size t cs:=by
 obtain⟨h1,h2,h3,h4⟩:=h.xM;exact⟨h.no ((fR w).alloc _),Blk.new w _ _,by omega,by omega,by omega,by omega,hv⟩
theorem CkC.to (h:CkC G w r zs k C t cs) (h':CkM G w' r' zs k) (f:FrK G w w'):CkC G w' r' zs k C t cs:=
 ⟨h',f.far h.b h.n0 h.n1 h.n2 h.n3 h.nv,h.n0,h.n1,h.n2,h.n3,h.nv⟩
theorem CkC.no (h:CkC G w r zs k C t cs) (f:Fr nob w w'):CkC G w' r zs k C t cs:=⟨h.m.no f,h.b.fr f (λx=>x),h.n0,h.n1,h.n2,h.n3,h.nv⟩
theorem CkM.kid (h:CkM G w r zs k) (hx:G.ns[x]?=some nd){kb:Nat} (hlv:G.lvs[x]?=some (.slice (some ⟨kb,0,none⟩) n c)) (ha:nd.l[j]?=some a):w.cell? ⟨kb,j,none⟩=some (.int .i64 (a:Nat)):=by
 obtain⟨_,_,_,hnv,_⟩:=h.tree.tree.node hx;have ho:Own w 3 1 (.slice (some ⟨kb,0,none⟩) n c) nd.l.length (ints nd.l):=h.tree.tree.below.get hx hlv;obtain⟨kb',c',e,_,hc⟩:=cB ho (by have:=(gK ha);omega);injection e with e;injection e with e;injection e with e;subst e;exact hc j a ha
theorem CkM.node (h:CkM G w r zs k) (hx:G.ns[x]?=some nd):∃nb nc kv,G.nv = .slice (some ⟨nb,0,none⟩) G.ns.length nc∧G.lvs[x]?=some kv∧Own w 3 1 kv nd.l.length (ints nd.l)∧nb<w.heap.size∧(x:Int)<(G.ns.length:Int) ∧
  w.cell? ⟨G.g,0,none⟩=some (.slice (some ⟨nb,0,none⟩) G.ns.length nc) ∧
  w.cell? ⟨nb,x*5,none⟩=some (.int .i64 nd.kind)∧w.cell? ⟨nb,x*5+1,none⟩=some (.int .i64 nd.line)∧w.cell? ⟨nb,x*5+2,none⟩=some (.int .i64 nd.n)∧w.cell? ⟨nb,x*5+3,none⟩=some (.string (bs nd.name))∧w.cell? ⟨nb,x*5+4,none⟩=some kv:=by
 have hlt:=(gK hx);have htr:=h.tree.tree;obtain⟨s,e,p,h0,_⟩:=h.open_;obtain⟨zv,vv,c0,_⟩:=h0.cells;obtain⟨A,c,e,hc,_⟩:=htr.nodes.cap;have hno:=htr.nodes;rw[e] at hno;obtain⟨nb,e2,hcell⟩:=hno.some (by omega);subst e2;obtain⟨lv,hlv⟩:∃lv,G.lvs[x]?=some lv:=⟨_,gE (by have:=htr.same;omega)⟩;have key:=gY hx hlv;exact⟨nb,c,lv,e,hlv,htr.below.get hx hlv,hno.aY (by simp[blk];omega),by omega,by rw[<-e];exact c0,hcell _ _ (key 0 _ rfl),hcell _ _ (key 1 _ rfl),hcell _ _ (key 2 _ rfl),hcell _ _ (key 3 _ rfl),hcell _ _ (key 4 _ rfl)⟩
def gW (G:Geo) (zs:List Nat) (k:Nat) (ex:Nat->CkS->CkR (Nat×CkS)) (x:Nat):Prop:=
 ∀(w:World) (r:CkR CkS),CkM G w r zs k->Calls prog 175 #[.pointer (some ⟨G.g,0,none⟩),.int .i64 x] w (iJ G zs k (r.bind (ex x)) w)
theorem sW {α:Type}{q:CkR (α×CkS)}{T:α->Nat}{P:α->Prop} [DecidablePred P] {b:Bool} (hb:∀a,q = .good a->b=decide (P a.1)):
  ((q.map (·.2)).bind λs=>if b=true then CkR.good s else .bad 42 x)=(q.bind λr=>if P r.1 then CkR.good (T r.1,r.2) else .bad 42 x).map (·.2):=by
 cases q with
 | bad e p=>rfl
 | good a=>
  have:=hb a rfl;simp only[CkR.bK,CkR.aC,this,decide_eq_true_eq];split<;>rfl
theorem nR {α:Type}{q:CkR (α×CkS)}{T:α->Nat}{P:α->Prop} [DecidablePred P] {u:Nat×CkS}{v:Nat} (h:(q.bind λr=>if P r.1 then CkR.good (T r.1,r.2) else .bad 42 x) = .good u) (hT:∀a,q = .good a->T a.1=v):u.1=v:=by
 cases q with
 | bad e p=>cases h
 | good a=>
  simp only[CkR.aC] at h;split at h
  . injection h with h;subst h;exact hT a rfl
  . cases h
end
section
variable {G:Geo}{w w':World}{s:CkS}{r r':CkR CkS}{zs:List Nat}{k:Nat}{ex:Nat->CkS->CkR (Nat×CkS)}
theorem aDe (h:Ck G w s zs k 0 0) (hx:G.ns[x]?=some ⟨1,line,n,[],[]⟩):
  Calls prog 194 #[.pointer (some ⟨G.g,0,none⟩),.int .i64 x] w (iJ G zs k (bR G.fs ex x ⟨1,line,n,[],[]⟩ s) w):=by
 have M0:Hd (CkM G w (.good s) zs k):=h;obtain⟨nb,nc,kv,hnv,hkv,hown,nlt,hx3,c0,x0,x1,x2,x3,x4⟩:=M0.o.node hx;dsimp only at hown x0 x1 x2 x3 x4;have hx4:(G.ns.length:Int)≤300:=by have:=h.geo.few;omega
 have glt:=h.jB;have gn:¬G.g=w.heap.size:=by omega
 have nn:¬nb=w.heap.size:=by omega
 obtain⟨KA,KC,rfl,_,_⟩:=hown.cap;clear h hx hkv hown;go_enter func194,ntmps194;go_wp2
 go_ret;exact⟨1,rfl,M0.o.no ((fR w).alloc _),FrK.no ((fR w).alloc _),λq hq=>by injection hq with hq;subst hq;rfl⟩
theorem yZ (h:Ck G w s zs k 0 0) (hx:G.ns[x]?=some ⟨2,line,n,[],[]⟩):
  Calls prog 194 #[.pointer (some ⟨G.g,0,none⟩),.int .i64 x] w (iJ G zs k (bR G.fs ex x ⟨2,line,n,[],[]⟩ s) w):=by
 have M0:Hd (CkM G w (.good s) zs k):=h;obtain⟨nb,nc,kv,hnv,hkv,hown,nlt,hx3,c0,x0,x1,x2,x3,x4⟩:=M0.o.node hx;dsimp only at hown x0 x1 x2 x3 x4;have hx4:(G.ns.length:Int)≤300:=by have:=h.geo.few;omega
 have glt:=h.jB;have gn:¬G.g=w.heap.size:=by omega
 have nn:¬nb=w.heap.size:=by omega
 obtain⟨KA,KC,rfl,_,_⟩:=hown.cap;clear h hx hkv hown;go_enter func194,ntmps194;go_wp2
 go_ret;exact⟨2,rfl,M0.o.no ((fR w).alloc _),FrK.no ((fR w).alloc _),λq hq=>by injection hq with hq;subst hq;rfl⟩
theorem yX (h:Ck G w s zs k 0 0) (hx:G.ns[x]?=some ⟨3,line,0,nm,[]⟩):
  Calls prog 194 #[.pointer (some ⟨G.g,0,none⟩),.int .i64 x] w (iJ G zs k (bR G.fs ex x ⟨3,line,0,nm,[]⟩ s) w):=by
 have M0:Hd (CkM G w (.good s) zs k):=h;obtain⟨nb,nc,kv,hnv,hkv,hown,nlt,hx3,c0,x0,x1,x2,x3,x4⟩:=M0.o.node hx;dsimp only at hown x0 x1 x2 x3 x4;have hx4:(G.ns.length:Int)≤300:=by have:=h.geo.few;omega
 have glt:=h.jB;have gn:¬G.g=w.heap.size:=by omega
 have nn:¬nb=w.heap.size:=by omega
 obtain⟨KA,KC,rfl,_,_⟩:=hown.cap;clear h hx hkv hown;go_enter func194,ntmps194;go_wp2
 go_ret;exact⟨3,rfl,M0.o.no ((fR w).alloc _),FrK.no ((fR w).alloc _),λq hq=>by injection hq with hq;subst hq;rfl⟩
theorem wN (h:Ck G w s zs k 0 0) (hx:G.ns[x]?=some ⟨19,line,0,[],[]⟩):
  Calls prog 194 #[.pointer (some ⟨G.g,0,none⟩),.int .i64 x] w (iJ G zs k (bR G.fs ex x ⟨19,line,0,[],[]⟩ s) w):=by
 have M0:Hd (CkM G w (.good s) zs k):=h;obtain⟨nb,nc,kv,hnv,hkv,hown,nlt,hx3,c0,x0,x1,x2,x3,x4⟩:=M0.o.node hx;dsimp only at hown x0 x1 x2 x3 x4;have hx4:(G.ns.length:Int)≤300:=by have:=h.geo.few;omega
 have glt:=h.jB;have gn:¬G.g=w.heap.size:=by omega
 have nn:¬nb=w.heap.size:=by omega
 obtain⟨KA,KC,rfl,_,_⟩:=hown.cap;clear h hx hkv hown;go_enter func194,ntmps194;go_wp2
 go_ret;exact⟨1,rfl,M0.o.no ((fR w).alloc _),FrK.no ((fR w).alloc _),λq hq=>by injection hq with hq;subst hq;rfl⟩
theorem aCz (h:Ck G w s zs k 0 0) (hx:G.ns[x]?=some ⟨4,line,0,nm,[]⟩):
  Calls prog 194 #[.pointer (some ⟨G.g,0,none⟩),.int .i64 x] w (iJ G zs k (bR G.fs ex x ⟨4,line,0,nm,[]⟩ s) w):=by
 have M0:Hd (CkM G w (.good s) zs k):=h;obtain⟨nb,nc,kv,hnv,hkv,hown,nlt,hx3,c0,x0,x1,x2,x3,x4⟩:=M0.o.node hx;dsimp only at hown x0 x1 x2 x3 x4;have hx4:(G.ns.length:Int)≤300:=by have:=h.geo.few;omega
 have glt:=h.jB;have gn:¬G.g=w.heap.size:=by omega
 have nn:¬nb=w.heap.size:=by omega
 obtain⟨KA,KC,rfl,_,_⟩:=hown.cap;have HX:=hD hx;have hS:=hD h;clear h hx hkv hown;go_enter func194,ntmps194;go_wp2_with fail
 refine (lG (hS.o.no ((fR w).alloc _)) HX).mono ?_;rintro en w2 ⟨t,rfl,h2,f2,hq⟩;have M2:=hD h2;have F2:=hD ((FrK.no ((fR w).alloc _)).trans f2);have HQ:=hD hq;clear h2 f2 hq;go_wp2
 go_ret;exact⟨t,rfl,M2,F2,HQ⟩
theorem aDd (h:Ck G w s zs k 0 0) (hx:G.ns[x]?=some ⟨6,line,0,[],[a]⟩) (ha:gW G zs k ex a):
  Calls prog 194 #[.pointer (some ⟨G.g,0,none⟩),.int .i64 x] w (iJ G zs k (bR G.fs ex x ⟨6,line,0,[],[a]⟩ s) w):=by
 have M0:Hd (CkM G w (.good s) zs k):=h;obtain⟨nb,nc,kv,hnv,hkv,hown,nlt,hx3,c0,x0,x1,x2,x3,x4⟩:=M0.o.node hx;dsimp only at hown x0 x1 x2 x3 x4;have hx4:(G.ns.length:Int)≤300:=by have:=h.geo.few;omega
 have glt:=h.jB;have gn:¬G.g=w.heap.size:=by omega
 have nn:¬nb=w.heap.size:=by omega
 obtain⟨kb,kc,rfl,hkc,hcell⟩:=cB hown (by simp);have hkc2:1≤kc:=by simp at hkc;omega
 have k0:=hcell 0 _ rfl;have klt:kb<w.heap.size:=World.block_lt_of_cell? _ _ k0;have kn:¬kb=w.heap.size:=by omega
 have HA:=hD ha;clear h hx hkv hown hcell ha hkc;rw[show bR G.fs ex x ⟨6,line,0,[],[a]⟩ s=(ex a s).bind λr=>if r.1=3∨r.1=4 then CkR.good (1,r.2) else .bad 42 x from rfl];go_enter func194,ntmps194;go_wp2_with fail
 have C1:=hD (CkC.new M0 50 #[.int .i64 6,.int .i64 line,.int .i64 0,.string (bs []),.slice (some ⟨kb,0,none⟩) 1 kc] (by decide));have F1:Hd (FrK G w (w.alloc (.cells #[.int .i64 6,.int .i64 line,.int .i64 0,.string (bs []),.slice (some ⟨kb,0,none⟩) 1 kc] 50))):=FrK.no ((fR w).alloc _);generalize w.alloc (.cells #[.int .i64 6,.int .i64 line,.int .i64 0,.string (bs []),.slice (some ⟨kb,0,none⟩) 1 kc] 50)=w1 at *;generalize w.heap.size=C at *;clear c0 x0 x1 x2 x3 x4 glt gn nlt nn k0 klt kn;refine (HA w1 _ C1.o.m).mono ?_;rintro en w2 ⟨t,rfl,h2,f2,hq⟩;have C2:=hD (C1.o.to h2 f2);have F2:=hD (F1.o.trans f2);have HQ:=hD hq;clear h2 f2 hq;have d0:w2.cell? ⟨C,0,none⟩=some (.int .i64 6):=by simpa using C2.o.b.cell 0
 obtain⟨b3,hb3⟩:∃b,((t:Int)==3)=b:=⟨_,rfl⟩;obtain⟨b4,hb4⟩:∃b,((t:Int)==4)=b:=⟨_,rfl⟩;have hP:∀q,ex a s = .good q->(b3 || b4)=decide (q.1=3∨q.1=4):=by
  intro q hq;rw[HQ.o q hq,<-hb3,<-hb4];rw[Bool.eq_iff_iff];simp only[Bool.or_eq_true,beq_iff_eq,decide_eq_true_eq];omega
 have HP:=hD hP;clear hP;cases b3<;>cases b4
 all_goals
  go_wp2_with fail
  refine dR (C2.o.m.must _ x) λw3 M3 f3=>?_;have F3:=hD (F2.o.trans f3);clear f3;go_wp2
  go_ret;refine⟨1,rfl,?_,F3,λq hq=>nR (q:=ex a s) (T:=λ_=>1) (P:=λ(n:Nat)=>n=3∨n=4) hq (λ_ _=>rfl)⟩;have h9:=M3.o;have e9:=sW (q:=ex a s) (x:=x) (T:=λ_=>1) (P:=λ(n:Nat)=>n=3∨n=4) (λq hq=>HP.o q hq);rw[show (CkR.good s).bind (ex a)=ex a s from rfl] at h9;simp only[Bool.or_false,Bool.or_true,Bool.false_or,Bool.true_or,Bool.and_true,Bool.and_false,Bool.false_and,Bool.true_and,Bool.false_eq_true,if_true,if_false,eq_self,ite_true,ite_false] at e9 h9;rw[e9] at h9;exact h9
theorem aDc (h:Ck G w s zs k 0 0) (hx:G.ns[x]?=some ⟨7,line,0,[],[a]⟩) (ha:gW G zs k ex a):
  Calls prog 194 #[.pointer (some ⟨G.g,0,none⟩),.int .i64 x] w (iJ G zs k (bR G.fs ex x ⟨7,line,0,[],[a]⟩ s) w):=by
 have M0:Hd (CkM G w (.good s) zs k):=h;obtain⟨nb,nc,kv,hnv,hkv,hown,nlt,hx3,c0,x0,x1,x2,x3,x4⟩:=M0.o.node hx;dsimp only at hown x0 x1 x2 x3 x4;have hx4:(G.ns.length:Int)≤300:=by have:=h.geo.few;omega
 have glt:=h.jB;have gn:¬G.g=w.heap.size:=by omega
 have nn:¬nb=w.heap.size:=by omega
 obtain⟨kb,kc,rfl,hkc,hcell⟩:=cB hown (by simp);have hkc2:1≤kc:=by simp at hkc;omega
 have k0:=hcell 0 _ rfl;have klt:kb<w.heap.size:=World.block_lt_of_cell? _ _ k0;have kn:¬kb=w.heap.size:=by omega
 have HA:=hD ha;clear h hx hkv hown hcell ha hkc;rw[show bR G.fs ex x ⟨7,line,0,[],[a]⟩ s=(ex a s).bind λr=>if r.1=1 then CkR.good (1,r.2) else .bad 42 x from rfl];go_enter func194,ntmps194;go_wp2_with fail
 have C1:=hD (CkC.new M0 50 #[.int .i64 7,.int .i64 line,.int .i64 0,.string (bs []),.slice (some ⟨kb,0,none⟩) 1 kc] (by decide));have F1:Hd (FrK G w (w.alloc (.cells #[.int .i64 7,.int .i64 line,.int .i64 0,.string (bs []),.slice (some ⟨kb,0,none⟩) 1 kc] 50))):=FrK.no ((fR w).alloc _);generalize w.alloc (.cells #[.int .i64 7,.int .i64 line,.int .i64 0,.string (bs []),.slice (some ⟨kb,0,none⟩) 1 kc] 50)=w1 at *;generalize w.heap.size=C at *;clear c0 x0 x1 x2 x3 x4 glt gn nlt nn k0 klt kn;refine (HA w1 _ C1.o.m).mono ?_;rintro en w2 ⟨t,rfl,h2,f2,hq⟩;have C2:=hD (C1.o.to h2 f2);have F2:=hD (F1.o.trans f2);have HQ:=hD hq;clear h2 f2 hq;have d0:w2.cell? ⟨C,0,none⟩=some (.int .i64 7):=by simpa using C2.o.b.cell 0
 obtain⟨b1,hb1⟩:∃b,((t:Int)==1)=b:=⟨_,rfl⟩;have hP:∀q,ex a s = .good q->(b1)=decide (q.1=1):=by
  intro q hq;rw[HQ.o q hq,<-hb1];rw[Bool.eq_iff_iff];simp only[Bool.or_eq_true,beq_iff_eq,decide_eq_true_eq];omega
 have HP:=hD hP;clear hP;cases b1
 all_goals
  go_wp2_with fail
  refine dR (C2.o.m.must _ x) λw3 M3 f3=>?_;have F3:=hD (F2.o.trans f3);clear f3;go_wp2
  go_ret;refine⟨1,rfl,?_,F3,λq hq=>nR (q:=ex a s) (T:=λ_=>1) (P:=λ(n:Nat)=>n=1) hq (λ_ _=>rfl)⟩;have h9:=M3.o;have e9:=sW (q:=ex a s) (x:=x) (T:=λ_=>1) (P:=λ(n:Nat)=>n=1) (λq hq=>HP.o q hq);rw[show (CkR.good s).bind (ex a)=ex a s from rfl] at h9;simp only[Bool.or_false,Bool.or_true,Bool.false_or,Bool.true_or,Bool.and_true,Bool.and_false,Bool.false_and,Bool.true_and,Bool.false_eq_true,if_true,if_false,eq_self,ite_true,ite_false] at e9 h9;rw[e9] at h9;exact h9
theorem aDa (h:Ck G w s zs k 0 0) (hx:G.ns[x]?=some ⟨8,line,0,[],[a]⟩) (ha:gW G zs k ex a):
  Calls prog 194 #[.pointer (some ⟨G.g,0,none⟩),.int .i64 x] w (iJ G zs k (bR G.fs ex x ⟨8,line,0,[],[a]⟩ s) w):=by
 have M0:Hd (CkM G w (.good s) zs k):=h;obtain⟨nb,nc,kv,hnv,hkv,hown,nlt,hx3,c0,x0,x1,x2,x3,x4⟩:=M0.o.node hx;dsimp only at hown x0 x1 x2 x3 x4;have hx4:(G.ns.length:Int)≤300:=by have:=h.geo.few;omega
 have glt:=h.jB;have gn:¬G.g=w.heap.size:=by omega
 have nn:¬nb=w.heap.size:=by omega
 obtain⟨kb,kc,rfl,hkc,hcell⟩:=cB hown (by simp);have hkc2:1≤kc:=by simp at hkc;omega
 have k0:=hcell 0 _ rfl;have klt:kb<w.heap.size:=World.block_lt_of_cell? _ _ k0;have kn:¬kb=w.heap.size:=by omega
 have HA:=hD ha;clear h hx hkv hown hcell ha hkc;rw[show bR G.fs ex x ⟨8,line,0,[],[a]⟩ s=(ex a s).bind λr=>if r.1=2 then CkR.good (2,r.2) else .bad 42 x from rfl];go_enter func194,ntmps194;go_wp2_with fail
 have C1:=hD (CkC.new M0 50 #[.int .i64 8,.int .i64 line,.int .i64 0,.string (bs []),.slice (some ⟨kb,0,none⟩) 1 kc] (by decide));have F1:Hd (FrK G w (w.alloc (.cells #[.int .i64 8,.int .i64 line,.int .i64 0,.string (bs []),.slice (some ⟨kb,0,none⟩) 1 kc] 50))):=FrK.no ((fR w).alloc _);generalize w.alloc (.cells #[.int .i64 8,.int .i64 line,.int .i64 0,.string (bs []),.slice (some ⟨kb,0,none⟩) 1 kc] 50)=w1 at *;generalize w.heap.size=C at *;clear c0 x0 x1 x2 x3 x4 glt gn nlt nn k0 klt kn;refine (HA w1 _ C1.o.m).mono ?_;rintro en w2 ⟨t,rfl,h2,f2,hq⟩;have C2:=hD (C1.o.to h2 f2);have F2:=hD (F1.o.trans f2);have HQ:=hD hq;clear h2 f2 hq;have d0:w2.cell? ⟨C,0,none⟩=some (.int .i64 8):=by simpa using C2.o.b.cell 0
 obtain⟨b2,hb2⟩:∃b,((t:Int)==2)=b:=⟨_,rfl⟩;have hP:∀q,ex a s = .good q->(b2)=decide (q.1=2):=by
  intro q hq;rw[HQ.o q hq,<-hb2];rw[Bool.eq_iff_iff];simp only[Bool.or_eq_true,beq_iff_eq,decide_eq_true_eq];omega
 have HP:=hD hP;clear hP;cases b2
 all_goals
  go_wp2_with fail
  refine dR (C2.o.m.must _ x) λw3 M3 f3=>?_;have F3:=hD (F2.o.trans f3);clear f3;go_wp2
  go_ret;refine⟨2,rfl,?_,F3,λq hq=>nR (q:=ex a s) (T:=λ_=>2) (P:=λ(n:Nat)=>n=2) hq (λ_ _=>rfl)⟩;have h9:=M3.o;have e9:=sW (q:=ex a s) (x:=x) (T:=λ_=>2) (P:=λ(n:Nat)=>n=2) (λq hq=>HP.o q hq);rw[show (CkR.good s).bind (ex a)=ex a s from rfl] at h9;simp only[Bool.or_false,Bool.or_true,Bool.false_or,Bool.true_or,Bool.and_true,Bool.and_false,Bool.false_and,Bool.true_and,Bool.false_eq_true,if_true,if_false,eq_self,ite_true,ite_false] at e9 h9;rw[e9] at h9;exact h9
theorem aDb (h:Ck G w s zs k 0 0) (hx:G.ns[x]?=some ⟨20,line,0,[],[a]⟩) (ha:gW G zs k ex a):
  Calls prog 194 #[.pointer (some ⟨G.g,0,none⟩),.int .i64 x] w (iJ G zs k (bR G.fs ex x ⟨20,line,0,[],[a]⟩ s) w):=by
 have M0:Hd (CkM G w (.good s) zs k):=h;obtain⟨nb,nc,kv,hnv,hkv,hown,nlt,hx3,c0,x0,x1,x2,x3,x4⟩:=M0.o.node hx;dsimp only at hown x0 x1 x2 x3 x4;have hx4:(G.ns.length:Int)≤300:=by have:=h.geo.few;omega
 have glt:=h.jB;have gn:¬G.g=w.heap.size:=by omega
 have nn:¬nb=w.heap.size:=by omega
 obtain⟨kb,kc,rfl,hkc,hcell⟩:=cB hown (by simp);have hkc2:1≤kc:=by simp at hkc;omega
 have k0:=hcell 0 _ rfl;have klt:kb<w.heap.size:=World.block_lt_of_cell? _ _ k0;have kn:¬kb=w.heap.size:=by omega
 have HA:=hD ha;clear h hx hkv hown hcell ha hkc;rw[show bR G.fs ex x ⟨20,line,0,[],[a]⟩ s=(ex a s).bind λr=>if r.1=1 then CkR.good (4,r.2) else .bad 42 x from rfl];go_enter func194,ntmps194;go_wp2_with fail
 have C1:=hD (CkC.new M0 50 #[.int .i64 20,.int .i64 line,.int .i64 0,.string (bs []),.slice (some ⟨kb,0,none⟩) 1 kc] (by decide));have F1:Hd (FrK G w (w.alloc (.cells #[.int .i64 20,.int .i64 line,.int .i64 0,.string (bs []),.slice (some ⟨kb,0,none⟩) 1 kc] 50))):=FrK.no ((fR w).alloc _);generalize w.alloc (.cells #[.int .i64 20,.int .i64 line,.int .i64 0,.string (bs []),.slice (some ⟨kb,0,none⟩) 1 kc] 50)=w1 at *;generalize w.heap.size=C at *;clear c0 x0 x1 x2 x3 x4 glt gn nlt nn k0 klt kn;refine (HA w1 _ C1.o.m).mono ?_;rintro en w2 ⟨t,rfl,h2,f2,hq⟩;have C2:=hD (C1.o.to h2 f2);have F2:=hD (F1.o.trans f2);have HQ:=hD hq;clear h2 f2 hq;have d0:w2.cell? ⟨C,0,none⟩=some (.int .i64 20):=by simpa using C2.o.b.cell 0
 obtain⟨b1,hb1⟩:∃b,((t:Int)==1)=b:=⟨_,rfl⟩;have hP:∀q,ex a s = .good q->(b1)=decide (q.1=1):=by
  intro q hq;rw[HQ.o q hq,<-hb1];rw[Bool.eq_iff_iff];simp only[Bool.or_eq_true,beq_iff_eq,decide_eq_true_eq];omega
 have HP:=hD hP;clear hP;cases b1
 all_goals
  go_wp2_with fail
  refine dR (C2.o.m.must _ x) λw3 M3 f3=>?_;have F3:=hD (F2.o.trans f3);clear f3;go_wp2
  go_ret;refine⟨4,rfl,?_,F3,λq hq=>nR (q:=ex a s) (T:=λ_=>4) (P:=λ(n:Nat)=>n=1) hq (λ_ _=>rfl)⟩;have h9:=M3.o;have e9:=sW (q:=ex a s) (x:=x) (T:=λ_=>4) (P:=λ(n:Nat)=>n=1) (λq hq=>HP.o q hq);rw[show (CkR.good s).bind (ex a)=ex a s from rfl] at h9;simp only[Bool.or_false,Bool.or_true,Bool.false_or,Bool.true_or,Bool.and_true,Bool.and_false,Bool.false_and,Bool.true_and,Bool.false_eq_true,if_true,if_false,eq_self,ite_true,ite_false] at e9 h9;rw[e9] at h9;exact h9
theorem wO (h:Ck G w s zs k 0 0) (hx:G.ns[x]?=some ⟨5,line,0,nm,[a]⟩) (ha:gW G zs k ex a):
  Calls prog 194 #[.pointer (some ⟨G.g,0,none⟩),.int .i64 x] w (iJ G zs k (bR G.fs ex x ⟨5,line,0,nm,[a]⟩ s) w):=by
 have M0:Hd (CkM G w (.good s) zs k):=h;obtain⟨nb,nc,kv,hnv,hkv,hown,nlt,hx3,c0,x0,x1,x2,x3,x4⟩:=M0.o.node hx;dsimp only at hown x0 x1 x2 x3 x4;have hx4:(G.ns.length:Int)≤300:=by have:=h.geo.few;omega
 have glt:=h.jB;have gn:¬G.g=w.heap.size:=by omega
 have nn:¬nb=w.heap.size:=by omega
 obtain⟨kb,kc,rfl,hkc,hcell⟩:=cB hown (by simp);have hkc2:1≤kc:=by simp at hkc;omega
 have k0:=hcell 0 _ rfl;have klt:kb<w.heap.size:=World.block_lt_of_cell? _ _ k0;have kn:¬kb=w.heap.size:=by omega
 have HK:=hD (And.intro hx hkv);have HA:=hD ha;have hS:=hD h;clear h hx hkv hown hcell ha hkc;go_enter func194,ntmps194;go_wp2_with fail
 have S1:Hd (Ck G (w.alloc (.cells #[.int .i64 5,.int .i64 line,.int .i64 0,.string (bs nm),.slice (some ⟨kb,0,none⟩) 1 kc] 50)) s zs k 0 0):=hS.o.no ((fR w).alloc _);have C1:=hD (CkC.new M0 50 #[.int .i64 5,.int .i64 line,.int .i64 0,.string (bs nm),.slice (some ⟨kb,0,none⟩) 1 kc] (by decide));have F1:Hd (FrK G w (w.alloc (.cells #[.int .i64 5,.int .i64 line,.int .i64 0,.string (bs nm),.slice (some ⟨kb,0,none⟩) 1 kc] 50))):=FrK.no ((fR w).alloc _);generalize w.alloc (.cells #[.int .i64 5,.int .i64 line,.int .i64 0,.string (bs nm),.slice (some ⟨kb,0,none⟩) 1 kc] 50)=w1 at *;generalize w.heap.size=C at *;clear c0 x0 x1 x2 x3 x4 glt gn nlt nn k0 klt kn;refine (lG S1 HK.o.1).mono ?_;rintro en w2 ⟨t,rfl,h2,f2,hq⟩;have C2:=hD (C1.o.to h2 f2);have F2:=hD (F1.o.trans f2);have HQ:=hD hq;clear h2 f2 hq;have d4:w2.cell? ⟨C,4,none⟩=some (.slice (some ⟨kb,0,none⟩) 1 kc):=by simpa using C2.o.b.cell 4
 have k0:=C2.o.m.kid HK.o.1 HK.o.2 (j:=0) (a:=a) rfl;go_wp2_with fail
 refine (HA w2 _ C2.o.m).mono ?_;rintro en w3 ⟨u,rfl,h3,f3,hq⟩;have C3:=hD (C2.o.to h3 f3);have F3:=hD (F2.o.trans f3);have HU:=hD hq;clear h3 f3 hq d4 k0;obtain⟨b4,hb4⟩:∃b,((t:Int)==4)=b:=⟨_,rfl⟩;obtain⟨b1,hb1⟩:∃b,((u:Int)==1)=b:=⟨_,rfl⟩;have E:=hD (show bR G.fs ex x ⟨5,line,0,nm,[a]⟩ s=((aU x nm s).bind λt=>(ex a t.2).map λr=>((t.1,r.1),r.2)).bind λr=>if r.1.1=4∧r.1.2=1 then CkR.good (1,r.2) else .bad 42 x from by
  show ((aU x nm s).bind λt=>(ex a t.2).bind λr=>if t.1=4∧r.1=1 then CkR.good (1,r.2) else .bad 42 x)=_
  cases aU x nm s with
  | bad e p=>rfl
  | good q=>
    simp only[CkR.aC];cases ex a q.2<;>rfl)
 have E2:=hD (show (((aU x nm s).map (·.2)).bind (ex a)).map (·.2)=((aU x nm s).bind λt=>(ex a t.2).map λr=>((t.1,r.1),r.2)).map (·.2) from by
  cases aU x nm s with
  | bad e p=>rfl
  | good q=>
    simp only[CkR.aC,CkR.bK];cases ex a q.2<;>rfl)
 have HP:=hD (show ∀q,((aU x nm s).bind λt=>(ex a t.2).map λr=>((t.1,r.1),r.2)) = .good q->(b4 && b1)=decide (q.1.1=4∧q.1.2=1) from by
  intro q hq;obtain⟨c,hc,hq⟩:=CkR.bind_eq hq;obtain⟨d,hd,hq⟩:=CkR.map_eq hq;subst hq;have h1:=HQ.o c hc;have h2:=HU.o d (by rw[hc];exact hd)
  show _=decide (c.1=4∧d.1=1)
  rw[h1,h2,<-hb4,<-hb1,Bool.eq_iff_iff];simp only[Bool.and_eq_true,beq_iff_eq,decide_eq_true_eq];omega)
 cases b4<;>cases b1
 all_goals
  go_wp2_with fail
  refine dR (C3.o.m.must _ x) λw4 M4 f4=>?_;have F4:=hD (F3.o.trans f4);clear f4;go_wp2
  go_ret;refine⟨1,rfl,?_,F4,λq hq=>?_⟩
  . have h9:=M4.o
    have e9:=sW (x:=x) (T:=λ_=>1) (P:=λ(n:Nat×Nat)=>n.1=4∧n.2=1) (λq hq=>HP.o q hq);rw[E2.o] at h9;simp only[Bool.or_false,Bool.or_true,Bool.false_or,Bool.true_or,Bool.and_true,Bool.and_false,Bool.false_and,Bool.true_and,Bool.false_eq_true,if_true,if_false,eq_self,ite_true,ite_false] at e9 h9;rw[e9] at h9;rw[E.o];exact h9
  . rw[E.o] at hq
    exact nR (T:=λ_=>1) (P:=λ(n:Nat×Nat)=>n.1=4∧n.2=1) hq (λ_ _=>rfl)
theorem aDf {b:Nat} (h:Ck G w s zs k 0 0) (hx:G.ns[x]?=some ⟨9,line,0,nm,[a,b]⟩) (hs:nm∈jD) (ha:gW G zs k ex a) (hb:gW G zs k ex b):
   Calls prog 194 #[.pointer (some ⟨G.g,0,none⟩),.int .i64 x] w (iJ G zs k (bR G.fs ex x ⟨9,line,0,nm,[a,b]⟩ s) w):=by
 have M0:Hd (CkM G w (.good s) zs k):=h;obtain⟨nb,nc,kv,hnv,hkv,hown,nlt,hx3,c0,x0,x1,x2,x3,x4⟩:=M0.o.node hx;dsimp only at hown x0 x1 x2 x3 x4;have hx4:(G.ns.length:Int)≤300:=by have:=h.geo.few;omega
 have glt:=h.jB;have gn:¬G.g=w.heap.size:=by omega
 have nn:¬nb=w.heap.size:=by omega
 obtain⟨kb,kc,rfl,hkc,hcell⟩:=cB hown (by simp);have hkc2:2≤kc:=by simp at hkc;omega
 have k0:=hcell 0 _ rfl;have k1:=hcell 1 _ rfl;have klt:kb<w.heap.size:=World.block_lt_of_cell? _ _ k0;have kn:¬kb=w.heap.size:=by omega
 have HK:=hD (And.intro hx hkv);have HA:=hD ha;have HB:=hD hb;have HS:=hD hs;clear h hx hkv hown hcell ha hb hs hkc;go_enter func194,ntmps194;go_wp2_with fail
 have C1:=hD (CkC.new M0 50 #[.int .i64 9,.int .i64 line,.int .i64 0,.string (bs nm),.slice (some ⟨kb,0,none⟩) 2 kc] (by decide));have F1:Hd (FrK G w (w.alloc (.cells #[.int .i64 9,.int .i64 line,.int .i64 0,.string (bs nm),.slice (some ⟨kb,0,none⟩) 2 kc] 50))):=FrK.no ((fR w).alloc _);generalize w.alloc (.cells #[.int .i64 9,.int .i64 line,.int .i64 0,.string (bs nm),.slice (some ⟨kb,0,none⟩) 2 kc] 50)=w1 at *;generalize w.heap.size=C at *;clear c0 x0 x1 x2 x3 x4 glt gn nlt nn k0 k1 klt kn;refine (HA w1 _ C1.o.m).mono ?_;rintro en w2 ⟨t,rfl,h2,f2,hq⟩;have C2:=hD (C1.o.to h2 f2);have F2:=hD (F1.o.trans f2);have HQ:=hD hq;clear h2 f2 hq;have d4:w2.cell? ⟨C,4,none⟩=some (.slice (some ⟨kb,0,none⟩) 2 kc):=by simpa using C2.o.b.cell 4
 have k1:=C2.o.m.kid HK.o.1 HK.o.2 (j:=1) (a:=b) rfl;go_wp2_with fail
 refine (HB w2 _ C2.o.m).mono ?_;rintro en w3 ⟨u,rfl,h3,f3,hq⟩;have C3:=hD (C2.o.to h3 f3);have F3:=hD (F2.o.trans f3);have HU:=hD hq;clear h3 f3 hq d4 k1;have d3:w3.cell? ⟨C,3,none⟩=some (.string (bs nm)):=by simpa using C3.o.b.cell 3
 go_wp2_with fail
 refine stepM (aLk HS t u w3) λw4 hf=>?_;have C4:=hD (C3.o.no hf);have F4:=hD (F3.o.trans (FrK.no hf));clear hf d3;have E:=hD (show bR G.fs ex x ⟨9,line,0,nm,[a,b]⟩ s=((ex a s).bind λt=>(ex b t.2).map λr=>((t.1,r.1),r.2)).bind λr=>if bP nm r.1.1 r.1.2≠0 then CkR.good (bP nm r.1.1 r.1.2,r.2) else .bad 42 x from by
   show ((ex a s).bind λt=>(ex b t.2).bind λr=>if bP nm t.1 r.1=0 then CkR.bad 42 x else .good (bP nm t.1 r.1,r.2))=_
   cases ex a s with
   | bad e p=>rfl
   | good q=>
    simp only[CkR.aC];cases ex b q.2 with
    | bad e p=>rfl
    | good u=>
     simp only[CkR.aC,CkR.bK];by_cases hz:bP nm q.1 u.1=0
     . rw[if_pos hz,if_neg (by simpa using hz)]
     . rw[if_neg hz,if_pos hz])
 have E2:=hD (show ((((CkR.good s).bind (ex a)).map (·.2)).bind (ex b)).map (·.2)=((ex a s).bind λt=>(ex b t.2).map λr=>((t.1,r.1),r.2)).map (·.2) from by
   rw[CkR.aC];cases ex a s with
   | bad e p=>rfl
   | good q=>
    simp only[CkR.aC,CkR.bK];cases ex b q.2<;>rfl)
 generalize hN:bP nm t u=N at *;obtain⟨b0,hb0⟩:∃b,((N:Int) != 0)=b:=⟨_,rfl⟩;have HV:=hD (show ∀q,((ex a s).bind λt=>(ex b t.2).map λr=>((t.1,r.1),r.2)) = .good q->bP nm q.1.1 q.1.2=N from by
   intro q hq;obtain⟨c,hc,hq⟩:=CkR.bind_eq hq;obtain⟨d,hd,hq⟩:=CkR.map_eq hq;subst hq;have h1:=HQ.o c hc;have h2:=HU.o d (by rw[CkR.aC,hc];exact hd)
   show bP nm c.1 d.1=N
   rw[h1,h2,hN])
 have HP:=hD (show ∀q,((ex a s).bind λt=>(ex b t.2).map λr=>((t.1,r.1),r.2)) = .good q->b0=decide (bP nm q.1.1 q.1.2≠0) from by
   intro q hq;rw[HV.o q hq,<-hb0,Bool.eq_iff_iff];simp only[bne_iff_ne,decide_eq_true_eq];omega)
 clear hN;go_wp2_with fail
 refine dR (C4.o.m.must _ x) λw5 M5 f5=>?_;have F5:=hD (F4.o.trans f5);clear f5;go_wp2
 go_ret;refine⟨N,rfl,?_,F5,λq hq=>?_⟩
 . have h9:=M5.o
   rw[E2.o,sW (T:=λn=>bP nm n.1 n.2) (P:=λ(n:Nat×Nat)=>bP nm n.1 n.2≠0) (λq hq=>HP.o q hq)] at h9;rw[E.o];exact h9
 . rw[E.o] at hq
   exact nR (T:=λn=>bP nm n.1 n.2) (P:=λ(n:Nat×Nat)=>bP nm n.1 n.2≠0) hq (λq hq=>HV.o q hq)
end
def KpK (G:Geo) (Q:World->Prop):Prop:=∀w w',FrK G w w'->Q w->Q w'
theorem aMc {C:Nat} (n0:C≠G.g) (n1:C≠G.bt) (n2:C≠G.bs) (n3:C≠G.bf) (nv:t≠62):KpK G (λw=>Blk w C t cs):=λw w' f h=>f.far h n0 n1 n2 n3 nv
theorem aGx (hg:gD G){size:Nat}{xs:List Value} (nv:t≠62) (hz:∀b,blk v=some b->G.Z≤b):KpK G (λw=>Own w t size v n xs):=λw w' f h=>
 f.own h nv λb hb=>by
  have:=hz b hb;have:=hg.lg;have:=hg.lt;have:=hg.ls;have:=hg.lf;exact⟨by omega,by omega,by omega,by omega⟩
theorem aOm {P Q:World->Prop} (h:KpK G P) (h':KpK G Q):KpK G (λw=>P w∧Q w):=λw w' f ⟨a,b⟩=>⟨h w w' f a,h' w w' f b⟩
structure CkW (G:Geo) (Q:World->Prop) (w:World) (r:CkR CkS) (zs:List Nat) (k:Nat):Prop where
 m:CkM G w r zs k
 q:Q w
 kp:KpK G Q
section
variable {G:Geo}{Q:World->Prop}{w w':World}{s:CkS}{r r':CkR CkS}{zs:List Nat}{k:Nat}
theorem CkW.to (h:CkW G Q w r zs k) (h':CkM G w' r' zs k) (f:FrK G w w'):CkW G Q w' r' zs k:=⟨h',h.kp _ _ f h.q,h.kp⟩
theorem CkW.no (h:CkW G Q w r zs k) (f:Fr nob w w'):CkW G Q w' r zs k:=⟨h.m.no f,h.kp _ _ (FrK.no f) h.q,h.kp⟩
theorem CkM.Zle (h:CkM G w r zs k):G.Z≤w.heap.size:=by
 obtain⟨s,e,p,h,_⟩:=h.open_;exact h.zle
theorem aOl (h:CkM G w r zs k){C:Nat} (hC:w.heap.size≤C){t:TypeId} (nv:t≠62):KpK G (λw=>Blk w C t cs):=by
 obtain⟨h1,h2,h3,h4⟩:=h.xM;exact aMc (by omega) (by omega) (by omega) (by omega) nv
theorem FrK.app {w w':World} (f:FrK G w0 w) (f':Fr (obl (blk v)) w w') (hv:∀b,blk v=some b->w0.heap.size≤b):FrK G w0 w':=
 Fr.trans f f' (λ_ _ x=>x) (λb hb hm=>absurd hb (by have:=hv b hm;omega))
theorem CkM.app {size:Nat}{xs:List Value} (h:CkM G w r zs k) (ho:Own w t size v n xs) (nv:t≠62) (hz:∀b,blk v=some b->G.Z≤b) (f:Fr (obl (blk v)) w w'):CkM G w' r zs k:=
 h.other f λb hm _=>⟨hz b hm,aMy ho nv hm⟩
theorem CkM.aMd (h:CkM G w r zs k) (hx:G.ns[x]?=some nd){A:Option Addr} (hlv:G.lvs[x]?=some (.slice A n c)) (ha:nd.l[j]?=some a):∃kb,A=some ⟨kb,0,none⟩∧w.cell? ⟨kb,j,none⟩=some (.int .i64 (a:Nat))∧n=nd.l.length∧n≤c:=by
 have ho:Own w 3 1 (.slice A n c) nd.l.length (ints nd.l):=h.tree.tree.below.get hx hlv;obtain⟨kb',c',e,hc',hc⟩:=cB ho (by have:=(gK ha);omega);injection e with e e2 e3;exact⟨kb',e,hc j a ha,e2,by omega⟩
theorem CkM.aLy (h:CkM G w r zs k) (hf:G.fs[j]?=some f){A:Option Addr} (hpv:G.pvs[j]?=some (.slice A n c)){i:Nat}{q:List UInt8×Nat} (hq:f.params[i]?=some q):∃pb,A=some ⟨pb,0,none⟩∧w.cell? ⟨pb,i*2,none⟩=some (.string (bs q.1))∧w.cell? ⟨pb,i*2+1,none⟩=some (.int .i64 (q.2:Nat)):=by
 have ho:Own w 101 2 (.slice A n c) f.params.length (aM f.params):=h.tree.tree.pars.get hf hpv;have h0:0<f.params.length:=by have:=(gK hq);omega
 have hn:=ho.mW.2.2;subst hn;obtain⟨pb,e,hc⟩:=ho.some h0;exact⟨pb,e,hc _ _ (aN hq).1,hc _ _ (aN hq).2⟩
theorem CkM.three (h:CkM G w r zs k) (hf:G.fs[j]?=some f){pb:Nat} (hpv:G.pvs[j]?=some (.slice (some ⟨pb,0,none⟩) n c)){i:Nat}{q:List UInt8×Nat} (hq:f.params[i]?=some q){D:Nat} (hD9:Blk w D t cs){u:Value} (hc:cs[2]?=some u)
  {tb m c':Nat} {tl:List Nat} (ho:Own w 3 1 (.slice (some ⟨tb,0,none⟩) m c') m (ints tl)) {ti:Nat} (ht:tl[i]?=some ti):w.cell? ⟨D,2,none⟩=some u∧w.cell? ⟨tb,i,none⟩=some (.int .i64 (ti:Nat))∧w.cell? ⟨pb,i*2+1,none⟩=some (.int .i64 (q.2:Nat)):=by
 obtain⟨pb',e,-,p1⟩:=h.aLy hf hpv hq;injection e with e;injection e with e;subst e;have hl:(ints tl).length=m*1:=ho.len;have hi:=(gK ht);obtain⟨tb',e,hcc⟩:=ho.some (by simp[ints] at hl;omega);injection e with e;injection e with e;subst e;exact⟨(hD9.cell 2).trans hc,hcc i (.int .i64 (ti:Nat)) (by simp[ints,ht]),p1⟩
theorem CkM.fnc (h:CkM G w r zs k) (hf:G.fs[j]?=some f):∃fb fc pv,G.fv = .slice (some ⟨fb,0,none⟩) G.fs.length fc∧fb<w.heap.size∧w.cell? ⟨G.g,1,none⟩=some (.slice (some ⟨fb,0,none⟩) G.fs.length fc) ∧
  G.pvs[j]?=some pv∧Own w 101 2 pv f.params.length (aM f.params) ∧
  w.cell? ⟨fb,j*5,none⟩=some (.string (bs f.name))∧w.cell? ⟨fb,j*5+1,none⟩=some (.int .i64 f.line)∧w.cell? ⟨fb,j*5+2,none⟩=some pv∧w.cell? ⟨fb,j*5+3,none⟩=some (.int .i64 f.ret)∧w.cell? ⟨fb,j*5+4,none⟩=some (.int .i64 f.body):=by
 have hlt:=(gK hf);have htr:=h.tree.tree;obtain⟨s,e,p,h0,_⟩:=h.open_;obtain⟨zv,vv,_,c1,_⟩:=h0.cells;obtain⟨A,c,e,hc,_⟩:=htr.fns.cap;have hno:=htr.fns;rw[e] at hno;obtain⟨fb,e2,hcell⟩:=hno.some (by omega);subst e2;obtain⟨pv,hpv⟩:∃pv,G.pvs[j]?=some pv:=⟨_,gE (by have:=htr.samef;omega)⟩;have key:=dF hf hpv;exact⟨fb,c,pv,e,hno.aY (by simp[blk];omega),by rw[<-e];exact c1,hpv,htr.pars.get hf hpv,hcell _ _ (key 0 _ rfl),hcell _ _ (key 1 _ rfl),hcell _ _ (key 2 _ rfl),hcell _ _ (key 3 _ rfl),hcell _ _ (key 4 _ rfl)⟩
end
end Go.Proofs.YtlbjicjinnnboaaGreatDoor
