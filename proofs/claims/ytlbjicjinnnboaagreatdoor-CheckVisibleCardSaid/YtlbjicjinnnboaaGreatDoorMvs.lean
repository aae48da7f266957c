/- CheckVisible: the law's walk. -/
import Derived.Test.YtlbjicjinnnboaaGreatDoorMvV
import Derived.Test.YtlbjicjinnnboaaGreatDoorMvW
import Derived.Test.YtlbjicjinnnboaaGreatDoorMvR
import Derived.BigQuiet
import Derived.Deep.DeepCutAuto
set_option maxHeartbeats 8000000
set_option maxRecDepth 100000
set_option linter.unusedVariables false
set_option linter.unusedSimpArgs false
namespace Go.Proofs.YtlbjicjinnnboaaGreatDoor
open Go.RowKit Go.Proofs.Tryz
open Pw
theorem vT (kd line nn c l:Nat) (A:Option Addr) (s:ByteArray) (w:World):Calls prog 33 #[.agg #[kd,line,nn,s,.slice A l c]] w λe w'=>e = .returned (mM kd)∧Fr nob w w':=by
 have B:=hD (Blk.new w 50 #[kd,line,nn,s,.slice A l c]);have F:Hd (Fr nob w (w.alloc (.cells #[kd,line,nn,s,.slice A l c] 50))):=(fR w).alloc _;go_enter func33,ntmps33;go_upto_region 1 with fail;generalize w.alloc (.cells #[kd,line,nn,s,.slice A l c] 50)=w1 at *;generalize w.heap.size=P at *;have c0:=(B.o.cell 0).trans rfl;by_cases h1:10<=kd
 . have e1:(10:Int)<=(kd:Int):=by omega
   by_cases h2:kd<=17
   . have e2:(kd:Int)<=17:=by omega
     have HC:=hD (show mM kd=true from by simp[mM,h1,h2]);clear h1 h2;go_wp2
     go_ret;rw[HC.o];exact⟨rfl,F⟩
   . have e2:¬(kd:Int)<=17:=by omega
     have HC:=hD (show mM kd=false from by simp[mM,h2]);clear h1 h2;go_wp2
     go_ret;rw[HC.o];exact⟨rfl,F⟩
 . have e1:¬(10:Int)<=(kd:Int):=by omega
   have HC:=hD (show mM kd=false from by simp[mM,h1]);clear h1;go_wp2
   go_ret;rw[HC.o];exact⟨rfl,F⟩
theorem tH {z:Nat}:∀(l:List bT) (b:Nat),l.Pairwise (λa b=>a.slot<b.slot)->(∀v∈l,b<=v.slot∧v.slot<z)->l.length<=z - b
 | [],_,_,_=>aA4 _
 | a :: l,b,hp,h=>by
  obtain⟨h1,h2⟩:=List.pairwise_cons.1 hp;obtain⟨h3,h4⟩:=h a (List.mem_cons_self ..);have:=tH l (a.slot+1) h2 (λv hv=>⟨h1 v hv,(h v (List.mem_cons_of_mem _ hv)).2⟩);rw[List.length_cons];omega
theorem fG.len {p:gB} (hi:nC p){k z:Nat}{vs:List bT} (hz:p.sizes[k]?=some z) (h:fG z vs):vs.length<=200000:=by
 have e:=hz;rw[<-aGv hi] at e;have hk:k<p.fs.length:=by have:=(gK e);rw[lG] at this;exact this
 rw[lH hk] at e;injection e with e;have h1:aKc p p.ns.length k<=p.ns.length:=by unfold aKc;exact Nat.le_trans List.countP_le_length (by simp)
 have h2:aMh p k<=3:=by unfold aMh;rw[gE hk];exact hi.tree.ok.pars _ (List.getElem_mem hk)
 have h3:=tH vs 0 h.asc (λv hv=>⟨aA4 _,(h.ty v hv).2.2⟩);have h4:=hi.tree.ok.few;omega
theorem pQ {V:World->Prop} (HQ:aSt V) (HRS:aRq) (s:ByteArray) (w:World) (hv:V w):Calls prog 8 #[s] w λe w'=>e = .returned true∧Fr nob w w':=by
 have HSH:=hD (aDl HQ w hv);obtain⟨T,hT⟩:∃T,s.data.toList.take 700=T:=⟨_,rfl⟩;have HSO:=hD (λw'=>aDm s w');rw[hT] at HSO;have hTl:T.length<=700:=by rw[<-hT,List.length_take];omega
 obtain⟨r,hr⟩:=zS T;have HS:=hD (λw'=>HRS (bs T) w' (by show T.toArray.size<=_;rw[List.size_toArray];omega) (r:=r) hr);have HR:=hD hr;clear hT hTl hr hv HQ HRS;go_enter func8,ntmps8;go_wp2_with fail
 refine HSH.o.mono ?_;rintro e w1 ⟨rfl,hf1⟩;have F1:=hD hf1;clear hf1 HSH;go_wp2_with fail
 refine (HSO w1).mono ?_;rintro e w1' ⟨rfl,hw⟩;subst hw;go_wp2_with fail
 refine (HS _).mono ?_;rintro e w2 ⟨hsa,hf2⟩;have F2:=hD (F1.o.tr hf2);clear hf2 HS HSO F1;cases r with
 | bad p er=>
  obtain⟨he,he0⟩:=hsa;have he:e = .returned (.tuple #[.agg #[Un,Un,Un,Un,Un,Un],p,er]):=he;subst he;have heb:((er:Int)==0)=false:=bN.2 (by omega);have hne:((er:Int) != 0)=true:=by rw[bne,heb];rfl
  clear he0;go_wp2
  go_ret;exact⟨rfl,F2.o.alloc _⟩
 | good p=>
  obtain⟨hI,-,hck⟩:=aGs HR.o;have HI:=hD hI;have HCK:=hD hck;obtain⟨g,ub,zb,hg,pf,rfl⟩:=zT hsa hI;subst hg;have PX:=pf.toX;have hval:g.val=prV g:=by rw[pf.val];unfold prV;rw[PX.ua,PX.un,PX.za,PX.zn]
  rw[hval];have F3:Hd (Fr nob w2 (w2.alloc (.cells #[(g.nb,g.p.ns.length,g.nc),(g.fb,g.p.fs.length,g.fc),(g.tb,g.p.ns.length,g.tc),(g.sb,g.p.ns.length,g.sc),.slice g.ua g.un g.uc,.slice g.za g.zn g.zc] 29))):=(fR w2).alloc _;have BP:=hD (Blk.new w2 29 #[(g.nb,g.p.ns.length,g.nc),(g.fb,g.p.fs.length,g.fc),(g.tb,g.p.ns.length,g.tc),(g.sb,g.p.ns.length,g.sc),.slice g.ua g.un g.uc,.slice g.za g.zn g.zc]);have PG:=hD (PX.no F3);have F4:=hD (F2.o.tr F3);have hn3:(g.p.ns.length:Int)<=300:=by have:=PX.pw.few;omega
  clear hsa pf hI hck PX hval F2 F3;go_upto_region 5 with fail;generalize w2.alloc (.cells #[(g.nb,g.p.ns.length,g.nc),(g.fb,g.p.fs.length,g.fc),(g.tb,g.p.ns.length,g.tc),(g.sb,g.p.ns.length,g.sc),.slice g.ua g.un g.uc,.slice g.za g.zn g.zc] 29)=w3 at *;generalize w2.heap.size=PB at *;go_wp2
  go_loopw [7] (λi wr=>∃j:Nat,j<=g.p.ns.length∧i = .int .i64 j∧Hd (Fr nob w3 wr)) (λi _=>g.p.ns.length - (intOf i).toNat)
  case atStart=>exact⟨0,aA4 _,rfl,hD (Fr.refl _ _)⟩
  case round=>
   obtain⟨i,hi,rfl,FR⟩:=hrel;have BR:=hD (BP.o.fr FR (λx=>x));have PR:=hD (PG.o.no FR);obtain⟨p0,p1,p2,p3,p4,p5⟩:=gU BR.o;by_cases hlt:i<g.p.ns.length
   . have hlt2:(i:Int)<(g.p.ns.length:Int):=by omega
     obtain⟨nd,hnd⟩:∃nd,g.p.ns[i]?=some nd:=⟨_,gE hlt⟩;obtain⟨NA,NC,-,-,ncell⟩:=PR.o.pw.sH hnd;obtain⟨e0,e1,e2,e3,e4⟩:=ncell wr (Fr.refl _ _);have HJ:=hD hlt;have HND:=hD hnd;have HST:=hD (λw'=>vT nd.kind nd.line nd.n NC nd.l.length NA (bs nd.name) w');clear hlt hi hnd ncell;go_wp2_with fail
     refine stepM (HST _) λw4 f4=>?_;have F5:=hD (FR.o.tr f4);clear f4 HST FR BR PR e0 e1 e2 e3 e4 p0 p1 p2 p3 p4 p5;obtain⟨bb,hbb⟩:∃bb,mM nd.kind=bb:=⟨_,rfl⟩;have HBB:=hD hbb;rw[hbb];clear hbb;cases bb with
     | false=>
      go_wp2
      go_roundw
      case rel=>exact⟨i+1,by have:=HJ.o;omega,by go_num,F5⟩
      case measure=>simp[intOf];have:=HJ.o;omega
     | true=>
      have hIS:IsS g.p.ns i:=⟨nd,HND,HBB⟩;obtain⟨k,f,z,hk,hf,hz,h1,hfine⟩:=aOp HI.o.tree HCK hIS;have hvv:tL g.p i f=(kY g.p.ns g.p.types g.p.slots i g.p.ns.length f.body (kX f.params)).2:=if_pos h1;have VA:=hD (λw' (fx:Fr nob w3 w')=>zJ (PG.o.no fx) hk hf);have VB:=hD (λw' (fx:Fr nob w3 w')=>xM (PG.o.no fx) hk hf);obtain⟨vs,hvs⟩:∃vs,tL g.p i f=vs:=⟨_,rfl⟩;rw[h1,<-hvv,hvs] at VB;rw[hvs] at VA hfine;have HLN:=hD (hfine.len HI hz);have hvl:(vs.length:Int)<=200000:=by have:=HLN.o;omega
      have HFN:=hD hfine;have HK:=hD hk;have HZ:=hD hz;obtain⟨p0,p1,p2,p3,p4,p5⟩:=gU (BP.o.fr F5 (λx=>x));clear hk hf hz h1 hfine hvv hvs hIS;go_wp2_with fail
      refine (VA _ F5).mono ?_;rintro e w5 ⟨A,n,c,rfl,rfl,ho,f5⟩;have F6:=hD (F5.o.tr f5);have HO:=hD ho;clear f5 ho VA F5 p0 p1 p2 p3 p4 p5;obtain⟨p0,p1,p2,p3,p4,p5⟩:=gU (BP.o.fr F6 (λx=>x));go_wp2_with fail
      refine (VB _ F6).mono ?_;rintro e w6 ⟨f6,A2,n2,c2,rfl,hr⟩;obtain⟨hn2,hr⟩:=hr trivial;subst hn2;have F7:=hD (F6.o.tr f6);have HO7:=hD (HO.o.fr f6 (λ_ _ x=>x));have SV:=hD (xL w6 rfl HLN HO7.o.rd hr);clear f6 hr VB F6 HO p0 p1 p2 p3 p4 p5;go_wp2_with fail
      refine SV.o.mono ?_;rintro e w7 ⟨rfl,f7⟩;have F8:=hD (F7.o.tr f7);have HO8:=hD (HO7.o.fr f7 (λ_ _ x=>x));clear f7 SV F7 HO7;obtain⟨p0,p1,p2,p3,p4,p5⟩:=gU (BP.o.fr F8 (λx=>x));go_wp2
      clear p0 p1 p2 p3 p4 p5;go_loopw [10] (λkv wq=>∃q:Nat,q<=vs.length∧kv = .int .i64 q∧Hd (Fr nob w7 wq)) (λkv _=>vs.length - (intOf kv).toNat)
      case atStart=>exact⟨0,aA4 _,rfl,hD (Fr.refl _ _)⟩
      case round=>
       obtain⟨q,hq,rfl,FQ⟩:=hrel;by_cases hlt:q<vs.length
       . have hq2:(q:Int)<(vs.length:Int):=by omega
         obtain⟨v,hv⟩:∃v,vs[q]?=some v:=⟨_,gE hlt⟩;have PQ:=PG.o.no (F8.o.tr FQ);obtain⟨vb,e9,vc⟩:=(HO8.o.fr FQ (λ_ _ x=>x)).some (by omega);obtain⟨p0,p1,p2,p3,p4,p5⟩:=gU (BP.o.fr (F8.o.tr FQ) (λx=>x));rw[PG.o.ua,PG.o.un] at p4;rw[PG.o.za,PG.o.zn] at p5;have u0:=PQ.fnc HK.o;have hkf:k<g.p.fs.length:=by rw[<-PG.o.lz];exact (gK HZ)
         have z0:wr.cell? (zb,k)=z:=xP PQ.sz (by unfold ints;rw[List.getElem?_map,HZ.o];rfl) hkf;have hk5:(k:Int)<(g.p.fs.length:Int):=by omega
         have hi5:(i:Int)<(g.p.ns.length:Int):=by have:=HJ.o;omega
         obtain⟨v0,v1,v2⟩:=iZ hv;have c0:=vc _ _ v0;have c1:=vc _ _ v1;have c2:=vc _ _ v2;obtain⟨t1,t2,t3⟩:=HFN.o.ty v (List.mem_of_getElem? hv);have b1:decide ((v.slot:Int)<0)=false:=decide_eq_false (by omega);have b2:decide ((z:Int)<=(v.slot:Int))=false:=decide_eq_false (by omega);have b2n:decide (z<=v.slot)=false:=decide_eq_false (by omega);have b3:decide ((v.ty:Int)<1)=false:=decide_eq_false (by omega);have b4:decide ((4:Int)<(v.ty:Int))=false:=decide_eq_false (by omega);have HQ:=hD hlt;have HV:=hD hv;subst e9;have HUN:=hD (λ(x:Nat) (u:bT) (hx:x<q) (hu:vs[x]?=some u)=>show ((bs u.name).toList==(bs v.name).toList)=false from by
          rw[Bool.eq_false_iff];intro e;obtain⟨a1,a2⟩:=List.getElem?_eq_some_iff.1 hu;obtain⟨a3,a4⟩:=List.getElem?_eq_some_iff.1 HV.o;have:=List.pairwise_iff_getElem.1 HFN.o.un x q a1 a3 hx;rw[a2,a4] at this;exact this (aBg.1 e))
         by_cases hq0:q=0
         case' pos=>
          have b5:decide ((0:Int)<(q:Int))=false:=decide_eq_false (by omega);have b5n:decide (0<q)=false:=decide_eq_false (by omega);clear hlt hq hv v0 v1 v2 t1 t2 t3 hkf p0 p1 p2 p3 c0 vc PQ hq0;go_wp2_with fail
          go_quiet (fail)
          clear b5 b5n
         case' neg=>
          obtain⟨y,hy⟩:∃y,y+1=q:=⟨q - 1,by omega⟩;obtain⟨u,hu⟩:∃u,vs[y]?=some u:=⟨_,gE (by omega)⟩;have b5:decide ((0:Int)<(q:Int))=true:=decide_eq_true (by omega);have b5n:decide (0<q)=true:=decide_eq_true (by omega);have u2:=vc _ _ (iZ hu).2.2;have hsl:u.slot<v.slot:=by
           obtain⟨a1,a2⟩:=List.getElem?_eq_some_iff.1 hu;obtain⟨a3,a4⟩:=List.getElem?_eq_some_iff.1 hv;have:=List.pairwise_iff_getElem.1 HFN.o.asc y q a1 a3 (by omega);rw[a2,a4] at this;exact this
          have b6:decide ((v.slot:Int)<=(u.slot:Int))=false:=decide_eq_false (by omega);have b6n:decide (v.slot<=u.slot)=false:=decide_eq_false (by omega);have hy2:(y:Int)<(vs.length:Int):=by omega
          have hyw:IntKind.i64.wrap ((q:Int) - 1)=(y:Int):=by rw[show (q:Int) - 1=(y:Int) by omega];exact IntWalk.i64_in _ (by have:=HLN.o;omega)
          clear hlt hq hv v0 v1 v2 t1 t2 t3 hkf p0 p1 p2 p3 c0 vc PQ hq0 hu hsl hy;go_wp2_with fail
          go_quiet (fail)
          clear b5 b5n b6 b6n u2 hy2 hyw
         all_goals
          clear b1 b2 b2n b3 b4 c1 c2 p4 p5 u0 z0 hk5 hi5 hq2;go_wp2
          go_loopw [11] (λtv wq=>∃x:Nat,x<=q∧tv = .int .i64 x∧Hd (Fr nob w7 wq)) (λtv _=>q - (intOf tv).toNat)
          case atStart=>exact⟨0,aA4 _,rfl,hD (FQ.o.drewN _)⟩
          case round=>
           obtain⟨x,hx,rfl,FX⟩:=hrel;by_cases hlt:x<q
           . have hx2:(x:Int)<(q:Int):=by omega
             have hx3:(x:Int)<(vs.length:Int):=by have:=HQ.o;omega
             have hq3:(q:Int)<(vs.length:Int):=by have:=HQ.o;omega
             obtain⟨u,hu⟩:∃u,vs[x]?=some u:=⟨_,gE (by have:=HQ.o;omega)⟩;obtain⟨vb',e9,vc⟩:=(HO8.o.fr FX (λ_ _ x=>x)).some (by omega);injection e9 with e9;injection e9 with e9;subst e9;have c0:=vc _ _ (iZ HV).1;have c1:=vc _ _ (iZ hu).1;have hne:=HUN.o x u hlt hu;have HX:=hD hlt;clear hlt hx hu vc;go_wp2_with fail
             go_quiet (fail)
             go_wp2
             go_roundw
             case rel=>exact⟨x+1,by have:=HX.o;omega,by have:=HLN.o;have:=HQ.o;have:=HX.o;go_num,by first|exact FX|exact hD (FX.o.drewN _)⟩
             case measure=>simp[intOf];have:=HX.o;have:=HLN.o;have:=HQ.o;omega
           . have e9:x=q:=by omega
             subst e9;have hx2:¬(x:Int)<(x:Int):=by omega
             have hx3:(x:Int)<(vs.length:Int):=by have:=HQ.o;omega
             clear hlt hx;go_wp2
             go_roundw
             case rel=>exact⟨x+1,by have:=HQ.o;omega,by have:=HLN.o;have:=HQ.o;go_num,FX⟩
             case measure=>simp[intOf];have:=HQ.o;have:=HLN.o;omega
       . have e9:q=vs.length:=by omega
         subst e9;have hq2:¬(vs.length:Int)<(vs.length:Int):=by omega
         clear hlt hq;go_wp2
         go_roundw
         case rel=>exact⟨i+1,by have:=HJ.o;omega,by go_num,hD (F8.o.tr FQ)⟩
         case measure=>simp[intOf];have:=HJ.o;omega
   . have e9:i=g.p.ns.length:=by omega
     subst e9;have hlt2:¬(g.p.ns.length:Int)<(g.p.ns.length:Int):=by omega
     clear hlt hi;go_wp2
     go_ret;exact⟨rfl,F4.o.tr FR⟩
end Go.Proofs.YtlbjicjinnnboaaGreatDoor
