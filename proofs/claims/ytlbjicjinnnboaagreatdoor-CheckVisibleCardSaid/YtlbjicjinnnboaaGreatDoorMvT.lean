/- MvT: laws and walks for CheckVisible. -/
import Derived.Test.YtlbjicjinnnboaaGreatDoorMvS
set_option maxHeartbeats 8000000
set_option maxRecDepth 100000
set_option linter.unusedVariables false
set_option linter.unusedSimpArgs false
namespace Go.Proofs.YtlbjicjinnnboaaGreatDoor
open Go.RowKit Go.Proofs.Tryz
open Pw
variable {x line a c:Nat}{nm:List UInt8}
def CkN (G:Geo) (w:World) (r:CkR CkS) (zs:List Nat) (k:Nat):Prop:=match r with
 | .good s=>Ck G w s zs k 0 0
 | .bad e p=>e≠0∧e<=99∧∃s,Ck G.more w s zs k e p
def mU (G:Geo) (zs:List Nat) (k:Nat) (r:CkR CkS) (w:World) (en:Ending) (w':World):Prop:=
 en = .returned (.tuple #[])∧CkN G w' r zs k∧FrK G w w'
section
variable {G:Geo}{w w':World}{s:CkS}{r:CkR CkS}{zs:List Nat}{k e p:Nat}{ex:Nat->CkS->CkR (Nat×CkS)}
theorem CkM.toN (h:CkM G w r zs k) (hM:G.M=24):CkN G w r zs k:=by
 cases r with
 | good s=>exact h
 | bad e p=>obtain⟨h1,h2,s,h3⟩:=h;exact⟨h1,h2,s,h3.more (by omega)⟩
theorem CkN.no (h:CkN G w r zs k) (f:Fr nob w w'):CkN G w' r zs k:=by
 cases r with
 | good s=>exact Ck.no h f
 | bad e p=>obtain⟨h1,h2,s,h3⟩:=h;exact⟨h1,h2,s,h3.no f⟩
theorem Ck.less (h:Ck G.more w s zs k 0 0) (hg:gN G) (hM:G.M=24):Ck G w s zs k 0 0:=
 ⟨hg,h.tree,h.ex,h.types,h.slots,h.fn,h.kk,by have:=h.fine rfl;omega,h.fine,h.vars,h.zs,h.zle⟩
theorem fO.toN {R:CkR CkS} (h:fO R s e p) (hck:Ck G.more w s zs k e p) (hg:gN G) (hM:G.M=24):CkN G w R zs k:=by
 rcases h with ⟨rfl,rfl,rfl⟩|⟨h1,h2,rfl⟩
 . exact hck.less hg hM
 . exact⟨h1,h2,s,hck⟩
theorem aNo (hM:G.M=24) (h:Ck G w s zs k 0 0) (hx:G.ns[x]?=some ⟨10,line,0,nm,[a]⟩) (ha:iF G zs k ex a):
  Calls prog 173 #[(G.g,()),x] w (mU G zs k (aGg ex x ⟨10,line,0,nm,[a]⟩ s) w):=by
 have M0:Hd (CkM G w (.good s) zs k):=h;obtain⟨nb,nc,kv,hnv,hkv,hown,nlt,hx3,c0,x0,x1,x2,x3,x4⟩:=M0.o.node hx;dsimp only at hown x0 x1 x2 x3 x4;have hx4:(G.ns.length:Int)<=300:=by have:=h.geo.few;omega
 have glt:=h.jK;have gn:¬G.g=w.heap.size:=by omega
 have nn:¬nb=w.heap.size:=by omega
 obtain⟨kb,kc,rfl,hkc,hcell⟩:=dL hown (by simp);have hkc2:1<=kc:=by simp at hkc;omega
 have k0:=hcell 0 _ rfl;have klt:kb<w.heap.size:=World.block_lt_of_cell? _ _ k0;have kn:¬kb=w.heap.size:=by omega
 have HG:=hD h.geo;have HA:=hD ha;have HM:=hD hM;clear h hx hkv hown hcell ha hkc hM;go_enter func173,ntmps173;go_wp2_with fail
 have C1:=hD (CkC.new M0 50 #[(10:Int),line,U0,bs nm,(kb,1,kc)] (by decide));have F1:Hd (FrK G w (w.alloc (.cells #[(10:Int),line,U0,bs nm,(kb,1,kc)] 50))):=FrK.no ((fR w).alloc _);clear c0 x0 x1 x2 x3 x4 glt gn nlt nn k0 klt kn;generalize w.alloc (.cells #[(10:Int),line,U0,bs nm,(kb,1,kc)] 50)=w1 at *;generalize w.heap.size=C at *;refine (HA w1 _ C1.o.m).mono ?_;rintro en w2 ⟨t,rfl,h2,f2,hq⟩;have C2:=hD (C1.o.to h2 f2);have F2:=hD (F1.o.trans f2);have HQ:=hD hq;clear h2 f2 hq;obtain⟨b0,hb0⟩:∃b,((t:Int) != 0)=b:=⟨_,rfl⟩;go_wp2_with fail
 refine (C2.o.m.must b0 x).mono ?_;rintro en w3 ⟨rfl,h3,f3⟩;have C3:=hD (C2.o.to h3 f3);have F3:=hD (F2.o.trans f3);have hmode:=h3;clear h3 f3;have d3:w3.cell? (C,3)=(bs nm):=by simpa using C3.o.b.cell 3
 obtain⟨s3,e3,p3,hck,hm⟩:=hmode.open_;clear hmode;have K3:=hD hck;have HMO:Hd (fO ((((ex a s).map (·.2)).bind λs=>if b0=true then CkR.good s else .bad 42 x)) s3 e3 p3):=hm;have HFI:=hD (oG hck nm);have sz3:=hck.size;have sz4:(s3.size:Int)<=24:=by have:=HM.o;omega
 clear hm;have E:=hD (show aGg ex x ⟨10,line,0,nm,[a]⟩ s=(((ex a s).map (·.2)).bind λs=>if b0=true then CkR.good s else .bad 42 x).bind λs2=>if (iK s2.vars nm).isSome then .bad 41 x else if 24<=s2.size then .bad 4 x else .good { s2 with slots:=s2.slots.set x s2.size,vars:=s2.vars++[⟨nm,t,s2.size⟩],size:=s2.size+1 } from by
  unfold aGg
  show (ex a s).bind _=_
  have hq:=HQ.o;rw[show (CkR.good s).bind (ex a)=ex a s from rfl] at hq;cases hE:ex a s with
  | bad e p=>rfl
  | good u=>
    have hu:=hq u hE;subst hu;simp only[CkR.aC,CkR.bO,jD];by_cases h0:u.1=0
    . have:b0=false:=by rw[<-hb0,h0];rfl
      rw[if_pos h0,this];rfl
    . have:b0=true:=by rw[<-hb0,bne,bN.2 (by omega)];rfl
      rw[if_neg h0,this];simp only[if_true,CkR.aC];have e1:((iK u.2.vars nm).bind λj=>u.2.vars[j]?).isSome=(iK u.2.vars nm).isSome:=by
       cases hp:iK u.2.vars nm with
       | none=>rfl
       | some j=>
        have:=rV hp;simp[gE this]
      rw[e1])
 clear hck hb0;cases hp:iK s3.vars nm with
 | none=>
  rw[hp] at HFI;have HP:=hD hp;have HFI2:Hd (Calls prog 100 #[(G.g,()),bs nm] w3 (λen w'=>en = .returned (-1:Int)∧Fr nob w3 w')):=HFI;clear HFI hp;go_wp2_with fail
  refine HFI2.o.mono ?_;rintro en w4 ⟨rfl,hf⟩;have KV1:=hD (K3.o.no hf);have FV1:=hD (F3.o.trans (FrK.no hf));have BV1:=hD (C3.o.b.fr hf (λx=>x));clear hf d3;obtain⟨_,_,-,-,-,-,-,-,-,-,c8,-,-,-,-,-⟩:=KV1.o.cells;by_cases h24:24<=s3.size
  case' pos=>
   have h24':(24:Int)<=(s3.size:Int):=by omega
   have HS:=hD h24;clear h24;go_wp2_with fail
   refine (kD KV1 4 x (by decide)).mono ?_;rintro en wv ⟨rfl,h6,f6⟩;have FV:=hD (FV1.o.trans f6);have BV:=hD (f6.far BV1 C1.o.n0 C1.o.n1 C1.o.n2 C1.o.n3 (by decide));have PK:∃ev pv,Hd (Ck G wv s3 zs k ev pv)∧Hd (fO (aGg ex x ⟨10,line,0,nm,[a]⟩ s) { s3 with slots:=s3.slots.set x s3.size,vars:=s3.vars++[⟨nm,t,s3.size⟩],size:=s3.size+1 } ev pv)∧Hd (ev=0->s3.size<=23):=⟨_,_,h6,hD (by rw[E.o];exact HMO.o.into (by simp[HP.o,HS.o]) (by decide) (by decide) _),hD (λh=>by split at h<;>omega)⟩;clear h6 f6 c8 KV1;go_wp2_with fail
  case' neg=>
   have h24':(s3.size:Int)<24:=by omega
   have FV:=FV1;have BV:=BV1;have HS:=hD h24;clear h24;go_wp2_with fail
   clear c8;generalize w4=wv at *;have PK:∃ev pv,Hd (Ck G wv s3 zs k ev pv)∧Hd (fO (aGg ex x ⟨10,line,0,nm,[a]⟩ s) { s3 with slots:=s3.slots.set x s3.size,vars:=s3.vars++[⟨nm,t,s3.size⟩],size:=s3.size+1 } ev pv)∧Hd (ev=0->s3.size<=23):=⟨_,_,KV1,hD (by rw[E.o];exact HMO.o.pass (by simp[HP.o,HS.o])),hD (λh=>by have:=HS.o;omega)⟩;clear KV1
  all_goals
   obtain⟨ev,pv,KV,HFIN,HS9⟩:=PK;obtain⟨_,_,-,-,-,c3,-,-,-,-,c8,-,-,-,-,-⟩:=KV.o.cells;obtain⟨⟨u2,cs2⟩,zs2⟩:=KV.o.slots.gY (j:=x) (by omega);obtain⟨n1,n2,n3⟩:=KV.o.gne;have D3:=hD c3;have D8:=hD c8;have e3':=hD ((aA2 wv.drew (G.bs,x) (G.g,U3) s3.size (by intro e;injection e with e;exact n2 e.symm)).trans c3);have e8':=hD ((aA2 wv.drew (G.bs,x) (G.g,U8) s3.size (by intro e;injection e with e;exact n2 e.symm)).trans c8);have S8:=hD (KV.o.aQj x (s3.size:Nat));have B8:=hD (S8.o.2.far BV C1.o.n0 C1.o.n1 C1.o.n2 C1.o.n3 (by decide));clear n1 n2 n3;go_region_held3 (λwx=>wx.cell? (G.g,3)=(G.bs,G.ns.length,G.cs)∧wx.cell? (G.g,8)=s3.size) (first|exact⟨D3,D8⟩|exact⟨e3'.o,e8'.o⟩) (first|fail)
   clear c3 c8 cs2 zs2 D3 D8 e3' e8';have S9:=hD (S8.o.1.no ((fR _).drew));have F9:=hD ((FV.o.trans S8.o.2).trans (FrK.no ((fR _).drew)));have B9:=hD (B8.o.fr ((fR _).drew) (λx=>x));clear S8 B8;generalize (wv.setCell (G.bs,x) s3.size).drew=w9 at *;obtain⟨zv,vv,hbl,-,-,hvo,-⟩:=S9.o.ex;obtain⟨VA,VC,rfl,-,-⟩:=hvo.cap;dsimp only at hvo hbl;have c7:w9.cell? (G.g,7)=some (.slice VA s3.vars.length VC):=by rw[hbl.cell];rfl
   have c8:w9.cell? (G.g,8)=s3.size:=by rw[hbl.cell];rfl
   have d3:w9.cell? (C,3)=(bs nm):=by simpa using B9.o.cell 3
   have hvn:s3.vars.length<=24:=by have:=K3.o.vars;omega
   have HV:=hD ((hvo.alloc (.cells #[bs nm,t,s3.size] 62)).fr ((fR _).drew) (λ_ _ x=>x));have HR:=hD (Rd.eZ (n:=1) (size:=3) (cs:=[bs nm,t,s3.size]) ((Blk.new w9 62 [.string (bs nm),.int .i64 (t:Nat),.int .i64 (s3.size:Nat)].toArray).fr ((fR _).drew) (λx=>x)) rfl (by decide));have HB:=hD ((hbl.alloc (.cells #[bs nm,t,s3.size] 62)).fr ((fR _).drew) (λx=>x));have C7:=hD c7;have glt:=hbl.lt;have clt:=B9.o.lt;have gn:¬G.g=w9.heap.size:=by omega
   have cn:¬C=w9.heap.size:=by omega
   clear hbl hvo;go_wp2_with fail
   go_region_law (first|(refine step_append (v:= .slice VA s3.vars.length VC) (n:=s3.vars.length) (m:=1) (xs:=aH s3.vars) (news:=[bs nm,t,s3.size]) (by rfl) _ _ (by rfl) qJ (by rfl) (by rfl) HV HR (by simp[Value.oneCell']) (by omega) (by unfold maxLen;omega) ?_;intro A6 c6 w6 ho6 hf6 hv6;go_loud (have AV:=hD (S9.o.aRn (o:= .cells #[bs nm,t,s3.size] 62) C7 ho6 (Fr.trans (M1:=nob) ((fR _).drew) hf6 (λ_ _ x=>x.elim) (λ_ _ x=>x)) (by simpa using hv6) (by have:=HM.o;omega) HS9));go_loud (have HB6:=hD (HB.o.fr hf6 (λhm=>HV.o.aD HB (by decide) hm)));go_loud (have f7:=HB6.o.frozen 7);go_loud (have c7':w6.cell? (G.g,7)=some (.slice VA s3.vars.length VC):=by rw[HB6.o.cell];rfl);go_loud (have gl6:=HB6.o.lt);clear ho6 hf6 hv6))
   all_goals
     clear c7 c8 d3 C7 glt clt gn cn f7 c7' gl6;have c8:=AV.o.1;have f8:=AV.o.2.1 8;have gl:=World.block_lt_of_cell? _ _ c8;have N:=hD (HFIN.o.toN AV.o.2.2.1 HG HM);have FF:=hD (F9.o.trans AV.o.2.2.2);clear AV HB6;generalize w6.setCell (G.g,U7) (.slice A6 (s3.vars.length+1) c6)=w10 at *;go_wp2
     exact fK rfl rfl ⟨rfl,by first|exact N.o|exact N.o.no ((fR _).drew),by first|exact FF.o|exact FF.o.trans (FrK.no ((fR _).drew))⟩
 | some j=>
  rw[hp] at HFI;have HP:=hD hp;have HFI2:Hd (Calls prog 100 #[(G.g,()),bs nm] w3 (λen w'=>en = .returned j∧Fr nob w3 w')):=HFI;clear HFI hp;go_wp2_with fail
  refine HFI2.o.mono ?_;rintro en w4 ⟨rfl,hf⟩;have KV0:=hD (K3.o.no hf);have FV0:=hD (F3.o.trans (FrK.no hf));have BV0:=hD (C3.o.b.fr hf (λx=>x));have hj0:(0:Int)<=(j:Int):=by omega
  clear hf d3;go_wp2_with fail
  refine (kD KV0 41 x (by decide)).mono ?_;rintro en w5 ⟨rfl,h5,f5⟩;have KV1:=hD h5;have FV1:=hD (FV0.o.trans f5);have BV1:=hD (f5.far BV0 C1.o.n0 C1.o.n1 C1.o.n2 C1.o.n3 (by decide));clear h5 f5;obtain⟨_,_,-,-,-,-,-,-,-,-,c8,-,-,-,-,-⟩:=KV1.o.cells;by_cases h24:24<=s3.size
  case' pos=>
   have h24':(24:Int)<=(s3.size:Int):=by omega
   have HS:=hD h24;clear h24;go_wp2_with fail
   refine (kD KV1 4 x (by decide)).mono ?_;rintro en wv ⟨rfl,h6,f6⟩;have FV:=hD (FV1.o.trans f6);have BV:=hD (f6.far BV1 C1.o.n0 C1.o.n1 C1.o.n2 C1.o.n3 (by decide));have e49:¬(if e3=0 then 41 else e3)=0:=by split<;>omega
   rw[if_neg e49,if_neg e49] at h6;have PK:∃ev pv,Hd (Ck G wv s3 zs k ev pv)∧Hd (fO (aGg ex x ⟨10,line,0,nm,[a]⟩ s) { s3 with slots:=s3.slots.set x s3.size,vars:=s3.vars++[⟨nm,t,s3.size⟩],size:=s3.size+1 } ev pv)∧Hd (ev=0->s3.size<=23):=⟨_,_,h6,hD (by rw[E.o];exact HMO.o.into (by simp[HP.o]) (by decide) (by decide) _),hD (λh=>absurd h e49)⟩;clear h6 f6 c8 KV1;go_wp2_with fail
  case' neg=>
   have h24':(s3.size:Int)<24:=by omega
   have FV:=FV1;have BV:=BV1;have HS:=hD h24;clear h24;go_wp2_with fail
   clear c8;generalize w5=wv at *;have PK:∃ev pv,Hd (Ck G wv s3 zs k ev pv)∧Hd (fO (aGg ex x ⟨10,line,0,nm,[a]⟩ s) { s3 with slots:=s3.slots.set x s3.size,vars:=s3.vars++[⟨nm,t,s3.size⟩],size:=s3.size+1 } ev pv)∧Hd (ev=0->s3.size<=23):=⟨_,_,KV1,hD (by rw[E.o];exact HMO.o.into (by simp[HP.o]) (by decide) (by decide) _),hD (λh=>by have:=HS.o;omega)⟩;clear KV1
  all_goals
   obtain⟨ev,pv,KV,HFIN,HS9⟩:=PK;obtain⟨_,_,-,-,-,c3,-,-,-,-,c8,-,-,-,-,-⟩:=KV.o.cells;obtain⟨⟨u2,cs2⟩,zs2⟩:=KV.o.slots.gY (j:=x) (by omega);obtain⟨n1,n2,n3⟩:=KV.o.gne;have D3:=hD c3;have D8:=hD c8;have e3':=hD ((aA2 wv.drew (G.bs,x) (G.g,U3) s3.size (by intro e;injection e with e;exact n2 e.symm)).trans c3);have e8':=hD ((aA2 wv.drew (G.bs,x) (G.g,U8) s3.size (by intro e;injection e with e;exact n2 e.symm)).trans c8);have S8:=hD (KV.o.aQj x (s3.size:Nat));have B8:=hD (S8.o.2.far BV C1.o.n0 C1.o.n1 C1.o.n2 C1.o.n3 (by decide));clear n1 n2 n3;go_region_held3 (λwx=>wx.cell? (G.g,3)=(G.bs,G.ns.length,G.cs)∧wx.cell? (G.g,8)=s3.size) (first|exact⟨D3,D8⟩|exact⟨e3'.o,e8'.o⟩) (first|fail)
   clear c3 c8 cs2 zs2 D3 D8 e3' e8';have S9:=hD (S8.o.1.no ((fR _).drew));have F9:=hD ((FV.o.trans S8.o.2).trans (FrK.no ((fR _).drew)));have B9:=hD (B8.o.fr ((fR _).drew) (λx=>x));clear S8 B8;generalize (wv.setCell (G.bs,x) s3.size).drew=w9 at *;obtain⟨zv,vv,hbl,-,-,hvo,-⟩:=S9.o.ex;obtain⟨VA,VC,rfl,-,-⟩:=hvo.cap;dsimp only at hvo hbl;have c7:w9.cell? (G.g,7)=some (.slice VA s3.vars.length VC):=by rw[hbl.cell];rfl
   have c8:w9.cell? (G.g,8)=s3.size:=by rw[hbl.cell];rfl
   have d3:w9.cell? (C,3)=(bs nm):=by simpa using B9.o.cell 3
   have hvn:s3.vars.length<=24:=by have:=K3.o.vars;omega
   have HV:=hD ((hvo.alloc (.cells #[bs nm,t,s3.size] 62)).fr ((fR _).drew) (λ_ _ x=>x));have HR:=hD (Rd.eZ (n:=1) (size:=3) (cs:=[bs nm,t,s3.size]) ((Blk.new w9 62 [.string (bs nm),.int .i64 (t:Nat),.int .i64 (s3.size:Nat)].toArray).fr ((fR _).drew) (λx=>x)) rfl (by decide));have HB:=hD ((hbl.alloc (.cells #[bs nm,t,s3.size] 62)).fr ((fR _).drew) (λx=>x));have C7:=hD c7;have glt:=hbl.lt;have clt:=B9.o.lt;have gn:¬G.g=w9.heap.size:=by omega
   have cn:¬C=w9.heap.size:=by omega
   clear hbl hvo;go_wp2_with fail
   go_region_law (first|(refine step_append (v:= .slice VA s3.vars.length VC) (n:=s3.vars.length) (m:=1) (xs:=aH s3.vars) (news:=[bs nm,t,s3.size]) (by rfl) _ _ (by rfl) qJ (by rfl) (by rfl) HV HR (by simp[Value.oneCell']) (by omega) (by unfold maxLen;omega) ?_;intro A6 c6 w6 ho6 hf6 hv6;go_loud (have AV:=hD (S9.o.aRn (o:= .cells #[bs nm,t,s3.size] 62) C7 ho6 (Fr.trans (M1:=nob) ((fR _).drew) hf6 (λ_ _ x=>x.elim) (λ_ _ x=>x)) (by simpa using hv6) (by have:=HM.o;omega) HS9));go_loud (have HB6:=hD (HB.o.fr hf6 (λhm=>HV.o.aD HB (by decide) hm)));go_loud (have f7:=HB6.o.frozen 7);go_loud (have c7':w6.cell? (G.g,7)=some (.slice VA s3.vars.length VC):=by rw[HB6.o.cell];rfl);go_loud (have gl6:=HB6.o.lt);clear ho6 hf6 hv6))
   all_goals
     clear c7 c8 d3 C7 glt clt gn cn f7 c7' gl6;have c8:=AV.o.1;have f8:=AV.o.2.1 8;have gl:=World.block_lt_of_cell? _ _ c8;have N:=hD (HFIN.o.toN AV.o.2.2.1 HG HM);have FF:=hD (F9.o.trans AV.o.2.2.2);clear AV HB6;generalize w6.setCell (G.g,U7) (.slice A6 (s3.vars.length+1) c6)=w10 at *;go_wp2
     exact fK rfl rfl ⟨rfl,by first|exact N.o|exact N.o.no ((fR _).drew),by first|exact FF.o|exact FF.o.trans (FrK.no ((fR _).drew))⟩
end
section
variable {G:Geo}{w w':World}{s:CkS}{r:CkR CkS}{zs:List Nat}{k e p:Nat}{ex:Nat->CkS->CkR (Nat×CkS)}
theorem aKa (hM:G.M=24) (h:Ck G w s zs k 0 0) (hx:G.ns[x]?=some ⟨17,line,0,[],[]⟩):
   Calls prog 177 #[(G.g,()),x] w (mU G zs k (vV G.fs k ex x ⟨17,line,0,[],[]⟩ s) w):=by
 have M0:Hd (CkM G w (.good s) zs k):=h;obtain⟨nb,nc,kv,hnv,hkv,hown,nlt,hx3,c0,x0,x1,x2,x3,x4⟩:=M0.o.node hx;dsimp only at hown x0 x1 x2 x3 x4;have hx4:(G.ns.length:Int)<=300:=by have:=h.geo.few;omega
 have glt:=h.jK;have gn:¬G.g=w.heap.size:=by omega
 have nn:¬nb=w.heap.size:=by omega
 obtain⟨KA,KC,rfl,-,-⟩:=hown.cap;obtain⟨fk,hfk⟩:∃f,G.fs[k]?=some f:=⟨_,gE h.kk⟩;have hk3:(k:Int)<(G.fs.length:Int):=by have:=h.kk;omega
 have hk4:(G.fs.length:Int)<=6:=by have:=h.geo.fewf;omega
 have C1:=hD (CkC.new M0 50 #[(17:Int),line,U0,bs [],.slice KA 0 KC] (by decide));have F1:Hd (FrK G w (w.alloc (.cells #[(17:Int),line,U0,bs [],.slice KA 0 KC] 50))):=FrK.no ((fR w).alloc _);have HM:=hD hM;have HF:=hD hfk;obtain⟨fb,fc,pv,-,-,c1,-,-,-,-,-,y3,-⟩:=C1.o.m.fnc hfk;obtain⟨_,_,-,-,-,-,-,-,c6,-⟩:=(show Ck G _ s zs k 0 0 from C1.o.m).cells;have d4:(w.alloc (.cells #[(17:Int),line,U0,bs [],.slice KA 0 KC] 50)).cell? (w.heap.size,4)=some (.slice KA 0 KC):=by simp
 have K1:=hD c1;have K6:=hD c6;have K3:=hD y3;have D4:=hD d4;clear h hx hkv hown hM hfk c1 c6 y3 d4;by_cases hr:fk.ret=0
 . have E:=hD (show vV G.fs k ex x ⟨17,line,0,[],[]⟩ s = .good s from by unfold vV;rw[HF.o];simp[hr])
   have hb:((fk.ret:Int) != 0)=false:=by rw[hr];rfl
   clear hr;go_enter func177,ntmps177;go_wp2_with fail
   have c1:=K1.o;have c6:=K6.o;have y3:=K3.o;have d4:=D4.o;clear c0 x0 x1 x2 x3 x4 glt gn nlt nn;generalize w.alloc (.cells #[(17:Int),line,U0,bs [],.slice KA 0 KC] 50)=w1 at *;generalize w.heap.size=C at *;go_quiet (fail)
   go_wp2
   refine fK rfl rfl ⟨rfl,?_,by first|exact F1.o|exact F1.o.trans (FrK.no ((fR _).drewN _))⟩;rw[E.o]
   first|exact (C1.o.m.toN HM)|exact (C1.o.m.toN HM).no ((fR _).drewN _)
 . have E:=hD (show vV G.fs k ex x ⟨17,line,0,[],[]⟩ s = .bad 43 x from by unfold vV;rw[HF.o];simp[hr])
   have hb:((fk.ret:Int) != 0)=true:=by rw[bne,bN.2 (by omega)];rfl
   clear hr;go_enter func177,ntmps177;go_wp2_with fail
   have c1:=K1.o;have c6:=K6.o;have y3:=K3.o;have d4:=D4.o;clear c0 x0 x1 x2 x3 x4 glt gn nlt nn;generalize w.alloc (.cells #[(17:Int),line,U0,bs [],.slice KA 0 KC] 50)=w1 at *;generalize w.heap.size=C at *;go_quiet (fail)
   go_wp2_with fail
   refine dU ((C1.o.m.no (by first|exact fR w1|exact (fR w1).drewN _)).fails 43 x (by decide) (by decide)) λw3 M3 f3=>?_;have F3:=hD (F1.o.trans (FrK.trans (FrK.no (by first|exact fR w1|exact (fR w1).drewN _)) f3));clear f3;go_wp2
   refine aPz rfl rfl ⟨rfl,?_,F3⟩;rw[E.o];exact M3.o.toN HM.o
theorem aJz (hM:G.M=24) (h:Ck G w s zs k 0 0) (hx:G.ns[x]?=some ⟨17,line,0,[],[a]⟩) (ha:iF G zs k ex a):
   Calls prog 177 #[(G.g,()),x] w (mU G zs k (vV G.fs k ex x ⟨17,line,0,[],[a]⟩ s) w):=by
 have M0:Hd (CkM G w (.good s) zs k):=h;obtain⟨nb,nc,kv,hnv,hkv,hown,nlt,hx3,c0,x0,x1,x2,x3,x4⟩:=M0.o.node hx;dsimp only at hown x0 x1 x2 x3 x4;have hx4:(G.ns.length:Int)<=300:=by have:=h.geo.few;omega
 have glt:=h.jK;have gn:¬G.g=w.heap.size:=by omega
 have nn:¬nb=w.heap.size:=by omega
 obtain⟨kb,kc,rfl,hkc,hcell⟩:=dL hown (by simp);have hkc2:1<=kc:=by simp at hkc;omega
 obtain⟨fk,hfk⟩:∃f,G.fs[k]?=some f:=⟨_,gE h.kk⟩;have hk3:(k:Int)<(G.fs.length:Int):=by have:=h.kk;omega
 have hk4:(G.fs.length:Int)<=6:=by have:=h.geo.fewf;omega
 have C1:=hD (CkC.new M0 50 #[(17:Int),line,U0,bs [],(kb,1,kc)] (by decide));have F1:Hd (FrK G w (w.alloc (.cells #[(17:Int),line,U0,bs [],(kb,1,kc)] 50))):=FrK.no ((fR w).alloc _);have HM:=hD hM;have HF:=hD hfk;have HA:=hD ha;obtain⟨fb,fc,pv,-,-,c1,-,-,-,-,-,y3,-⟩:=C1.o.m.fnc hfk;obtain⟨_,_,-,-,-,-,-,-,c6,-⟩:=(show Ck G _ s zs k 0 0 from C1.o.m).cells;have d4:(w.alloc (.cells #[(17:Int),line,U0,bs [],(kb,1,kc)] 50)).cell? (w.heap.size,4)=(kb,1,kc):=by simp
 have KK:=hD (C1.o.m.kid hx hkv (j:=0) (a:=a) rfl);have K1:=hD c1;have K6:=hD c6;have K3:=hD y3;have D4:=hD d4;clear h hx hkv hown hM hfk c1 c6 y3 d4 hcell hkc ha;by_cases hr:fk.ret=0
 . have E:=hD (show vV G.fs k ex x ⟨17,line,0,[],[a]⟩ s = .bad 43 x from by unfold vV;rw[HF.o];simp[hr])
   have hb:((fk.ret:Int) != 0)=false:=by rw[hr];rfl
   clear hr;go_enter func177,ntmps177;go_wp2_with fail
   have c1:=K1.o;have c6:=K6.o;have y3:=K3.o;have d4:=D4.o;clear c0 x0 x1 x2 x3 x4 glt gn nlt nn;generalize w.alloc (.cells #[(17:Int),line,U0,bs [],(kb,1,kc)] 50)=w1 at *;generalize w.heap.size=C at *;go_quiet (fail)
   go_wp2_with fail
   refine dU ((C1.o.m.no (by first|exact fR w1|exact (fR w1).drewN _)).fails 43 x (by decide) (by decide)) λw3 M3 f3=>?_;have F3:=hD (F1.o.trans (FrK.trans (FrK.no (by first|exact fR w1|exact (fR w1).drewN _)) f3));clear f3;go_wp2
   refine aPz rfl rfl ⟨rfl,?_,F3⟩;rw[E.o];exact M3.o.toN HM.o
 . have E:=hD (show vV G.fs k ex x ⟨17,line,0,[],[a]⟩ s=(ex a s).bind λr=>if r.1=fk.ret then .good r.2 else .bad 42 x from by unfold vV;rw[HF.o];simp[hr])
   have hb:((fk.ret:Int) != 0)=true:=by rw[bne,bN.2 (by omega)];rfl
   clear hr;go_enter func177,ntmps177;go_wp2_with fail
   have c1:=K1.o;have c6:=K6.o;have y3:=K3.o;have d4:=D4.o;have k0:=KK.o;clear c0 x0 x1 x2 x3 x4 glt gn nlt nn;generalize w.alloc (.cells #[(17:Int),line,U0,bs [],(kb,1,kc)] 50)=w1 at *;generalize w.heap.size=C at *;go_quiet (fail)
   go_wp2_with fail
   refine (HA _ _ (C1.o.m.no (by first|exact fR w1|exact (fR w1).drewN _))).mono ?_;rintro en w3 ⟨t,rfl,h3,f3,hq⟩;have M3:=hD h3;have F3:=hD (F1.o.trans (FrK.trans (FrK.no (by first|exact fR w1|exact (fR w1).drewN _)) f3));have HQ:=hD hq;clear h3 f3 hq c1 c6 y3 d4 k0;obtain⟨b,hbb⟩:∃b,((t:Int)==(fk.ret:Int))=b:=⟨_,rfl⟩;have HBB:=hD hbb;go_wp2_with fail
   refine dU (M3.o.must b x) λw4 M4 f4=>?_;have F4:=hD (F3.o.trans f4);clear f4;go_wp2
   refine fK rfl rfl ⟨rfl,?_,F4⟩;rw[E.o];have h9:=M4.o.toN HM.o;have e9:((((CkR.good s).bind (ex a)).map (·.2)).bind λs=>if b=true then CkR.good s else .bad 42 x)=(ex a s).bind λr=>if r.1=fk.ret then .good r.2 else .bad 42 x:=by
    have hq:=HQ.o;rw[show (CkR.good s).bind (ex a)=ex a s from rfl] at hq ⊢;cases hE:ex a s with
    | bad e p=>rfl
    | good u=>
     have:=hq u hE;simp only[CkR.bO,CkR.aC,<-HBB.o,beq_iff_eq,this];by_cases h8:t=fk.ret
     . rw[if_pos h8,if_pos (by omega)]
     . rw[if_neg h8,if_neg (by omega)]
   rw[<-e9];exact h9
end
def aKx (G:Geo) (zs:List Nat) (k:Nat) (bl:Nat->CkS->CkR CkS) (x:Nat):Prop:=
 ∀(w:World) (s:CkS),Ck G w s zs k 0 0->Calls prog 101 #[(G.g,()),x] w (mU G zs k (bl x s) w)
def aSv (G:Geo) (zs:List Nat) (k:Nat) (st:Nat->CkS->CkR CkS) (x:Nat):Prop:=
 ∀(w:World) (s:CkS),Ck G w s zs k 0 0->Calls prog 146 #[(G.g,()),x] w (mU G zs k (st x s) w)
theorem aQm {α:Type}{P:α->Prop} [DecidablePred P] {q:CkR (α×CkS)}{b:Bool} (hb:∀a,q = .good a->b=decide (P a.1)):
  ((q.map (·.2)).bind λs=>if b=true then CkR.good s else .bad 42 x)=(q.bind λr=>if P r.1 then CkR.good r.2 else .bad 42 x):=by
 cases q with
 | bad e p=>rfl
 | good a=>
  have:=hb a rfl;simp only[CkR.bO,CkR.aC,this,decide_eq_true_eq]
theorem CkN.open_ {G:Geo}{w:World}{r:CkR CkS}{zs:List Nat}{k:Nat} (h:CkN G w r zs k) (hM:G.M=24):∃s e p,Ck G.more w s zs k e p∧fO r s e p:=by
 cases r with
 | good s=>exact⟨s,0,0,Ck.more h (by omega),.inl ⟨rfl,rfl,rfl⟩⟩
 | bad e p=>obtain⟨h1,h2,s,h3⟩:=h;exact⟨s,e,p,h3,.inr ⟨h1,h2,rfl⟩⟩
section
variable {G:Geo}{w w':World}{s:CkS}{r r':CkR CkS}{zs:List Nat}{k:Nat}{ex:Nat->CkS->CkR (Nat×CkS)}{bl:Nat->CkS->CkR CkS}
theorem aNj (hM:G.M=24) (h:Ck G w s zs k 0 0) (hx:G.ns[x]?=some ⟨10,line,0,nm,[a]⟩) (ha:iF G zs k ex a):
  Calls prog 146 #[(G.g,()),x] w (mU G zs k (fI G.fs k ex bl x ⟨10,line,0,nm,[a]⟩ s) w):=by
 have M0:Hd (CkM G w (.good s) zs k):=h;obtain⟨nb,nc,kv,hnv,hkv,hown,nlt,hx3,c0,x0,x1,x2,x3,x4⟩:=M0.o.node hx;dsimp only at hown x0 x1 x2 x3 x4;have hx4:(G.ns.length:Int)<=300:=by have:=h.geo.few;omega
 have hx5:x<G.ns.length:=by omega
 have glt:=h.jK;have gn:¬G.g=w.heap.size:=by omega
 have nn:¬nb=w.heap.size:=by omega
 obtain⟨kb,kc,rfl,hkc,hcell⟩:=dL hown (by simp);have hkc2:1<=kc:=by simp at hkc;omega
 have HK:=hD (And.intro hx hkv);have HM:=hD hM;have C1:=hD (CkC.new M0 50 #[(10:Int),line,U0,bs nm,(kb,1,kc)] (by decide));have F1:Hd (FrK G w (w.alloc (.cells #[(10:Int),line,U0,bs nm,(kb,1,kc)] 50))):=FrK.no ((fR w).alloc _);have HX5:=hD hx5;clear h hx hkv hown hM hx5 hcell hkc;have HA:=hD ha;clear ha;go_enter func146,ntmps146;go_wp2_with fail
 clear c0 x0 x1 x2 x3 x4 glt gn nlt nn;generalize w.alloc (.cells #[(10:Int),line,U0,bs nm,(kb,1,kc)] 50)=w1 at *;generalize w.heap.size=C at *;have K1:Hd (Ck G w1 s zs k 0 0):=C1.o.m;obtain⟨_,_,-,-,-,-,c4,-,c6,-⟩:=K1.o.cells;obtain⟨⟨u2,bf⟩,zf⟩:=K1.o.fn.gY HX5.o;obtain⟨n1,n2,n3⟩:=K1.o.gne;have D4:=hD c4;have D6:=hD c6;have e4:=hD ((aA2 w1.drew (G.bf,x) (G.g,U4) k (by intro e;injection e with e;exact n3 e.symm)).trans c4);have e6:=hD ((aA2 w1.drew (G.bf,x) (G.g,U6) k (by intro e;injection e with e;exact n3 e.symm)).trans c6);have S2:=hD (K1.o.kI x k);clear n1 n2 n3;go_region_held3 (λwx=>wx.cell? (G.g,4)=(G.bf,G.ns.length,G.cf)∧wx.cell? (G.g,6)=k) (first|exact⟨D4,D6⟩|exact⟨e4.o,e6.o⟩) (first|fail)
 clear c4 c6 bf zf D4 D6 e4 e6;have C2:=hD ((C1.o.to (show CkM G _ (.good { s with fn:=s.fn.set x k }) zs k from S2.o.1) S2.o.2).no ((fR _).drew));have F2:=hD ((F1.o.trans S2.o.2).trans (FrK.no ((fR _).drew)));clear S2 K1 C1 F1 HX5;generalize (w1.setCell (G.bf,x) k).drew=w2 at *;have d0:w2.cell? (C,0)=(10:Int):=by simpa using C2.o.b.cell 0
 go_wp2_with fail
 refine dU (aNo HM (show Ck G w2 { s with fn:=s.fn.set x k } zs k 0 0 from C2.o.m) HK.o.1 HA) λw3 N3 f3=>?_;have F3:=hD (F2.o.trans f3);clear f3 d0;go_wp2
 exact fK rfl rfl ⟨rfl,N3,F3⟩
theorem aQb (hM:G.M=24) (h:Ck G w s zs k 0 0) (hx:G.ns[x]?=some ⟨13,line,0,[],[a]⟩) (ha:iF G zs k ex a):
  Calls prog 146 #[(G.g,()),x] w (mU G zs k (fI G.fs k ex bl x ⟨13,line,0,[],[a]⟩ s) w):=by
 have M0:Hd (CkM G w (.good s) zs k):=h;obtain⟨nb,nc,kv,hnv,hkv,hown,nlt,hx3,c0,x0,x1,x2,x3,x4⟩:=M0.o.node hx;dsimp only at hown x0 x1 x2 x3 x4;have hx4:(G.ns.length:Int)<=300:=by have:=h.geo.few;omega
 have hx5:x<G.ns.length:=by omega
 have glt:=h.jK;have gn:¬G.g=w.heap.size:=by omega
 have nn:¬nb=w.heap.size:=by omega
 obtain⟨kb,kc,rfl,hkc,hcell⟩:=dL hown (by simp);have hkc2:1<=kc:=by simp at hkc;omega
 have HK:=hD (And.intro hx hkv);have HM:=hD hM;have C1:=hD (CkC.new M0 50 #[(13:Int),line,U0,bs [],(kb,1,kc)] (by decide));have F1:Hd (FrK G w (w.alloc (.cells #[(13:Int),line,U0,bs [],(kb,1,kc)] 50))):=FrK.no ((fR w).alloc _);have HX5:=hD hx5;clear h hx hkv hown hM hx5 hcell hkc;have HA:=hD ha;clear ha;go_enter func146,ntmps146;go_wp2_with fail
 clear c0 x0 x1 x2 x3 x4 glt gn nlt nn;generalize w.alloc (.cells #[(13:Int),line,U0,bs [],(kb,1,kc)] 50)=w1 at *;generalize w.heap.size=C at *;have K1:Hd (Ck G w1 s zs k 0 0):=C1.o.m;obtain⟨_,_,-,-,-,-,c4,-,c6,-⟩:=K1.o.cells;obtain⟨⟨u2,bf⟩,zf⟩:=K1.o.fn.gY HX5.o;obtain⟨n1,n2,n3⟩:=K1.o.gne;have D4:=hD c4;have D6:=hD c6;have e4:=hD ((aA2 w1.drew (G.bf,x) (G.g,U4) k (by intro e;injection e with e;exact n3 e.symm)).trans c4);have e6:=hD ((aA2 w1.drew (G.bf,x) (G.g,U6) k (by intro e;injection e with e;exact n3 e.symm)).trans c6);have S2:=hD (K1.o.kI x k);clear n1 n2 n3;go_region_held3 (λwx=>wx.cell? (G.g,4)=(G.bf,G.ns.length,G.cf)∧wx.cell? (G.g,6)=k) (first|exact⟨D4,D6⟩|exact⟨e4.o,e6.o⟩) (first|fail)
 clear c4 c6 bf zf D4 D6 e4 e6;have C2:=hD ((C1.o.to (show CkM G _ (.good { s with fn:=s.fn.set x k }) zs k from S2.o.1) S2.o.2).no ((fR _).drew));have F2:=hD ((F1.o.trans S2.o.2).trans (FrK.no ((fR _).drew)));clear S2 K1 C1 F1 HX5;generalize (w1.setCell (G.bf,x) k).drew=w2 at *;have d0:w2.cell? (C,0)=(13:Int):=by simpa using C2.o.b.cell 0
 have d4:w2.cell? (C,4)=(kb,1,kc):=by simpa using C2.o.b.cell 4
 have k0:=C2.o.m.kid HK.o.1 HK.o.2 (j:=0) (a:=a) rfl;go_wp2_with fail
 refine (HA w2 _ C2.o.m).mono ?_;rintro en w3 ⟨t,rfl,h3,f3,hq⟩;have M3:=hD h3;have F3:=hD (F2.o.trans f3);clear h3 f3 hq d0 d4 k0;go_wp2
 exact fK rfl rfl ⟨rfl,M3.o.toN HM,F3⟩
theorem aFk (hM:G.M=24) (h:Ck G w s zs k 0 0) (hx:G.ns[x]?=some ⟨14,line,0,[],[a]⟩) (ha:iF G zs k ex a):
  Calls prog 146 #[(G.g,()),x] w (mU G zs k (fI G.fs k ex bl x ⟨14,line,0,[],[a]⟩ s) w):=by
 have M0:Hd (CkM G w (.good s) zs k):=h;obtain⟨nb,nc,kv,hnv,hkv,hown,nlt,hx3,c0,x0,x1,x2,x3,x4⟩:=M0.o.node hx;dsimp only at hown x0 x1 x2 x3 x4;have hx4:(G.ns.length:Int)<=300:=by have:=h.geo.few;omega
 have hx5:x<G.ns.length:=by omega
 have glt:=h.jK;have gn:¬G.g=w.heap.size:=by omega
 have nn:¬nb=w.heap.size:=by omega
 obtain⟨kb,kc,rfl,hkc,hcell⟩:=dL hown (by simp);have hkc2:1<=kc:=by simp at hkc;omega
 have HK:=hD (And.intro hx hkv);have HM:=hD hM;have C1:=hD (CkC.new M0 50 #[(14:Int),line,U0,bs [],(kb,1,kc)] (by decide));have F1:Hd (FrK G w (w.alloc (.cells #[(14:Int),line,U0,bs [],(kb,1,kc)] 50))):=FrK.no ((fR w).alloc _);have HX5:=hD hx5;clear h hx hkv hown hM hx5 hcell hkc;have HA:=hD ha;clear ha;go_enter func146,ntmps146;go_wp2_with fail
 clear c0 x0 x1 x2 x3 x4 glt gn nlt nn;generalize w.alloc (.cells #[(14:Int),line,U0,bs [],(kb,1,kc)] 50)=w1 at *;generalize w.heap.size=C at *;have K1:Hd (Ck G w1 s zs k 0 0):=C1.o.m;obtain⟨_,_,-,-,-,-,c4,-,c6,-⟩:=K1.o.cells;obtain⟨⟨u2,bf⟩,zf⟩:=K1.o.fn.gY HX5.o;obtain⟨n1,n2,n3⟩:=K1.o.gne;have D4:=hD c4;have D6:=hD c6;have e4:=hD ((aA2 w1.drew (G.bf,x) (G.g,U4) k (by intro e;injection e with e;exact n3 e.symm)).trans c4);have e6:=hD ((aA2 w1.drew (G.bf,x) (G.g,U6) k (by intro e;injection e with e;exact n3 e.symm)).trans c6);have S2:=hD (K1.o.kI x k);clear n1 n2 n3;go_region_held3 (λwx=>wx.cell? (G.g,4)=(G.bf,G.ns.length,G.cf)∧wx.cell? (G.g,6)=k) (first|exact⟨D4,D6⟩|exact⟨e4.o,e6.o⟩) (first|fail)
 clear c4 c6 bf zf D4 D6 e4 e6;have C2:=hD ((C1.o.to (show CkM G _ (.good { s with fn:=s.fn.set x k }) zs k from S2.o.1) S2.o.2).no ((fR _).drew));have F2:=hD ((F1.o.trans S2.o.2).trans (FrK.no ((fR _).drew)));clear S2 K1 C1 F1 HX5;generalize (w1.setCell (G.bf,x) k).drew=w2 at *;have d0:w2.cell? (C,0)=(14:Int):=by simpa using C2.o.b.cell 0
 have d4:w2.cell? (C,4)=(kb,1,kc):=by simpa using C2.o.b.cell 4
 have k0:=C2.o.m.kid HK.o.1 HK.o.2 (j:=0) (a:=a) rfl;go_wp2_with fail
 refine (HA w2 _ C2.o.m).mono ?_;rintro en w3 ⟨t,rfl,h3,f3,hq⟩;have M3:=hD h3;have F3:=hD (F2.o.trans f3);have HQ:=hD hq;clear h3 f3 hq d0 d4 k0;obtain⟨b,hbb⟩:∃b,((t:Int) != 4)=b:=⟨_,rfl⟩;have HBB:=hD hbb;go_wp2_with fail
 refine dU (M3.o.must b x) λw4 M4 f4=>?_;have F4:=hD (F3.o.trans f4);clear f4;go_wp2
 refine fK rfl rfl ⟨rfl,?_,F4⟩;have h9:=M4.o.toN HM.o;rw[CkR.aC] at h9;have e9:=aQm (q:=ex a { s with fn:=s.fn.set x k }) (x:=x) (b:=b) (P:=λ(n:Nat)=>n≠4) (λq hq=>by
  rw[HQ.o q hq,<-HBB.o,Bool.eq_iff_iff];simp only[bne_iff_ne,decide_eq_true_eq];omega)
 rw[show fI G.fs k ex bl x ⟨14,line,0,[],[a]⟩ s=(ex a { s with fn:=s.fn.set x k }).bind λr=>if r.1≠4 then CkR.good r.2 else .bad 42 x from rfl,<-e9];exact h9
theorem aJx (hM:G.M=24) (h:Ck G w s zs k 0 0) (hx:G.ns[x]?=some ⟨17,line,0,[],[]⟩):
  Calls prog 146 #[(G.g,()),x] w (mU G zs k (fI G.fs k ex bl x ⟨17,line,0,[],[]⟩ s) w):=by
 have M0:Hd (CkM G w (.good s) zs k):=h;obtain⟨nb,nc,kv,hnv,hkv,hown,nlt,hx3,c0,x0,x1,x2,x3,x4⟩:=M0.o.node hx;dsimp only at hown x0 x1 x2 x3 x4;have hx4:(G.ns.length:Int)<=300:=by have:=h.geo.few;omega
 have hx5:x<G.ns.length:=by omega
 have glt:=h.jK;have gn:¬G.g=w.heap.size:=by omega
 have nn:¬nb=w.heap.size:=by omega
 obtain⟨KA,KC,rfl,-,-⟩:=hown.cap;have HK:=hD (And.intro hx hkv);have HM:=hD hM;have C1:=hD (CkC.new M0 50 #[(17:Int),line,U0,bs [],.slice KA 0 KC] (by decide));have F1:Hd (FrK G w (w.alloc (.cells #[(17:Int),line,U0,bs [],.slice KA 0 KC] 50))):=FrK.no ((fR w).alloc _);have HX5:=hD hx5;clear h hx hkv hown hM hx5;go_enter func146,ntmps146;go_wp2_with fail
 clear c0 x0 x1 x2 x3 x4 glt gn nlt nn;generalize w.alloc (.cells #[(17:Int),line,U0,bs [],.slice KA 0 KC] 50)=w1 at *;generalize w.heap.size=C at *;have K1:Hd (Ck G w1 s zs k 0 0):=C1.o.m;obtain⟨_,_,-,-,-,-,c4,-,c6,-⟩:=K1.o.cells;obtain⟨⟨u2,bf⟩,zf⟩:=K1.o.fn.gY HX5.o;obtain⟨n1,n2,n3⟩:=K1.o.gne;have D4:=hD c4;have D6:=hD c6;have e4:=hD ((aA2 w1.drew (G.bf,x) (G.g,U4) k (by intro e;injection e with e;exact n3 e.symm)).trans c4);have e6:=hD ((aA2 w1.drew (G.bf,x) (G.g,U6) k (by intro e;injection e with e;exact n3 e.symm)).trans c6);have S2:=hD (K1.o.kI x k);clear n1 n2 n3;go_region_held3 (λwx=>wx.cell? (G.g,4)=(G.bf,G.ns.length,G.cf)∧wx.cell? (G.g,6)=k) (first|exact⟨D4,D6⟩|exact⟨e4.o,e6.o⟩) (first|fail)
 clear c4 c6 bf zf D4 D6 e4 e6;have C2:=hD ((C1.o.to (show CkM G _ (.good { s with fn:=s.fn.set x k }) zs k from S2.o.1) S2.o.2).no ((fR _).drew));have F2:=hD ((F1.o.trans S2.o.2).trans (FrK.no ((fR _).drew)));clear S2 K1 C1 F1 HX5;generalize (w1.setCell (G.bf,x) k).drew=w2 at *;have d0:w2.cell? (C,0)=(17:Int):=by simpa using C2.o.b.cell 0
 go_wp2_with fail
 refine dU (aKa (ex:=ex) HM (show Ck G w2 { s with fn:=s.fn.set x k } zs k 0 0 from C2.o.m) HK.o.1) λw3 N3 f3=>?_;have F3:=hD (F2.o.trans f3);clear f3 d0;go_wp2
 exact fK rfl rfl ⟨rfl,N3,F3⟩
theorem aJw (hM:G.M=24) (h:Ck G w s zs k 0 0) (hx:G.ns[x]?=some ⟨17,line,0,[],[a]⟩) (ha:iF G zs k ex a):
  Calls prog 146 #[(G.g,()),x] w (mU G zs k (fI G.fs k ex bl x ⟨17,line,0,[],[a]⟩ s) w):=by
 have M0:Hd (CkM G w (.good s) zs k):=h;obtain⟨nb,nc,kv,hnv,hkv,hown,nlt,hx3,c0,x0,x1,x2,x3,x4⟩:=M0.o.node hx;dsimp only at hown x0 x1 x2 x3 x4;have hx4:(G.ns.length:Int)<=300:=by have:=h.geo.few;omega
 have hx5:x<G.ns.length:=by omega
 have glt:=h.jK;have gn:¬G.g=w.heap.size:=by omega
 have nn:¬nb=w.heap.size:=by omega
 obtain⟨kb,kc,rfl,hkc,hcell⟩:=dL hown (by simp);have hkc2:1<=kc:=by simp at hkc;omega
 have HK:=hD (And.intro hx hkv);have HM:=hD hM;have C1:=hD (CkC.new M0 50 #[(17:Int),line,U0,bs [],(kb,1,kc)] (by decide));have F1:Hd (FrK G w (w.alloc (.cells #[(17:Int),line,U0,bs [],(kb,1,kc)] 50))):=FrK.no ((fR w).alloc _);have HX5:=hD hx5;clear h hx hkv hown hM hx5 hcell hkc;have HA:=hD ha;clear ha;go_enter func146,ntmps146;go_wp2_with fail
 clear c0 x0 x1 x2 x3 x4 glt gn nlt nn;generalize w.alloc (.cells #[(17:Int),line,U0,bs [],(kb,1,kc)] 50)=w1 at *;generalize w.heap.size=C at *;have K1:Hd (Ck G w1 s zs k 0 0):=C1.o.m;obtain⟨_,_,-,-,-,-,c4,-,c6,-⟩:=K1.o.cells;obtain⟨⟨u2,bf⟩,zf⟩:=K1.o.fn.gY HX5.o;obtain⟨n1,n2,n3⟩:=K1.o.gne;have D4:=hD c4;have D6:=hD c6;have e4:=hD ((aA2 w1.drew (G.bf,x) (G.g,U4) k (by intro e;injection e with e;exact n3 e.symm)).trans c4);have e6:=hD ((aA2 w1.drew (G.bf,x) (G.g,U6) k (by intro e;injection e with e;exact n3 e.symm)).trans c6);have S2:=hD (K1.o.kI x k);clear n1 n2 n3;go_region_held3 (λwx=>wx.cell? (G.g,4)=(G.bf,G.ns.length,G.cf)∧wx.cell? (G.g,6)=k) (first|exact⟨D4,D6⟩|exact⟨e4.o,e6.o⟩) (first|fail)
 clear c4 c6 bf zf D4 D6 e4 e6;have C2:=hD ((C1.o.to (show CkM G _ (.good { s with fn:=s.fn.set x k }) zs k from S2.o.1) S2.o.2).no ((fR _).drew));have F2:=hD ((F1.o.trans S2.o.2).trans (FrK.no ((fR _).drew)));clear S2 K1 C1 F1 HX5;generalize (w1.setCell (G.bf,x) k).drew=w2 at *;have d0:w2.cell? (C,0)=(17:Int):=by simpa using C2.o.b.cell 0
 go_wp2_with fail
 refine dU (aJz HM (show Ck G w2 { s with fn:=s.fn.set x k } zs k 0 0 from C2.o.m) HK.o.1 HA) λw3 N3 f3=>?_;have F3:=hD (F2.o.trans f3);clear f3 d0;go_wp2
 exact fK rfl rfl ⟨rfl,N3,F3⟩
theorem aNh (hM:G.M=24) (h:Ck G w s zs k 0 0) (hx:G.ns[x]?=some ⟨11,line,0,nm,[a]⟩) (ha:iF G zs k ex a):
  Calls prog 146 #[(G.g,()),x] w (mU G zs k (fI G.fs k ex bl x ⟨11,line,0,nm,[a]⟩ s) w):=by
 have M0:Hd (CkM G w (.good s) zs k):=h;obtain⟨nb,nc,kv,hnv,hkv,hown,nlt,hx3,c0,x0,x1,x2,x3,x4⟩:=M0.o.node hx;dsimp only at hown x0 x1 x2 x3 x4;have hx4:(G.ns.length:Int)<=300:=by have:=h.geo.few;omega
 have hx5:x<G.ns.length:=by omega
 have glt:=h.jK;have gn:¬G.g=w.heap.size:=by omega
 have nn:¬nb=w.heap.size:=by omega
 obtain⟨kb,kc,rfl,hkc,hcell⟩:=dL hown (by simp);have hkc2:1<=kc:=by simp at hkc;omega
 have HK:=hD (And.intro hx hkv);have HM:=hD hM;have C1:=hD (CkC.new M0 50 #[(11:Int),line,U0,bs nm,(kb,1,kc)] (by decide));have F1:Hd (FrK G w (w.alloc (.cells #[(11:Int),line,U0,bs nm,(kb,1,kc)] 50))):=FrK.no ((fR w).alloc _);have HX5:=hD hx5;clear h hx hkv hown hM hx5 hcell hkc;have HA:=hD ha;clear ha;go_enter func146,ntmps146;go_wp2_with fail
 clear c0 x0 x1 x2 x3 x4 glt gn nlt nn;generalize w.alloc (.cells #[(11:Int),line,U0,bs nm,(kb,1,kc)] 50)=w1 at *;generalize w.heap.size=C at *;have K1:Hd (Ck G w1 s zs k 0 0):=C1.o.m;obtain⟨_,_,-,-,-,-,c4,-,c6,-⟩:=K1.o.cells;obtain⟨⟨u2,bf⟩,zf⟩:=K1.o.fn.gY HX5.o;obtain⟨n1,n2,n3⟩:=K1.o.gne;have D4:=hD c4;have D6:=hD c6;have e4:=hD ((aA2 w1.drew (G.bf,x) (G.g,U4) k (by intro e;injection e with e;exact n3 e.symm)).trans c4);have e6:=hD ((aA2 w1.drew (G.bf,x) (G.g,U6) k (by intro e;injection e with e;exact n3 e.symm)).trans c6);have S2:=hD (K1.o.kI x k);clear n1 n2 n3;go_region_held3 (λwx=>wx.cell? (G.g,4)=(G.bf,G.ns.length,G.cf)∧wx.cell? (G.g,6)=k) (first|exact⟨D4,D6⟩|exact⟨e4.o,e6.o⟩) (first|fail)
 clear c4 c6 bf zf D4 D6 e4 e6;have C2:=hD ((C1.o.to (show CkM G _ (.good { s with fn:=s.fn.set x k }) zs k from S2.o.1) S2.o.2).no ((fR _).drew));have F2:=hD ((F1.o.trans S2.o.2).trans (FrK.no ((fR _).drew)));clear S2 K1 C1 F1 HX5;generalize (w1.setCell (G.bf,x) k).drew=w2 at *;have d0:w2.cell? (C,0)=(11:Int):=by simpa using C2.o.b.cell 0
 go_wp2_with fail
 refine (mK (show Ck G w2 { s with fn:=s.fn.set x k } zs k 0 0 from C2.o.m) HK.o.1).mono ?_;rintro en w3 ⟨t,rfl,h3,f3,hq⟩;have C3:=hD (C2.o.to h3 f3);have F3:=hD (F2.o.trans f3);have HQ:=hD hq;clear h3 f3 hq d0;have d4:w3.cell? (C,4)=(kb,1,kc):=by simpa using C3.o.b.cell 4
 have k0:=C3.o.m.kid HK.o.1 HK.o.2 (j:=0) (a:=a) rfl;go_wp2_with fail
 refine (HA w3 _ C3.o.m).mono ?_;rintro en w4 ⟨u,rfl,h4,f4,hq⟩;have M4:=hD h4;have F4:=hD (F3.o.trans f4);have HU:=hD hq;clear h4 f4 hq d4 k0;obtain⟨b,hbb⟩:∃b,((t:Int)==(u:Int))=b:=⟨_,rfl⟩;have HBB:=hD hbb;go_wp2_with fail
 refine dU (M4.o.must b x) λw5 M5 f5=>?_;have F5:=hD (F4.o.trans f5);clear f5;go_wp2
 refine fK rfl rfl ⟨rfl,?_,F5⟩;have h9:=M5.o.toN HM.o;have e8:(((aU x nm { s with fn:=s.fn.set x k }).map (·.2)).bind (ex a)).map (·.2)=((aU x nm { s with fn:=s.fn.set x k }).bind λt=>(ex a t.2).map λr=>((t.1,r.1),r.2)).map (·.2):=by
  cases aU x nm { s with fn:=s.fn.set x k } with
  | bad e p=>rfl
  | good q=>
   simp only[CkR.aC,CkR.bO];cases ex a q.2<;>rfl
 have e9:=aQm (q:=((aU x nm { s with fn:=s.fn.set x k }).bind λt=>(ex a t.2).map λr=>((t.1,r.1),r.2))) (x:=x) (b:=b) (P:=λ(n:Nat×Nat)=>n.1=n.2) (λq hq=>by
  obtain⟨c,hc,hq⟩:=CkR.bind_eq hq;obtain⟨d,hd,hq⟩:=CkR.map_eq hq;subst hq;have h1:=HQ.o c hc;have h2:=HU.o d (by rw[show aU x (⟨11,line,0,nm,[a]⟩:aF).name _=aU x nm _ from rfl,hc];exact hd);rw[<-HBB.o,Bool.eq_iff_iff]
  show _↔decide (c.1=d.1)=true
  rw[h1,h2];simp only[beq_iff_eq,decide_eq_true_eq];omega)
 have e7:fI G.fs k ex bl x ⟨11,line,0,nm,[a]⟩ s=((aU x nm { s with fn:=s.fn.set x k }).bind λt=>(ex a t.2).map λr=>((t.1,r.1),r.2)).bind λr=>if r.1.1=r.1.2 then CkR.good r.2 else .bad 42 x:=by
  show ((aU x nm { s with fn:=s.fn.set x k }).bind λt=>(ex a t.2).bind λr=>if t.1=r.1 then CkR.good r.2 else .bad 42 x)=_
  cases aU x nm { s with fn:=s.fn.set x k } with
  | bad e p=>rfl
  | good q=>
   simp only[CkR.aC];cases ex a q.2<;>rfl
 rw[e7,<-e9,<-e8];exact h9
theorem aNi (hM:G.M=24) (h:Ck G w s zs k 0 0) (hx:G.ns[x]?=some ⟨12,line,0,nm,[a,c]⟩) (ha:iF G zs k ex a) (hc:iF G zs k ex c):
  Calls prog 146 #[(G.g,()),x] w (mU G zs k (fI G.fs k ex bl x ⟨12,line,0,nm,[a,c]⟩ s) w):=by
 have M0:Hd (CkM G w (.good s) zs k):=h;obtain⟨nb,nc,kv,hnv,hkv,hown,nlt,hx3,c0,x0,x1,x2,x3,x4⟩:=M0.o.node hx;dsimp only at hown x0 x1 x2 x3 x4;have hx4:(G.ns.length:Int)<=300:=by have:=h.geo.few;omega
 have hx5:x<G.ns.length:=by omega
 have glt:=h.jK;have gn:¬G.g=w.heap.size:=by omega
 have nn:¬nb=w.heap.size:=by omega
 obtain⟨kb,kc,rfl,hkc,hcell⟩:=dL hown (by simp);have hkc2:2<=kc:=by simp at hkc;omega
 have HK:=hD (And.intro hx hkv);have HM:=hD hM;have C1:=hD (CkC.new M0 50 #[(12:Int),line,U0,bs nm,(kb,2,kc)] (by decide));have F1:Hd (FrK G w (w.alloc (.cells #[(12:Int),line,U0,bs nm,(kb,2,kc)] 50))):=FrK.no ((fR w).alloc _);have HX5:=hD hx5;clear h hx hkv hown hM hx5 hcell hkc;have HA:=hD ha;have HCX:=hD hc;clear ha hc;go_enter func146,ntmps146;go_wp2_with fail
 clear c0 x0 x1 x2 x3 x4 glt gn nlt nn;generalize w.alloc (.cells #[(12:Int),line,U0,bs nm,(kb,2,kc)] 50)=w1 at *;generalize w.heap.size=C at *;have K1:Hd (Ck G w1 s zs k 0 0):=C1.o.m;obtain⟨_,_,-,-,-,-,c4,-,c6,-⟩:=K1.o.cells;obtain⟨⟨u2,bf⟩,zf⟩:=K1.o.fn.gY HX5.o;obtain⟨n1,n2,n3⟩:=K1.o.gne;have D4:=hD c4;have D6:=hD c6;have e4:=hD ((aA2 w1.drew (G.bf,x) (G.g,U4) k (by intro e;injection e with e;exact n3 e.symm)).trans c4);have e6:=hD ((aA2 w1.drew (G.bf,x) (G.g,U6) k (by intro e;injection e with e;exact n3 e.symm)).trans c6);have S2:=hD (K1.o.kI x k);clear n1 n2 n3;go_region_held3 (λwx=>wx.cell? (G.g,4)=(G.bf,G.ns.length,G.cf)∧wx.cell? (G.g,6)=k) (first|exact⟨D4,D6⟩|exact⟨e4.o,e6.o⟩) (first|fail)
 clear c4 c6 bf zf D4 D6 e4 e6;have C2:=hD ((C1.o.to (show CkM G _ (.good { s with fn:=s.fn.set x k }) zs k from S2.o.1) S2.o.2).no ((fR _).drew));have F2:=hD ((F1.o.trans S2.o.2).trans (FrK.no ((fR _).drew)));clear S2 K1 C1 F1 HX5;generalize (w1.setCell (G.bf,x) k).drew=w2 at *;have d0:w2.cell? (C,0)=(12:Int):=by simpa using C2.o.b.cell 0
 go_wp2_with fail
 refine (mK (show Ck G w2 { s with fn:=s.fn.set x k } zs k 0 0 from C2.o.m) HK.o.1).mono ?_;rintro en w3 ⟨t,rfl,h3,f3,hq⟩;have C3:=hD (C2.o.to h3 f3);have F3:=hD (F2.o.trans f3);have HQ:=hD hq;clear h3 f3 hq d0;have d4:w3.cell? (C,4)=(kb,2,kc):=by simpa using C3.o.b.cell 4
 have k0:=C3.o.m.kid HK.o.1 HK.o.2 (j:=0) (a:=a) rfl;go_wp2_with fail
 refine (HA w3 _ C3.o.m).mono ?_;rintro en w4 ⟨u,rfl,h4,f4,hq⟩;have C4:=hD (C3.o.to h4 f4);have F4:=hD (F3.o.trans f4);have HU:=hD hq;clear h4 f4 hq d4 k0;have d4:w4.cell? (C,4)=(kb,2,kc):=by simpa using C4.o.b.cell 4
 have k1:=C4.o.m.kid HK.o.1 HK.o.2 (j:=1) (a:=c) rfl;go_wp2_with fail
 refine (HCX w4 _ C4.o.m).mono ?_;rintro en w5 ⟨v,rfl,h5,f5,hq⟩;have M5:=hD h5;have F5:=hD (F4.o.trans f5);have HV:=hD hq;clear h5 f5 hq d4 k1;obtain⟨b4,hb4⟩:∃b,((t:Int)==4)=b:=⟨_,rfl⟩;obtain⟨b1,hb1⟩:∃b,((u:Int)==1)=b:=⟨_,rfl⟩;obtain⟨b2,hb2⟩:∃b,((v:Int)==1)=b:=⟨_,rfl⟩;have e8:=hD (show (((((aU x nm { s with fn:=s.fn.set x k }).map (·.2)).bind (ex a)).map (·.2)).bind (ex c)).map (·.2)=((aU x nm { s with fn:=s.fn.set x k }).bind λt=>(ex a t.2).bind λr=>(ex c r.2).map λq=>((t.1,r.1,q.1),q.2)).map (·.2) from by
  cases aU x nm { s with fn:=s.fn.set x k } with
  | bad e p=>rfl
  | good q=>
   simp only[CkR.aC,CkR.bO];cases ex a q.2 with
   | bad e p=>rfl
   | good r=>
    simp only[CkR.aC,CkR.bO];cases ex c r.2<;>rfl)
 have e7:=hD (show fI G.fs k ex bl x ⟨12,line,0,nm,[a,c]⟩ s=((aU x nm { s with fn:=s.fn.set x k }).bind λt=>(ex a t.2).bind λr=>(ex c r.2).map λq=>((t.1,r.1,q.1),q.2)).bind λr=>if r.1.1=4∧r.1.2.1=1∧r.1.2.2=1 then CkR.good r.2 else .bad 42 x from by
  show ((aU x nm { s with fn:=s.fn.set x k }).bind λt=>(ex a t.2).bind λr=>(ex c r.2).bind λq=>if t.1=4∧r.1=1∧q.1=1 then CkR.good q.2 else .bad 42 x)=_
  cases aU x nm { s with fn:=s.fn.set x k } with
  | bad e p=>rfl
  | good q=>
   simp only[CkR.aC];cases ex a q.2 with
   | bad e p=>rfl
   | good r=>
    simp only[CkR.aC];cases ex c r.2<;>rfl)
 have HP:=hD (show ∀q,((aU x nm { s with fn:=s.fn.set x k }).bind λt=>(ex a t.2).bind λr=>(ex c r.2).map λq=>((t.1,r.1,q.1),q.2)) = .good q->(b4 && b1 && b2)=decide (q.1.1=4∧q.1.2.1=1∧q.1.2.2=1) from by
  intro q hq;obtain⟨c1,hc1,hq⟩:=CkR.bind_eq hq;obtain⟨d1,hd1,hq⟩:=CkR.bind_eq hq;obtain⟨g1,hg1,hq⟩:=CkR.map_eq hq;subst hq;have h1:=HQ.o c1 hc1;have h2:=HU.o d1 (by rw[show aU x (⟨12,line,0,nm,[a,c]⟩:aF).name _=aU x nm _ from rfl,hc1];exact hd1);have h3:=HV.o g1 (by rw[show aU x (⟨12,line,0,nm,[a,c]⟩:aF).name _=aU x nm _ from rfl,hc1,CkR.bO,CkR.aC,hd1];exact hg1)
  show _=decide (c1.1=4∧d1.1=1∧g1.1=1)
  rw[h1,h2,h3,<-hb4,<-hb1,<-hb2,Bool.eq_iff_iff];simp only[Bool.and_eq_true,beq_iff_eq,decide_eq_true_eq];omega)
 cases b4<;>cases b1<;>cases b2
 all_goals
  go_wp2_with fail
  refine dU (M5.o.must _ x) λw6 M6 f6=>?_;have F6:=hD (F5.o.trans f6);clear f6;go_wp2
  refine fK rfl rfl ⟨rfl,?_,F6⟩;have h9:=M6.o.toN HM.o;have e9:=aQm (q:=((aU x nm { s with fn:=s.fn.set x k }).bind λt=>(ex a t.2).bind λr=>(ex c r.2).map λq=>((t.1,r.1,q.1),q.2))) (x:=x) (P:=λ(n:Nat×Nat×Nat)=>n.1=4∧n.2.1=1∧n.2.2=1) (λq hq=>HP.o q hq);rw[show aU x (⟨12,line,0,nm,[a,c]⟩:aF).name _=aU x nm _ from rfl,e8.o] at h9;simp only[Bool.or_false,Bool.or_true,Bool.false_or,Bool.true_or,Bool.and_true,Bool.and_false,Bool.false_and,Bool.true_and,Bool.false_eq_true,if_true,if_false,eq_self,ite_true,ite_false] at e9 h9;rw[e9] at h9;rw[e7.o];exact h9
theorem aNl (hM:G.M=24) (h:Ck G w s zs k 0 0) (hx:G.ns[x]?=some ⟨15,line,0,[],[a,c]⟩) (ha:iF G zs k ex a) (hb:∀y∈[c],aKx G zs k bl y):
  Calls prog 146 #[(G.g,()),x] w (mU G zs k (fI G.fs k ex bl x ⟨15,line,0,[],[a,c]⟩ s) w):=by
 have M0:Hd (CkM G w (.good s) zs k):=h;obtain⟨nb,nc,kv,hnv,hkv,hown,nlt,hx3,c0,x0,x1,x2,x3,x4⟩:=M0.o.node hx;dsimp only at hown x0 x1 x2 x3 x4;have hx4:(G.ns.length:Int)<=300:=by have:=h.geo.few;omega
 have hx5:x<G.ns.length:=by omega
 have glt:=h.jK;have gn:¬G.g=w.heap.size:=by omega
 have nn:¬nb=w.heap.size:=by omega
 obtain⟨kb,kc,rfl,hkc,hcell⟩:=dL hown (by simp);have hkc2:2<=kc:=by simp at hkc;omega
 have HK:=hD (And.intro hx hkv);have HM:=hD hM;have C1:=hD (CkC.new M0 50 #[(15:Int),line,U0,bs [],(kb,2,kc)] (by decide));have F1:Hd (FrK G w (w.alloc (.cells #[(15:Int),line,U0,bs [],(kb,2,kc)] 50))):=FrK.no ((fR w).alloc _);have HX5:=hD hx5;clear h hx hkv hown hM hx5 hcell hkc;have HA:=hD ha;have HB:=hD hb;clear ha hb;go_enter func146,ntmps146;go_wp2_with fail
 clear c0 x0 x1 x2 x3 x4 glt gn nlt nn;generalize w.alloc (.cells #[(15:Int),line,U0,bs [],(kb,2,kc)] 50)=w1 at *;generalize w.heap.size=C at *;have K1:Hd (Ck G w1 s zs k 0 0):=C1.o.m;obtain⟨_,_,-,-,-,-,c4,-,c6,-⟩:=K1.o.cells;obtain⟨⟨u2,bf⟩,zf⟩:=K1.o.fn.gY HX5.o;obtain⟨n1,n2,n3⟩:=K1.o.gne;have D4:=hD c4;have D6:=hD c6;have e4:=hD ((aA2 w1.drew (G.bf,x) (G.g,U4) k (by intro e;injection e with e;exact n3 e.symm)).trans c4);have e6:=hD ((aA2 w1.drew (G.bf,x) (G.g,U6) k (by intro e;injection e with e;exact n3 e.symm)).trans c6);have S2:=hD (K1.o.kI x k);clear n1 n2 n3;go_region_held3 (λwx=>wx.cell? (G.g,4)=(G.bf,G.ns.length,G.cf)∧wx.cell? (G.g,6)=k) (first|exact⟨D4,D6⟩|exact⟨e4.o,e6.o⟩) (first|fail)
 clear c4 c6 bf zf D4 D6 e4 e6;have C2:=hD ((C1.o.to (show CkM G _ (.good { s with fn:=s.fn.set x k }) zs k from S2.o.1) S2.o.2).no ((fR _).drew));have F2:=hD ((F1.o.trans S2.o.2).trans (FrK.no ((fR _).drew)));clear S2 K1 C1 F1 HX5;generalize (w1.setCell (G.bf,x) k).drew=w2 at *;have d0:w2.cell? (C,0)=(15:Int):=by simpa using C2.o.b.cell 0
 have d4:w2.cell? (C,4)=(kb,2,kc):=by simpa using C2.o.b.cell 4
 have k0:=C2.o.m.kid HK.o.1 HK.o.2 (j:=0) (a:=a) rfl;go_wp2_with fail
 refine (HA w2 _ C2.o.m).mono ?_;rintro en w3 ⟨t,rfl,h3,f3,hq⟩;have C3:=hD (C2.o.to h3 f3);have F3:=hD (F2.o.trans f3);have HQ:=hD hq;clear h3 f3 hq d0 d4 k0;obtain⟨b,hbb⟩:∃b,((t:Int)==2)=b:=⟨_,rfl⟩;have HBB:=hD hbb;go_wp2_with fail
 refine (C3.o.m.must b x).mono ?_;rintro en w4 ⟨rfl,h4,f4⟩;have E:=hD (show fI G.fs k ex bl x ⟨15,line,0,[],[a,c]⟩ s=((ex a { s with fn:=s.fn.set x k }).bind λr=>if r.1=2 then CkR.good r.2 else .bad 42 x).bind (dX bl [c]) from by
  show ((ex a { s with fn:=s.fn.set x k }).bind λr=>if r.1=2 then dX bl [c] r.2 else .bad 42 x)=_
  cases ex a { s with fn:=s.fn.set x k } with
  | bad e p=>rfl
  | good u=>
    simp only[CkR.aC];split<;>rfl)
 have N4:=hD (show CkN G w4 (((ex a { s with fn:=s.fn.set x k }).bind λr=>if r.1=2 then CkR.good r.2 else .bad 42 x).bind (dX bl ([c].take 0))) zs k from by
  have h9:=h4.toN HM.o;rw[CkR.aC] at h9;have e9:=aQm (q:=ex a { s with fn:=s.fn.set x k }) (x:=x) (b:=b) (P:=λ(n:Nat)=>n=2) (λq hq=>by
    rw[HQ.o q hq,<-HBB.o,Bool.eq_iff_iff];simp only[beq_iff_eq,decide_eq_true_eq];omega)
  rw[e9] at h9;have e6:((ex a { s with fn:=s.fn.set x k }).bind λr=>if r.1=2 then CkR.good r.2 else .bad 42 x).bind (dX bl ([c].take 0))=((ex a { s with fn:=s.fn.set x k }).bind λr=>if r.1=2 then CkR.good r.2 else .bad 42 x):=by cases ((ex a { s with fn:=s.fn.set x k }).bind λr=>if r.1=2 then CkR.good r.2 else .bad 42 x)<;>rfl
  rw[e6];exact h9)
 have B4:=hD (f4.far C3.o.b C3.o.n0 C3.o.n1 C3.o.n2 C3.o.n3 (by decide));have F4:=hD (F3.o.trans f4);have NN:=hD (And.intro (And.intro C3.o.n0 C3.o.n1) (And.intro C3.o.n2 C3.o.n3));clear h4 f4;generalize ((ex a { s with fn:=s.fn.set x k }).bind λr=>if r.1=2 then CkR.good r.2 else .bad 42 x)=R at *;go_wp2
 go_loopw [12] (λi wr=>∃j:Nat,1<=j∧j<=2∧i = .int .i64 j∧Hd (CkN G wr (R.bind (dX bl ([c].take (j - 1)))) zs k)∧Hd (Blk wr C 50 #[(15:Int),line,U0,bs [],(kb,2,kc)])∧Hd (FrK G w wr)) (λi _=>2 - (intOf i).toNat)
 case atStart=>exact⟨1,by decide,by decide,rfl,N4,B4,F4⟩
 case round=>
  clear N4 B4 F4;obtain⟨j,hj1,hj,rfl,N,B,FR⟩:=hrel;have d4:wr.cell? (C,4)=(kb,2,kc):=by simpa using B.o.cell 4
  obtain⟨s5,e5,p5,hck,hm⟩:=N.o.open_ HM.o;obtain⟨_,_,-,-,-,-,-,-,-,-,-,c9,-⟩:=hck.cells;have c9:wr.cell? (G.g,9)=e5:=c9;by_cases hgo:j<2∧e5=0
  . obtain⟨hlt,rfl⟩:=hgo
    have hlt2:(j:Int)<2:=by omega
    rcases hm with ⟨_,rfl,hm⟩|⟨h0,_⟩
    case inr=>exact absurd rfl h0
    have NG:=hD (show Ck G wr s5 zs k 0 0 from by have h9:=N.o;rw[hm] at h9;exact h9);obtain⟨y,hy⟩:∃y,[a,c][j]?=some y:=⟨_,gE (by simpa using hlt)⟩;have hy1:[c][j - 1]?=some y:=by
      have e1:[a,c][j - 1+1]?=some y:=by rw[show j - 1+1=j by omega];exact hy
      simpa using e1
    have kj:=(show CkM G wr (.good s5) zs k from NG).kid HK.o.1 HK.o.2 (j:=j) (a:=y) hy;have HS:=hD (show R.bind (dX bl ([c].take (j+1 - 1)))=bl y s5 from by
      have e1:[c].take (j+1 - 1)=[c].take (j - 1)++[y]:=by rw[show j+1 - 1=j - 1+1 by omega,List.take_add_one,hy1];rfl
      rw[e1];cases R with
      | bad e p=>cases hm
      | good u=>
        have hm:dX bl ([c].take (j - 1)) u = .good s5:=hm
        show dX bl ([c].take (j - 1)++[y]) u=_
        rw[iJ,hm];rfl)
    have HY:=hD (HB y (List.mem_of_getElem? hy1));have HJ:=hD hlt;have klt:=World.block_lt_of_cell? _ _ kj;clear hck hm hy hy1 hlt;go_wp2_with fail
    refine (HY wr s5 NG).mono ?_;rintro en w6 ⟨rfl,h6,f6⟩;have N6:=hD h6;have F6:=hD (FR.o.trans f6);have B6:=hD (f6.far B NN.o.1.1 NN.o.1.2 NN.o.2.1 NN.o.2.2 (by decide));clear h6 f6 d4 kj c9 klt;go_wp2
    go_roundw
    case rel=>exact⟨j+1,by omega,by have:=HJ.o;omega,by go_num,hD (by rw[HS.o];exact N6),B6,F6⟩
    case measure=>simp[intOf];have:=HJ.o;omega
  . have HF:=hD (show CkN G wr (fI G.fs k ex bl x ⟨15,line,0,[],[a,c]⟩ s) zs k from by
      rw[E.o];by_cases hj9:j<2
      . rcases hm with ⟨h0,_⟩|⟨h0,h99,hm⟩
        . exact absurd ⟨hj9,h0⟩ hgo
        . have e2:R.bind (dX bl [c]) = .bad e5 p5:=by
           cases R with
           | bad e p=>exact hm
           | good u=>
            have hm:dX bl ([c].take (j - 1)) u = .bad e5 p5:=hm;have:=qL ([c].take (j - 1)) ([c].drop (j - 1)) u hm;rwa [List.take_append_drop] at this
          rw[e2];exact⟨h0,h99,s5,hck⟩
      . have h9:=N.o
        rw[show [c].take (j - 1)=[c] from aA5 (by simp;omega)] at h9;exact h9)
    by_cases hlt:j<2
    . have hlt2:(j:Int)<2:=by omega
      have he:((e5:Int)==0)=false:=bN.2 (by intro h;exact hgo ⟨hlt,by omega⟩);clear hgo hm hck hlt;go_wp2
      exact fK rfl rfl ⟨rfl,HF,FR⟩
    . have hle:2<=(j:Int):=by omega
      clear hgo hm hck hlt;go_wp2
      exact fK rfl rfl ⟨rfl,HF,FR⟩
theorem aNk (hM:G.M=24){d:Nat} (h:Ck G w s zs k 0 0) (hx:G.ns[x]?=some ⟨15,line,0,[],[a,c,d]⟩) (ha:iF G zs k ex a) (hb:∀y∈[c,d],aKx G zs k bl y):
  Calls prog 146 #[(G.g,()),x] w (mU G zs k (fI G.fs k ex bl x ⟨15,line,0,[],[a,c,d]⟩ s) w):=by
 have M0:Hd (CkM G w (.good s) zs k):=h;obtain⟨nb,nc,kv,hnv,hkv,hown,nlt,hx3,c0,x0,x1,x2,x3,x4⟩:=M0.o.node hx;dsimp only at hown x0 x1 x2 x3 x4;have hx4:(G.ns.length:Int)<=300:=by have:=h.geo.few;omega
 have hx5:x<G.ns.length:=by omega
 have glt:=h.jK;have gn:¬G.g=w.heap.size:=by omega
 have nn:¬nb=w.heap.size:=by omega
 obtain⟨kb,kc,rfl,hkc,hcell⟩:=dL hown (by simp);have hkc2:3<=kc:=by simp at hkc;omega
 have HK:=hD (And.intro hx hkv);have HM:=hD hM;have C1:=hD (CkC.new M0 50 #[(15:Int),line,U0,bs [],(kb,3,kc)] (by decide));have F1:Hd (FrK G w (w.alloc (.cells #[(15:Int),line,U0,bs [],(kb,3,kc)] 50))):=FrK.no ((fR w).alloc _);have HX5:=hD hx5;clear h hx hkv hown hM hx5 hcell hkc;have HA:=hD ha;have HB:=hD hb;clear ha hb;go_enter func146,ntmps146;go_wp2_with fail
 clear c0 x0 x1 x2 x3 x4 glt gn nlt nn;generalize w.alloc (.cells #[(15:Int),line,U0,bs [],(kb,3,kc)] 50)=w1 at *;generalize w.heap.size=C at *;have K1:Hd (Ck G w1 s zs k 0 0):=C1.o.m;obtain⟨_,_,-,-,-,-,c4,-,c6,-⟩:=K1.o.cells;obtain⟨⟨u2,bf⟩,zf⟩:=K1.o.fn.gY HX5.o;obtain⟨n1,n2,n3⟩:=K1.o.gne;have D4:=hD c4;have D6:=hD c6;have e4:=hD ((aA2 w1.drew (G.bf,x) (G.g,U4) k (by intro e;injection e with e;exact n3 e.symm)).trans c4);have e6:=hD ((aA2 w1.drew (G.bf,x) (G.g,U6) k (by intro e;injection e with e;exact n3 e.symm)).trans c6);have S2:=hD (K1.o.kI x k);clear n1 n2 n3;go_region_held3 (λwx=>wx.cell? (G.g,4)=(G.bf,G.ns.length,G.cf)∧wx.cell? (G.g,6)=k) (first|exact⟨D4,D6⟩|exact⟨e4.o,e6.o⟩) (first|fail)
 clear c4 c6 bf zf D4 D6 e4 e6;have C2:=hD ((C1.o.to (show CkM G _ (.good { s with fn:=s.fn.set x k }) zs k from S2.o.1) S2.o.2).no ((fR _).drew));have F2:=hD ((F1.o.trans S2.o.2).trans (FrK.no ((fR _).drew)));clear S2 K1 C1 F1 HX5;generalize (w1.setCell (G.bf,x) k).drew=w2 at *;have d0:w2.cell? (C,0)=(15:Int):=by simpa using C2.o.b.cell 0
 have d4:w2.cell? (C,4)=(kb,3,kc):=by simpa using C2.o.b.cell 4
 have k0:=C2.o.m.kid HK.o.1 HK.o.2 (j:=0) (a:=a) rfl;go_wp2_with fail
 refine (HA w2 _ C2.o.m).mono ?_;rintro en w3 ⟨t,rfl,h3,f3,hq⟩;have C3:=hD (C2.o.to h3 f3);have F3:=hD (F2.o.trans f3);have HQ:=hD hq;clear h3 f3 hq d0 d4 k0;obtain⟨b,hbb⟩:∃b,((t:Int)==2)=b:=⟨_,rfl⟩;have HBB:=hD hbb;go_wp2_with fail
 refine (C3.o.m.must b x).mono ?_;rintro en w4 ⟨rfl,h4,f4⟩;have E:=hD (show fI G.fs k ex bl x ⟨15,line,0,[],[a,c,d]⟩ s=((ex a { s with fn:=s.fn.set x k }).bind λr=>if r.1=2 then CkR.good r.2 else .bad 42 x).bind (dX bl [c,d]) from by
  show ((ex a { s with fn:=s.fn.set x k }).bind λr=>if r.1=2 then dX bl [c,d] r.2 else .bad 42 x)=_
  cases ex a { s with fn:=s.fn.set x k } with
  | bad e p=>rfl
  | good u=>
    simp only[CkR.aC];split<;>rfl)
 have N4:=hD (show CkN G w4 (((ex a { s with fn:=s.fn.set x k }).bind λr=>if r.1=2 then CkR.good r.2 else .bad 42 x).bind (dX bl ([c,d].take 0))) zs k from by
  have h9:=h4.toN HM.o;rw[CkR.aC] at h9;have e9:=aQm (q:=ex a { s with fn:=s.fn.set x k }) (x:=x) (b:=b) (P:=λ(n:Nat)=>n=2) (λq hq=>by
    rw[HQ.o q hq,<-HBB.o,Bool.eq_iff_iff];simp only[beq_iff_eq,decide_eq_true_eq];omega)
  rw[e9] at h9;have e6:((ex a { s with fn:=s.fn.set x k }).bind λr=>if r.1=2 then CkR.good r.2 else .bad 42 x).bind (dX bl ([c,d].take 0))=((ex a { s with fn:=s.fn.set x k }).bind λr=>if r.1=2 then CkR.good r.2 else .bad 42 x):=by cases ((ex a { s with fn:=s.fn.set x k }).bind λr=>if r.1=2 then CkR.good r.2 else .bad 42 x)<;>rfl
  rw[e6];exact h9)
 have B4:=hD (f4.far C3.o.b C3.o.n0 C3.o.n1 C3.o.n2 C3.o.n3 (by decide));have F4:=hD (F3.o.trans f4);have NN:=hD (And.intro (And.intro C3.o.n0 C3.o.n1) (And.intro C3.o.n2 C3.o.n3));clear h4 f4;generalize ((ex a { s with fn:=s.fn.set x k }).bind λr=>if r.1=2 then CkR.good r.2 else .bad 42 x)=R at *;go_wp2
 go_loopw [12] (λi wr=>∃j:Nat,1<=j∧j<=3∧i = .int .i64 j∧Hd (CkN G wr (R.bind (dX bl ([c,d].take (j - 1)))) zs k)∧Hd (Blk wr C 50 #[(15:Int),line,U0,bs [],(kb,3,kc)])∧Hd (FrK G w wr)) (λi _=>3 - (intOf i).toNat)
 case atStart=>exact⟨1,by decide,by decide,rfl,N4,B4,F4⟩
 case round=>
  clear N4 B4 F4;obtain⟨j,hj1,hj,rfl,N,B,FR⟩:=hrel;have d4:wr.cell? (C,4)=(kb,3,kc):=by simpa using B.o.cell 4
  obtain⟨s5,e5,p5,hck,hm⟩:=N.o.open_ HM.o;obtain⟨_,_,-,-,-,-,-,-,-,-,-,c9,-⟩:=hck.cells;have c9:wr.cell? (G.g,9)=e5:=c9;by_cases hgo:j<3∧e5=0
  . obtain⟨hlt,rfl⟩:=hgo
    have hlt2:(j:Int)<3:=by omega
    rcases hm with ⟨_,rfl,hm⟩|⟨h0,_⟩
    case inr=>exact absurd rfl h0
    have NG:=hD (show Ck G wr s5 zs k 0 0 from by have h9:=N.o;rw[hm] at h9;exact h9);obtain⟨y,hy⟩:∃y,[a,c,d][j]?=some y:=⟨_,gE (by simpa using hlt)⟩;have hy1:[c,d][j - 1]?=some y:=by
      have e1:[a,c,d][j - 1+1]?=some y:=by rw[show j - 1+1=j by omega];exact hy
      simpa using e1
    have kj:=(show CkM G wr (.good s5) zs k from NG).kid HK.o.1 HK.o.2 (j:=j) (a:=y) hy;have HS:=hD (show R.bind (dX bl ([c,d].take (j+1 - 1)))=bl y s5 from by
      have e1:[c,d].take (j+1 - 1)=[c,d].take (j - 1)++[y]:=by rw[show j+1 - 1=j - 1+1 by omega,List.take_add_one,hy1];rfl
      rw[e1];cases R with
      | bad e p=>cases hm
      | good u=>
        have hm:dX bl ([c,d].take (j - 1)) u = .good s5:=hm
        show dX bl ([c,d].take (j - 1)++[y]) u=_
        rw[iJ,hm];rfl)
    have HY:=hD (HB y (List.mem_of_getElem? hy1));have HJ:=hD hlt;have klt:=World.block_lt_of_cell? _ _ kj;clear hck hm hy hy1 hlt;go_wp2_with fail
    refine (HY wr s5 NG).mono ?_;rintro en w6 ⟨rfl,h6,f6⟩;have N6:=hD h6;have F6:=hD (FR.o.trans f6);have B6:=hD (f6.far B NN.o.1.1 NN.o.1.2 NN.o.2.1 NN.o.2.2 (by decide));clear h6 f6 d4 kj c9 klt;go_wp2
    go_roundw
    case rel=>exact⟨j+1,by omega,by have:=HJ.o;omega,by go_num,hD (by rw[HS.o];exact N6),B6,F6⟩
    case measure=>simp[intOf];have:=HJ.o;omega
  . have HF:=hD (show CkN G wr (fI G.fs k ex bl x ⟨15,line,0,[],[a,c,d]⟩ s) zs k from by
      rw[E.o];by_cases hj9:j<3
      . rcases hm with ⟨h0,_⟩|⟨h0,h99,hm⟩
        . exact absurd ⟨hj9,h0⟩ hgo
        . have e2:R.bind (dX bl [c,d]) = .bad e5 p5:=by
           cases R with
           | bad e p=>exact hm
           | good u=>
            have hm:dX bl ([c,d].take (j - 1)) u = .bad e5 p5:=hm;have:=qL ([c,d].take (j - 1)) ([c,d].drop (j - 1)) u hm;rwa [List.take_append_drop] at this
          rw[e2];exact⟨h0,h99,s5,hck⟩
      . have h9:=N.o
        rw[show [c,d].take (j - 1)=[c,d] from aA5 (by simp;omega)] at h9;exact h9)
    by_cases hlt:j<3
    . have hlt2:(j:Int)<3:=by omega
      have he:((e5:Int)==0)=false:=bN.2 (by intro h;exact hgo ⟨hlt,by omega⟩);clear hgo hm hck hlt;go_wp2
      exact fK rfl rfl ⟨rfl,HF,FR⟩
    . have hle:3<=(j:Int):=by omega
      clear hgo hm hck hlt;go_wp2
      exact fK rfl rfl ⟨rfl,HF,FR⟩
theorem aJy (hM:G.M=24) (h:Ck G w s zs k 0 0) (hx:G.ns[x]?=some ⟨16,line,0,[],[a,c]⟩) (ha:iF G zs k ex a) (hb:∀y∈[c],aKx G zs k bl y):
  Calls prog 146 #[(G.g,()),x] w (mU G zs k (fI G.fs k ex bl x ⟨16,line,0,[],[a,c]⟩ s) w):=by
 have M0:Hd (CkM G w (.good s) zs k):=h;obtain⟨nb,nc,kv,hnv,hkv,hown,nlt,hx3,c0,x0,x1,x2,x3,x4⟩:=M0.o.node hx;dsimp only at hown x0 x1 x2 x3 x4;have hx4:(G.ns.length:Int)<=300:=by have:=h.geo.few;omega
 have hx5:x<G.ns.length:=by omega
 have glt:=h.jK;have gn:¬G.g=w.heap.size:=by omega
 have nn:¬nb=w.heap.size:=by omega
 obtain⟨kb,kc,rfl,hkc,hcell⟩:=dL hown (by simp);have hkc2:2<=kc:=by simp at hkc;omega
 have HK:=hD (And.intro hx hkv);have HM:=hD hM;have C1:=hD (CkC.new M0 50 #[(16:Int),line,U0,bs [],(kb,2,kc)] (by decide));have F1:Hd (FrK G w (w.alloc (.cells #[(16:Int),line,U0,bs [],(kb,2,kc)] 50))):=FrK.no ((fR w).alloc _);have HX5:=hD hx5;clear h hx hkv hown hM hx5 hcell hkc;have HA:=hD ha;have HB:=hD hb;clear ha hb;go_enter func146,ntmps146;go_wp2_with fail
 clear c0 x0 x1 x2 x3 x4 glt gn nlt nn;generalize w.alloc (.cells #[(16:Int),line,U0,bs [],(kb,2,kc)] 50)=w1 at *;generalize w.heap.size=C at *;have K1:Hd (Ck G w1 s zs k 0 0):=C1.o.m;obtain⟨_,_,-,-,-,-,c4,-,c6,-⟩:=K1.o.cells;obtain⟨⟨u2,bf⟩,zf⟩:=K1.o.fn.gY HX5.o;obtain⟨n1,n2,n3⟩:=K1.o.gne;have D4:=hD c4;have D6:=hD c6;have e4:=hD ((aA2 w1.drew (G.bf,x) (G.g,U4) k (by intro e;injection e with e;exact n3 e.symm)).trans c4);have e6:=hD ((aA2 w1.drew (G.bf,x) (G.g,U6) k (by intro e;injection e with e;exact n3 e.symm)).trans c6);have S2:=hD (K1.o.kI x k);clear n1 n2 n3;go_region_held3 (λwx=>wx.cell? (G.g,4)=(G.bf,G.ns.length,G.cf)∧wx.cell? (G.g,6)=k) (first|exact⟨D4,D6⟩|exact⟨e4.o,e6.o⟩) (first|fail)
 clear c4 c6 bf zf D4 D6 e4 e6;have C2:=hD ((C1.o.to (show CkM G _ (.good { s with fn:=s.fn.set x k }) zs k from S2.o.1) S2.o.2).no ((fR _).drew));have F2:=hD ((F1.o.trans S2.o.2).trans (FrK.no ((fR _).drew)));clear S2 K1 C1 F1 HX5;generalize (w1.setCell (G.bf,x) k).drew=w2 at *;have d0:w2.cell? (C,0)=(16:Int):=by simpa using C2.o.b.cell 0
 have d4:w2.cell? (C,4)=(kb,2,kc):=by simpa using C2.o.b.cell 4
 have k0:=C2.o.m.kid HK.o.1 HK.o.2 (j:=0) (a:=a) rfl;go_wp2_with fail
 refine (HA w2 _ C2.o.m).mono ?_;rintro en w3 ⟨t,rfl,h3,f3,hq⟩;have C3:=hD (C2.o.to h3 f3);have F3:=hD (F2.o.trans f3);have HQ:=hD hq;clear h3 f3 hq d0 d4 k0;obtain⟨b,hbb⟩:∃b,((t:Int)==2)=b:=⟨_,rfl⟩;have HBB:=hD hbb;go_wp2_with fail
 refine (C3.o.m.must b x).mono ?_;rintro en w4 ⟨rfl,h4,f4⟩;have E:=hD (show fI G.fs k ex bl x ⟨16,line,0,[],[a,c]⟩ s=((ex a { s with fn:=s.fn.set x k }).bind λr=>if r.1=2 then CkR.good r.2 else .bad 42 x).bind (dX bl [c]) from by
  show ((ex a { s with fn:=s.fn.set x k }).bind λr=>if r.1=2 then dX bl [c] r.2 else .bad 42 x)=_
  cases ex a { s with fn:=s.fn.set x k } with
  | bad e p=>rfl
  | good u=>
    simp only[CkR.aC];split<;>rfl)
 have N4:=hD (show CkN G w4 (((ex a { s with fn:=s.fn.set x k }).bind λr=>if r.1=2 then CkR.good r.2 else .bad 42 x).bind (dX bl ([c].take 0))) zs k from by
  have h9:=h4.toN HM.o;rw[CkR.aC] at h9;have e9:=aQm (q:=ex a { s with fn:=s.fn.set x k }) (x:=x) (b:=b) (P:=λ(n:Nat)=>n=2) (λq hq=>by
    rw[HQ.o q hq,<-HBB.o,Bool.eq_iff_iff];simp only[beq_iff_eq,decide_eq_true_eq];omega)
  rw[e9] at h9;have e6:((ex a { s with fn:=s.fn.set x k }).bind λr=>if r.1=2 then CkR.good r.2 else .bad 42 x).bind (dX bl ([c].take 0))=((ex a { s with fn:=s.fn.set x k }).bind λr=>if r.1=2 then CkR.good r.2 else .bad 42 x):=by cases ((ex a { s with fn:=s.fn.set x k }).bind λr=>if r.1=2 then CkR.good r.2 else .bad 42 x)<;>rfl
  rw[e6];exact h9)
 have B4:=hD (f4.far C3.o.b C3.o.n0 C3.o.n1 C3.o.n2 C3.o.n3 (by decide));have F4:=hD (F3.o.trans f4);have NN:=hD (And.intro (And.intro C3.o.n0 C3.o.n1) (And.intro C3.o.n2 C3.o.n3));clear h4 f4;generalize ((ex a { s with fn:=s.fn.set x k }).bind λr=>if r.1=2 then CkR.good r.2 else .bad 42 x)=R at *;go_wp2
 go_loopw [12] (λi wr=>∃j:Nat,1<=j∧j<=2∧i = .int .i64 j∧Hd (CkN G wr (R.bind (dX bl ([c].take (j - 1)))) zs k)∧Hd (Blk wr C 50 #[(16:Int),line,U0,bs [],(kb,2,kc)])∧Hd (FrK G w wr)) (λi _=>2 - (intOf i).toNat)
 case atStart=>exact⟨1,by decide,by decide,rfl,N4,B4,F4⟩
 case round=>
  clear N4 B4 F4;obtain⟨j,hj1,hj,rfl,N,B,FR⟩:=hrel;have d4:wr.cell? (C,4)=(kb,2,kc):=by simpa using B.o.cell 4
  obtain⟨s5,e5,p5,hck,hm⟩:=N.o.open_ HM.o;obtain⟨_,_,-,-,-,-,-,-,-,-,-,c9,-⟩:=hck.cells;have c9:wr.cell? (G.g,9)=e5:=c9;by_cases hgo:j<2∧e5=0
  . obtain⟨hlt,rfl⟩:=hgo
    have hlt2:(j:Int)<2:=by omega
    rcases hm with ⟨_,rfl,hm⟩|⟨h0,_⟩
    case inr=>exact absurd rfl h0
    have NG:=hD (show Ck G wr s5 zs k 0 0 from by have h9:=N.o;rw[hm] at h9;exact h9);obtain⟨y,hy⟩:∃y,[a,c][j]?=some y:=⟨_,gE (by simpa using hlt)⟩;have hy1:[c][j - 1]?=some y:=by
      have e1:[a,c][j - 1+1]?=some y:=by rw[show j - 1+1=j by omega];exact hy
      simpa using e1
    have kj:=(show CkM G wr (.good s5) zs k from NG).kid HK.o.1 HK.o.2 (j:=j) (a:=y) hy;have HS:=hD (show R.bind (dX bl ([c].take (j+1 - 1)))=bl y s5 from by
      have e1:[c].take (j+1 - 1)=[c].take (j - 1)++[y]:=by rw[show j+1 - 1=j - 1+1 by omega,List.take_add_one,hy1];rfl
      rw[e1];cases R with
      | bad e p=>cases hm
      | good u=>
        have hm:dX bl ([c].take (j - 1)) u = .good s5:=hm
        show dX bl ([c].take (j - 1)++[y]) u=_
        rw[iJ,hm];rfl)
    have HY:=hD (HB y (List.mem_of_getElem? hy1));have HJ:=hD hlt;have klt:=World.block_lt_of_cell? _ _ kj;clear hck hm hy hy1 hlt;go_wp2_with fail
    refine (HY wr s5 NG).mono ?_;rintro en w6 ⟨rfl,h6,f6⟩;have N6:=hD h6;have F6:=hD (FR.o.trans f6);have B6:=hD (f6.far B NN.o.1.1 NN.o.1.2 NN.o.2.1 NN.o.2.2 (by decide));clear h6 f6 d4 kj c9 klt;go_wp2
    go_roundw
    case rel=>exact⟨j+1,by omega,by have:=HJ.o;omega,by go_num,hD (by rw[HS.o];exact N6),B6,F6⟩
    case measure=>simp[intOf];have:=HJ.o;omega
  . have HF:=hD (show CkN G wr (fI G.fs k ex bl x ⟨16,line,0,[],[a,c]⟩ s) zs k from by
      rw[E.o];by_cases hj9:j<2
      . rcases hm with ⟨h0,_⟩|⟨h0,h99,hm⟩
        . exact absurd ⟨hj9,h0⟩ hgo
        . have e2:R.bind (dX bl [c]) = .bad e5 p5:=by
           cases R with
           | bad e p=>exact hm
           | good u=>
            have hm:dX bl ([c].take (j - 1)) u = .bad e5 p5:=hm;have:=qL ([c].take (j - 1)) ([c].drop (j - 1)) u hm;rwa [List.take_append_drop] at this
          rw[e2];exact⟨h0,h99,s5,hck⟩
      . have h9:=N.o
        rw[show [c].take (j - 1)=[c] from aA5 (by simp;omega)] at h9;exact h9)
    by_cases hlt:j<2
    . have hlt2:(j:Int)<2:=by omega
      have he:((e5:Int)==0)=false:=bN.2 (by intro h;exact hgo ⟨hlt,by omega⟩);clear hgo hm hck hlt;go_wp2
      exact fK rfl rfl ⟨rfl,HF,FR⟩
    . have hle:2<=(j:Int):=by omega
      clear hgo hm hck hlt;go_wp2
      exact fK rfl rfl ⟨rfl,HF,FR⟩
end
end Go.Proofs.YtlbjicjinnnboaaGreatDoor
