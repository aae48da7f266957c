/- MaT: CkFunB, CkAllC, CkAllB, CkSrc, QLaid. -/
import Derived.Test.YtlbjicjinnnboaaGreatDoorUShelf
import Derived.Test.YtlbjicjinnnboaaGreatDoorMaS
import Derived.Test.YtlbjicjinnnboaaGreatDoorMaJ
import Derived.Test.YtlbjicjinnnboaaGreatDoorMaG
import Derived.Test.YtlbjicjinnnboaaGreatDoorMaK
import Derived.Test.YtlbjicjinnnboaaGreatDoorMaF
import Derived.Test.YtlbjicjinnnboaaGreatDoorMaO
import Derived.Test.YtlbjicjinnnboaaGreatDoorMaN
import Derived.Test.YtlbjicjinnnboaaGreatDoorRows
import Derived.ProofKit
import Derived.OpenShut
import Derived.LaidMore
import Derived.Lay
import Derived.HandedShaped
import Derived.Stop.Joined
set_option maxHeartbeats 8000000
set_option maxRecDepth 100000
set_option linter.unusedVariables false
set_option linter.unusedSimpArgs false
/- The document's checker: function. -/
namespace Go.Proofs.YtlbjicjinnnboaaGreatDoor
open Go.RowKit Go.Proofs.Tryz
open Pw
def aOc (G:Geo) (zs:List Nat) (k:Nat) (r:CkR CkS) (w:World):Prop:=match r with
 | .good s=>∃Z,Ck (G.atZ Z) w s (zs++[s.size]) k 0 0
 | .bad e p=>e≠0∧e≤99∧∃Z s' zs',Ck (G.atZ Z).more w s' zs' k e p
section
variable {G:Geo}{w w':World}{s:CkS}{zs:List Nat}{k k0:Nat}
theorem aOc.no {r:CkR CkS} (h:aOc G zs k r w) (f:Fr nob w w'):aOc G zs k r w':=by
 cases r with
 | good s=>obtain⟨Z,h⟩:=h;exact⟨Z,h.no f⟩
 | bad e p=>obtain⟨h1,h2,Z,s',zs',h⟩:=h;exact⟨h1,h2,Z,s',zs',h.no f⟩
theorem uU (hM:G.M=24) (hu:(G.fs.map (·.name)).Nodup) (h:Ck G w s zs k0 0 0){f:aH} (hf:G.fs[k]?=some f) (hz:zs.length≤900) (hbody:f.body<G.ns.length) (h18:∀nd,G.ns[f.body]?=some nd->nd.kind=18):
  Calls prog 62 #[.pointer (some ⟨G.g,0,none⟩),.int .i64 k] w λen w'=>en = .returned (.tuple #[])∧aOc G zs k (iG G.ns G.fs k f s) w'∧Fr (λb=>G.B≤b) w w':=by
 have M0:Hd (CkM G w (.good s) zs k0):=h;obtain⟨fb,fc,pv,hfv,flt,c1,hpv,hpo,y0,y1,y2,y3,y4⟩:=M0.o.fnc hf;have hkl:=(gK hf);have hk3:(k:Int)<(G.fs.length:Int):=by omega
 have hk4:(G.fs.length:Int)≤6:=by have:=h.geo.fewf;omega
 have glt:=h.jB;have gn:¬G.g=w.heap.size:=by omega
 have fn:¬fb=w.heap.size:=by omega
 obtain⟨PA,PC,rfl,-,-⟩:=hpo.cap;have hpl:f.params.length≤3:=h.geo.fewp f (List.mem_of_getElem? hf);have hpl2:(f.params.length:Int)≤3:=by omega
 have hpl4:(f.params.length:Int)≤9223372036854775807:=by omega
 have HQ:=hD (And.intro hf hpv);have HM:=hD hM;have HG:=hD h.geo;have HZ:=hD hz;have HBL:=hD (λ(zs:List Nat)=>tF (zs:=zs) (k:=k) h.geo hM hu G.ns.length f.body _ hbody (gE hbody) (h18 _ (gE hbody)));obtain⟨_,vv,-,-,-,-,-,-,c6,c7,c8,-,-,hfz,-⟩:=h.cells;have f6:=hfz 6;have f7:=hfz 7;have f8:=hfz 8;have A1:=hD (h.aJo 6 (.int .i64 (k:Nat)) (s':=s) (k':=k) (e':=0) (p':=0) (λ_ _=>rfl) rfl rfl rfl rfl hkl h.size h.fine h.vars);have A2:=hD A1.o.1.aQb;have A3:=hD (A2.o.1.aJo 8 (.int .i64 ((0:Nat):Int)) (s':={ s with vars:=[],size:=0 }) (k':=k) (e':=0) (p':=0) (λ_ _=>rfl) rfl rfl rfl rfl hkl (Nat.zero_le _) (λ_=>Nat.zero_le _) (Nat.le_refl _));have hsz:((((w.setCell ⟨G.g,6,none⟩ (.int .i64 (k:Nat))).setCell ⟨G.g,7,none⟩ (.slice none 0 0)).setCell ⟨G.g,8,none⟩ (.int .i64 0))).heap.size=w.heap.size:=by simp
 have C3:=hD (show CkC G ((((w.setCell ⟨G.g,6,none⟩ (.int .i64 (k:Nat))).setCell ⟨G.g,7,none⟩ (.slice none 0 0)).setCell ⟨G.g,8,none⟩ (.int .i64 0)).alloc (.cells #[.string (bs f.name),.int .i64 f.line,.slice PA f.params.length PC,.int .i64 f.ret,.int .i64 f.body] 48)) (.good { s with vars:=[],size:=0 }) zs k w.heap.size 48 #[.string (bs f.name),.int .i64 f.line,.slice PA f.params.length PC,.int .i64 f.ret,.int .i64 f.body] from by
  have:=CkC.new (show CkM G (((w.setCell ⟨G.g,6,none⟩ (.int .i64 (k:Nat))).setCell ⟨G.g,7,none⟩ (.slice none 0 0)).setCell ⟨G.g,8,none⟩ (.int .i64 0)) (.good { s with vars:=[],size:=0 }) zs k from A3.o.1) 48 #[.string (bs f.name),.int .i64 f.line,.slice PA f.params.length PC,.int .i64 f.ret,.int .i64 f.body] (by decide);rw[hsz] at this;exact this)
 have F3:Hd (FrK G w ((((w.setCell ⟨G.g,6,none⟩ (.int .i64 (k:Nat))).setCell ⟨G.g,7,none⟩ (.slice none 0 0)).setCell ⟨G.g,8,none⟩ (.int .i64 0)).alloc (.cells #[.string (bs f.name),.int .i64 f.line,.slice PA f.params.length PC,.int .i64 f.ret,.int .i64 f.body] 48))):=((A1.o.2.trans A2.o.2).trans A3.o.2).trans (FrK.no ((fR _).alloc _));clear h hf hpv hpo hM hkl hu hz hbody h18 hfz A1 A2 A3 hsz;go_enter func62,ntmps62;go_wp2_with fail
 clear c1 y0 y1 y2 y3 y4 c6 c7 c8 f6 f7 f8 gn fn flt glt hfv hk3 hk4;generalize (((w.setCell ⟨G.g,6,none⟩ (.int .i64 (k:Nat))).setCell ⟨G.g,7,none⟩ (.slice none 0 0)).setCell ⟨G.g,8,none⟩ (.int .i64 0)).alloc (.cells #[.string (bs f.name),.int .i64 f.line,.slice PA f.params.length PC,.int .i64 f.ret,.int .i64 f.body] 48)=w3 at *;generalize w.heap.size=D at *;go_loopw [5] (λi wr=>∃j:Nat,j≤f.params.length∧i = .int .i64 j∧∃(s':CkS) (e p:Nat),Hd (Ck G wr s' zs k e p)∧Hd (s'.size=j∧s'.vars.length=j)∧Hd ((e=0∧p=0∧jC f.body (f.params.take j) [] = .good s'.vars∧s'.types=s.types∧s'.slots=s.slots∧s'.fn=s.fn)∨(e≠0∧e≤99∧jC f.body (f.params.take j) [] = .bad e p))∧Hd (Blk wr D 48 #[.string (bs f.name),.int .i64 f.line,.slice PA f.params.length PC,.int .i64 f.ret,.int .i64 f.body])∧Hd (FrK G w wr)) (λi _=>f.params.length - (intOf i).toNat)
 case atStart=>exact⟨0,Nat.zero_le _,rfl,_,0,0,C3.o.m,hD ⟨rfl,rfl⟩,hD (.inl ⟨rfl,rfl,rfl,rfl,rfl,rfl⟩),C3.o.b,F3⟩
 case round=>
  obtain⟨j,hj,rfl,s',e,p,K,SZ,MO,B,FR⟩:=hrel;have NN:=hD (And.intro (And.intro C3.o.n0 C3.o.n1) (And.intro C3.o.n2 C3.o.n3));clear C3 F3;have d2:wr.cell? ⟨D,2,none⟩=some (.slice PA f.params.length PC):=by simpa using B.o.cell 2
  have d4:wr.cell? ⟨D,4,none⟩=some (.int .i64 f.body):=by simpa using B.o.cell 4
  by_cases hlt:j<f.params.length
  . have hlt2:(j:Int)<(f.params.length:Int):=by omega
    obtain⟨q,hq⟩:∃q,f.params[j]?=some q:=⟨_,gE hlt⟩;have hML:∀{e' p':Nat} {w':World},Ck G w' s' zs k e' p'->CkM G w' (if e'=0 then .good s' else .bad e' p') zs k->True:=λ_ _=>trivial
    have HT:=hD (show f.params.take (j+1)=f.params.take j++[q] from by rw[List.take_add_one,hq];rfl);obtain⟨pb,e1,p0,p1⟩:∃pb,PA=some ⟨pb,0,none⟩∧wr.cell? ⟨pb,j*2,none⟩=some (.string (bs q.1))∧wr.cell? ⟨pb,j*2+1,none⟩=some (.int .i64 (q.2:Nat)):=by
      have ho:Own wr 101 2 (.slice PA f.params.length PC) f.params.length (aM f.params):=K.o.tree.tree.pars.get HQ.o.1 HQ.o.2;obtain⟨pb,e,hc⟩:=ho.some (by omega);exact⟨pb,e,hc _ _ (aN hq).1,hc _ _ (aN hq).2⟩
    subst e1;have HQQ:=hD hq;have hj3:(j:Int)≤3:=by omega
    have HFI:=hD (mV K q.1);clear hq hlt hML;cases hp:iD s'.vars q.1 with
    | none=>
      rw[hp] at HFI;have HP:=hD hp;have HFI2:Hd (Calls prog 100 #[.pointer (some ⟨G.g,0,none⟩),.string (bs q.1)] wr (λen w'=>en = .returned (.int .i64 (-1))∧Fr nob wr w')):=HFI;clear HFI hp;go_wp2_with fail
      refine HFI2.o.mono ?_;rintro en wv ⟨rfl,hf⟩;have KV1:=hD (K.o.no hf);have FV:=hD (FR.o.trans (FrK.no hf));have BV:=hD (B.o.fr hf (λx=>x));clear hf d2 d4 p0 p1;have PK:∃ev pv',Hd (Ck G wv s' zs k ev pv')∧Hd ((ev=0∧pv'=0∧jC f.body (f.params.take (j+1)) [] = .good (s'.vars++[⟨q.1,q.2,j⟩])∧s'.types=s.types∧s'.slots=s.slots∧s'.fn=s.fn)∨(ev≠0∧ev≤99∧jC f.body (f.params.take (j+1)) [] = .bad ev pv')):=⟨e,p,KV1,hD (by
       rcases MO.o with ⟨h1,h2,h3,h4⟩|⟨h1,h2,h3⟩
       . refine .inl ⟨h1,h2,?_,h4⟩
         rw[HT.o,iP,h3,CkR.aC,iT,HP.o];simp only[Option.bind_none,Option.isSome_none,Bool.false_eq_true,if_false];rw[SZ.o.2]
       . exact .inr ⟨h1,h2,by rw[HT.o,iP,h3];rfl⟩)⟩
      clear KV1;obtain⟨ev,pv',KV,HFIN⟩:=PK;have HS9:=hD (show ev=0->s'.size≤23 from λ_=>by rw[SZ.o.1];omega);obtain⟨zv,vv,hbl,-,-,hvo,-⟩:=KV.o.ex;rw[SZ.o.2] at hvo;obtain⟨VA,VC,rfl,-,-⟩:=hvo.cap;have c7:wv.cell? ⟨G.g,7,none⟩=some (.slice VA j VC):=by rw[hbl.cell];rfl
      have d2:wv.cell? ⟨D,2,none⟩=some (.slice (some ⟨pb,0,none⟩) f.params.length PC):=by simpa using BV.o.cell 2
      obtain⟨p0,p1⟩:wv.cell? ⟨pb,j*2,none⟩=some (.string (bs q.1))∧wv.cell? ⟨pb,j*2+1,none⟩=some (.int .i64 (q.2:Nat)):=by
       have ho:Own wv 101 2 (.slice (some ⟨pb,0,none⟩) f.params.length PC) f.params.length (aM f.params):=KV.o.tree.tree.pars.get HQ.o.1 HQ.o.2;obtain⟨pb',e,hc⟩:=ho.some (by omega);injection e with e;injection e with e;subst e;exact⟨hc _ _ (aN HQQ).1,hc _ _ (aN HQQ).2⟩
      have hvn:j≤24:=by omega
      have HV:=hD ((hvo.alloc (.cells #[.string (bs q.1),.int .i64 (q.2:Nat),.int .i64 (j:Nat)] 62)).fr ((fR _).drew) (λ_ _ x=>x));have HR:=hD (Rd.eD (n:=1) (size:=3) (cs:=[.string (bs q.1),.int .i64 (q.2:Nat),.int .i64 (j:Nat)]) ((Blk.new wv 62 [.string (bs q.1),.int .i64 (q.2:Nat),.int .i64 (j:Nat)].toArray).fr ((fR _).drew) (λx=>x)) rfl (by decide));have HB:=hD ((hbl.alloc (.cells #[.string (bs q.1),.int .i64 (q.2:Nat),.int .i64 (j:Nat)] 62)).fr ((fR _).drew) (λx=>x));have BA:=hD ((BV.o.alloc (.cells #[.string (bs q.1),.int .i64 (q.2:Nat),.int .i64 (j:Nat)] 62)).fr ((fR _).drew) (λx=>x));have C7:=hD c7;have glt:=hbl.lt;have dlt:=BV.o.lt;have plt:=World.block_lt_of_cell? _ _ p0;have plt:pb<wv.heap.size:=plt;have gn:¬G.g=wv.heap.size:=by omega
      have dn:¬D=wv.heap.size:=by omega
      have pn:¬pb=wv.heap.size:=by omega
      clear hbl hvo;have HARM:=hD (show ∀(A6:Option Addr) (c6:Nat) (w6:World),Own w6 62 3 (.slice A6 (j+1) c6) (j+1) (aO s'.vars++[.string (bs q.1),.int .i64 (q.2:Nat),.int .i64 (j:Nat)])->Fr (obl (blk (.slice VA j VC))) (wv.alloc (.cells #[.string (bs q.1),.int .i64 (q.2:Nat),.int .i64 (j:Nat)] 62)).drew w6->(blk (.slice A6 (j+1) c6)=blk (.slice VA j VC)∨blk (.slice A6 (j+1) c6)=some (wv.alloc (.cells #[.string (bs q.1),.int .i64 (q.2:Nat),.int .i64 (j:Nat)] 62)).drew.heap.size) ->
         w6.frozen? ⟨G.g,7,none⟩=false∧w6.cell? ⟨G.g,7,none⟩=some (.slice VA j VC)∧G.g<w6.heap.size∧Hd ((w6.setCell ⟨G.g,7,none⟩ (.slice A6 (j+1) c6)).cell? ⟨G.g,8,none⟩=some (.int .i64 (j:Nat))∧(w6.setCell ⟨G.g,7,none⟩ (.slice A6 (j+1) c6)).frozen? ⟨G.g,8,none⟩=false∧Ck G ((w6.setCell ⟨G.g,7,none⟩ (.slice A6 (j+1) c6)).setCell ⟨G.g,8,none⟩ (.int .i64 ((j:Int)+1))) { s' with vars:=s'.vars++[⟨q.1,q.2,j⟩],size:=j+1 } zs k ev pv'∧FrK G w ((w6.setCell ⟨G.g,7,none⟩ (.slice A6 (j+1) c6)).setCell ⟨G.g,8,none⟩ (.int .i64 ((j:Int)+1)))∧Blk ((w6.setCell ⟨G.g,7,none⟩ (.slice A6 (j+1) c6)).setCell ⟨G.g,8,none⟩ (.int .i64 ((j:Int)+1))) D 48 #[.string (bs f.name),.int .i64 f.line,.slice (some ⟨pb,0,none⟩) f.params.length PC,.int .i64 f.ret,.int .i64 f.body]) from by
       intro A6 c6 w6 ho6 hf6 hv6;have h9:=KV.o.aOa (nm:=q.1) (t:=q.2) (o:= .cells #[.string (bs q.1),.int .i64 (q.2:Nat),.int .i64 (j:Nat)] 62) C7 (by rw[SZ.o.1,SZ.o.2];exact ho6) (Fr.trans (M1:=nob) ((fR _).drew) hf6 (λ_ _ x=>x.elim) (λ_ _ x=>x)) (by rw[SZ.o.2];simpa using hv6) (by have:=HM.o;omega) HS9.o;rw[SZ.o.1,SZ.o.2] at h9;have HB6:=HB.o.fr hf6 (λhm=>HV.o.aD HB (by decide) hm);have B6:=BA.o.fr hf6 (λhm=>HV.o.aD BA (by decide) hm);exact⟨HB6.frozen 7,by rw[HB6.cell];rfl,HB6.lt,h9.1,h9.2.1 8,h9.2.2.1.aKl HG (by show j+1≤G.M;have:=HM.o;omega),FV.o.trans h9.2.2.2,(B6.far (p:=⟨G.g,7,none⟩) NN.o.1.1 (.slice A6 (j+1) c6)).far (p:=⟨G.g,8,none⟩) NN.o.1.1 (.int .i64 ((j:Int)+1))⟩)
      clear HB BA;go_wp2_with fail
      go_region_law (first|(refine step_append (v:= .slice VA j VC) (n:=j) (m:=1) (xs:=aO s'.vars) (news:=[.string (bs q.1),.int .i64 (q.2:Nat),.int .i64 (j:Nat)]) (by rfl) _ _ (by rfl) zF (by rfl) (by rfl) HV HR (by simp[Value.oneCell']) (by omega) (by unfold maxLen;omega) ?_;intro A6 c6 w6 ho6 hf6 hv6;have X:=HARM.o A6 c6 w6 ho6 hf6 hv6;obtain⟨f7,c7',gl6,AV⟩:=X;clear ho6 hf6 hv6))
      all_goals
       clear c7 d2 p0 p1 C7 glt dlt plt gn dn pn f7 c7' gl6 HARM HV HR;have c8:=AV.o.1;have f8:=AV.o.2.1;have gl:=World.block_lt_of_cell? _ _ c8;have N:=hD AV.o.2.2.1;have FF:=hD AV.o.2.2.2.1;have BB:=hD AV.o.2.2.2.2;clear AV;generalize w6.setCell ⟨G.g,7,none⟩ (.slice A6 (j+1) c6)=w10 at *;go_wp2
       go_roundw
       case rel=>exact⟨j+1,by omega,by go_num,_,ev,pv',hD (by first|exact N.o|exact N.o.no ((fR _).drew)),hD ⟨rfl,by rw[List.length_append,SZ.o.2];rfl⟩,HFIN,hD (by first|exact BB.o|exact BB.o.fr ((fR _).drew) (λx=>x)),hD (by first|exact FF.o|exact FF.o.trans (FrK.no ((fR _).drew)))⟩
       case measure=>simp[intOf];omega
    | some i=>
      rw[hp] at HFI;have HP:=hD (And.intro hp (qA hp));have HFI2:Hd (Calls prog 100 #[.pointer (some ⟨G.g,0,none⟩),.string (bs q.1)] wr (λen w'=>en = .returned (.int .i64 (i:Nat))∧Fr nob wr w')):=HFI;have hi0:(0:Int)≤(i:Int):=by omega
      clear HFI hp;go_wp2_with fail
      refine HFI2.o.mono ?_;rintro en w4 ⟨rfl,hf⟩;have KV0:=hD (K.o.no hf);have FV0:=hD (FR.o.trans (FrK.no hf));have BV0:=hD (B.o.fr hf (λx=>x));clear hf d2 d4 p0 p1;have d4:w4.cell? ⟨D,4,none⟩=some (.int .i64 f.body):=by simpa using BV0.o.cell 4
      go_wp2_with fail
      refine (jM KV0 41 f.body (by decide)).mono ?_;rintro en wv ⟨rfl,h5,f5⟩;have FV:=hD (FV0.o.trans f5);have BV:=hD (f5.far BV0 NN.o.1.1 NN.o.1.2 NN.o.2.1 NN.o.2.2 (by decide));have PK:∃ev pv',Hd (Ck G wv s' zs k ev pv')∧Hd ((ev=0∧pv'=0∧jC f.body (f.params.take (j+1)) [] = .good (s'.vars++[⟨q.1,q.2,j⟩])∧s'.types=s.types∧s'.slots=s.slots∧s'.fn=s.fn)∨(ev≠0∧ev≤99∧jC f.body (f.params.take (j+1)) [] = .bad ev pv')):=⟨_,_,h5,hD (by
       rcases MO.o with ⟨h1,h2,h3,h4⟩|⟨h1,h2,h3⟩
       . refine .inr ⟨by rw[h1];decide,by rw[h1];decide,?_⟩
         rw[HT.o,iP,h3,CkR.aC,iT,HP.o.1,h1];simp only[Option.bind_some,gE HP.o.2,Option.isSome_some,if_true]
       . rw[if_neg h1,if_neg h1]
         exact .inr ⟨h1,h2,by rw[HT.o,iP,h3];rfl⟩)⟩
      clear h5 f5 d4;obtain⟨ev,pv',KV,HFIN⟩:=PK;have HS9:=hD (show ev=0->s'.size≤23 from λ_=>by rw[SZ.o.1];omega);obtain⟨zv,vv,hbl,-,-,hvo,-⟩:=KV.o.ex;rw[SZ.o.2] at hvo;obtain⟨VA,VC,rfl,-,-⟩:=hvo.cap;have c7:wv.cell? ⟨G.g,7,none⟩=some (.slice VA j VC):=by rw[hbl.cell];rfl
      have d2:wv.cell? ⟨D,2,none⟩=some (.slice (some ⟨pb,0,none⟩) f.params.length PC):=by simpa using BV.o.cell 2
      obtain⟨p0,p1⟩:wv.cell? ⟨pb,j*2,none⟩=some (.string (bs q.1))∧wv.cell? ⟨pb,j*2+1,none⟩=some (.int .i64 (q.2:Nat)):=by
       have ho:Own wv 101 2 (.slice (some ⟨pb,0,none⟩) f.params.length PC) f.params.length (aM f.params):=KV.o.tree.tree.pars.get HQ.o.1 HQ.o.2;obtain⟨pb',e,hc⟩:=ho.some (by omega);injection e with e;injection e with e;subst e;exact⟨hc _ _ (aN HQQ).1,hc _ _ (aN HQQ).2⟩
      have hvn:j≤24:=by omega
      have HV:=hD ((hvo.alloc (.cells #[.string (bs q.1),.int .i64 (q.2:Nat),.int .i64 (j:Nat)] 62)).fr ((fR _).drew) (λ_ _ x=>x));have HR:=hD (Rd.eD (n:=1) (size:=3) (cs:=[.string (bs q.1),.int .i64 (q.2:Nat),.int .i64 (j:Nat)]) ((Blk.new wv 62 [.string (bs q.1),.int .i64 (q.2:Nat),.int .i64 (j:Nat)].toArray).fr ((fR _).drew) (λx=>x)) rfl (by decide));have HB:=hD ((hbl.alloc (.cells #[.string (bs q.1),.int .i64 (q.2:Nat),.int .i64 (j:Nat)] 62)).fr ((fR _).drew) (λx=>x));have BA:=hD ((BV.o.alloc (.cells #[.string (bs q.1),.int .i64 (q.2:Nat),.int .i64 (j:Nat)] 62)).fr ((fR _).drew) (λx=>x));have C7:=hD c7;have glt:=hbl.lt;have dlt:=BV.o.lt;have plt:=World.block_lt_of_cell? _ _ p0;have plt:pb<wv.heap.size:=plt;have gn:¬G.g=wv.heap.size:=by omega
      have dn:¬D=wv.heap.size:=by omega
      have pn:¬pb=wv.heap.size:=by omega
      clear hbl hvo;have HARM:=hD (show ∀(A6:Option Addr) (c6:Nat) (w6:World),Own w6 62 3 (.slice A6 (j+1) c6) (j+1) (aO s'.vars++[.string (bs q.1),.int .i64 (q.2:Nat),.int .i64 (j:Nat)])->Fr (obl (blk (.slice VA j VC))) (wv.alloc (.cells #[.string (bs q.1),.int .i64 (q.2:Nat),.int .i64 (j:Nat)] 62)).drew w6->(blk (.slice A6 (j+1) c6)=blk (.slice VA j VC)∨blk (.slice A6 (j+1) c6)=some (wv.alloc (.cells #[.string (bs q.1),.int .i64 (q.2:Nat),.int .i64 (j:Nat)] 62)).drew.heap.size) ->
         w6.frozen? ⟨G.g,7,none⟩=false∧w6.cell? ⟨G.g,7,none⟩=some (.slice VA j VC)∧G.g<w6.heap.size∧Hd ((w6.setCell ⟨G.g,7,none⟩ (.slice A6 (j+1) c6)).cell? ⟨G.g,8,none⟩=some (.int .i64 (j:Nat))∧(w6.setCell ⟨G.g,7,none⟩ (.slice A6 (j+1) c6)).frozen? ⟨G.g,8,none⟩=false∧Ck G ((w6.setCell ⟨G.g,7,none⟩ (.slice A6 (j+1) c6)).setCell ⟨G.g,8,none⟩ (.int .i64 ((j:Int)+1))) { s' with vars:=s'.vars++[⟨q.1,q.2,j⟩],size:=j+1 } zs k ev pv'∧FrK G w ((w6.setCell ⟨G.g,7,none⟩ (.slice A6 (j+1) c6)).setCell ⟨G.g,8,none⟩ (.int .i64 ((j:Int)+1)))∧Blk ((w6.setCell ⟨G.g,7,none⟩ (.slice A6 (j+1) c6)).setCell ⟨G.g,8,none⟩ (.int .i64 ((j:Int)+1))) D 48 #[.string (bs f.name),.int .i64 f.line,.slice (some ⟨pb,0,none⟩) f.params.length PC,.int .i64 f.ret,.int .i64 f.body]) from by
       intro A6 c6 w6 ho6 hf6 hv6;have h9:=KV.o.aOa (nm:=q.1) (t:=q.2) (o:= .cells #[.string (bs q.1),.int .i64 (q.2:Nat),.int .i64 (j:Nat)] 62) C7 (by rw[SZ.o.1,SZ.o.2];exact ho6) (Fr.trans (M1:=nob) ((fR _).drew) hf6 (λ_ _ x=>x.elim) (λ_ _ x=>x)) (by rw[SZ.o.2];simpa using hv6) (by have:=HM.o;omega) HS9.o;rw[SZ.o.1,SZ.o.2] at h9;have HB6:=HB.o.fr hf6 (λhm=>HV.o.aD HB (by decide) hm);have B6:=BA.o.fr hf6 (λhm=>HV.o.aD BA (by decide) hm);exact⟨HB6.frozen 7,by rw[HB6.cell];rfl,HB6.lt,h9.1,h9.2.1 8,h9.2.2.1.aKl HG (by show j+1≤G.M;have:=HM.o;omega),FV.o.trans h9.2.2.2,(B6.far (p:=⟨G.g,7,none⟩) NN.o.1.1 (.slice A6 (j+1) c6)).far (p:=⟨G.g,8,none⟩) NN.o.1.1 (.int .i64 ((j:Int)+1))⟩)
      clear HB BA;go_wp2_with fail
      go_region_law (first|(refine step_append (v:= .slice VA j VC) (n:=j) (m:=1) (xs:=aO s'.vars) (news:=[.string (bs q.1),.int .i64 (q.2:Nat),.int .i64 (j:Nat)]) (by rfl) _ _ (by rfl) zF (by rfl) (by rfl) HV HR (by simp[Value.oneCell']) (by omega) (by unfold maxLen;omega) ?_;intro A6 c6 w6 ho6 hf6 hv6;have X:=HARM.o A6 c6 w6 ho6 hf6 hv6;obtain⟨f7,c7',gl6,AV⟩:=X;clear ho6 hf6 hv6))
      all_goals
       clear c7 d2 p0 p1 C7 glt dlt plt gn dn pn f7 c7' gl6 HARM HV HR;have c8:=AV.o.1;have f8:=AV.o.2.1;have gl:=World.block_lt_of_cell? _ _ c8;have N:=hD AV.o.2.2.1;have FF:=hD AV.o.2.2.2.1;have BB:=hD AV.o.2.2.2.2;clear AV;generalize w6.setCell ⟨G.g,7,none⟩ (.slice A6 (j+1) c6)=w10 at *;go_wp2
       go_roundw
       case rel=>exact⟨j+1,by omega,by go_num,_,ev,pv',hD (by first|exact N.o|exact N.o.no ((fR _).drew)),hD ⟨rfl,by rw[List.length_append,SZ.o.2];rfl⟩,HFIN,hD (by first|exact BB.o|exact BB.o.fr ((fR _).drew) (λx=>x)),hD (by first|exact FF.o|exact FF.o.trans (FrK.no ((fR _).drew)))⟩
       case measure=>simp[intOf];omega
  . have hle:(f.params.length:Int)≤(j:Int):=by omega
    have MO2:=hD (show ((e=0∧p=0∧jC f.body f.params [] = .good s'.vars∧s'.types=s.types∧s'.slots=s.slots∧s'.fn=s.fn)∨(e≠0∧e≤99∧jC f.body f.params [] = .bad e p)) from by
      have h9:=MO.o;rw[List.take_of_length_le (by omega)] at h9;exact h9)
    obtain⟨_,_,-,-,-,-,-,-,-,-,-,c9,-⟩:=K.o.cells;clear MO;by_cases he:e=0
    case' pos=>
     have heb:((e:Int)==0)=true:=by rw[he];rfl
     have KG:=hD (show Ck G wr s' zs k 0 0 from by
      rcases MO2.o with ⟨h1,h2,_⟩|⟨h1,_⟩
      . have h9:=K.o;rw[h1,h2] at h9;exact h9
      . exact absurd he h1)
     have EQ:=hD (show iG G.ns G.fs k f s=gI G.ns G.fs k G.ns.length f.body s' from by
      rcases MO2.o with ⟨h1,h2,h3,h4,h5,h6⟩|⟨h1,_⟩
      . unfold iG
        rw[h3,CkR.aC];congr 1
        obtain⟨ty,sl,fn,va,sz⟩:=s';have h7:=SZ.o;dsimp only at h4 h5 h6 h7 ⊢;rw[h4,h5,h6,h7.1,h7.2]
      . exact absurd he h1)
     clear he;go_wp2_with fail
     refine (HBL zs wr s' KG).mono ?_;rintro en wv ⟨rfl,h6,f6⟩;obtain⟨s9,e9,p9,hk9,hm9⟩:=h6.open_ HM.o;have KV:=hD hk9;have MK:=hD (show gB (iG G.ns G.fs k f s) s9 e9 p9 from by rw[EQ.o];exact hm9);have FV:=hD (FR.o.trans f6);clear h6 f6 hk9 hm9 c9 d4 d2;go_wp2_with fail
     obtain⟨zv,vv,hbl,hzo,-,-,-⟩:=KV.o.ex;obtain⟨VA,VC,rfl,-,-⟩:=hzo.cap;have hbl2:Blk wv G.g 99 (jI G.more (.slice VA zs.length VC) vv k s9.size e9 p9):=hbl;have c5:wv.cell? ⟨G.g,5,none⟩=some (.slice VA zs.length VC):=by rw[hbl2.cell];rfl
     have c8:wv.cell? ⟨G.g,8,none⟩=some (.int .i64 (s9.size:Nat)):=by rw[hbl2.cell];rfl
     have HV:=hD ((hzo.alloc (.cells #[.int .i64 (s9.size:Nat)] 3)).fr ((fR _).drew) (λ_ _ x=>x));have HR:=hD (Rd.eD (n:=1) (size:=1) (cs:=[.int .i64 (s9.size:Nat)]) ((Blk.new wv 3 [.int .i64 (s9.size:Nat)].toArray).fr ((fR _).drew) (λx=>x)) rfl (by decide));have HB:=hD ((hbl2.alloc (.cells #[.int .i64 (s9.size:Nat)] 3)).fr ((fR _).drew) (λx=>x));have C5:=hD c5;have glt:=hbl2.lt;have gn:¬G.g=wv.heap.size:=by omega
     have hzl:zs.length≤900:=HZ.o;clear hbl hbl2 hzo;have HARM:=hD (show ∀(A6:Option Addr) (c6:Nat) (w6:World),Own w6 3 1 (.slice A6 (zs.length+1) c6) (zs.length+1) (ints zs++[.int .i64 (s9.size:Nat)])->Fr (obl (blk (.slice VA zs.length VC))) (wv.alloc (.cells #[.int .i64 (s9.size:Nat)] 3)).drew w6->(blk (.slice A6 (zs.length+1) c6)=blk (.slice VA zs.length VC)∨blk (.slice A6 (zs.length+1) c6)=some (wv.alloc (.cells #[.int .i64 (s9.size:Nat)] 3)).drew.heap.size) ->
        w6.frozen? ⟨G.g,5,none⟩=false∧w6.cell? ⟨G.g,5,none⟩=some (.slice VA zs.length VC)∧G.g<w6.heap.size∧Hd (aOc G zs k (iG G.ns G.fs k f s) (w6.setCell ⟨G.g,5,none⟩ (.slice A6 (zs.length+1) c6))∧Fr (λb=>G.B≤b) w (w6.setCell ⟨G.g,5,none⟩ (.slice A6 (zs.length+1) c6))) from by
      intro A6 c6 w6 ho6 hf6 hv6;have h9:=KV.o.aPo (o:= .cells #[.int .i64 (s9.size:Nat)] 3) C5 ho6 (Fr.trans (M1:=nob) ((fR _).drew) hf6 (λ_ _ x=>x.elim) (λ_ _ x=>x)) (by simpa using hv6) HZ.o;have HB6:=HB.o.fr hf6 (λhm=>HV.o.aD HB (by decide) hm);refine⟨HB6.frozen 5,by rw[HB6.cell];rfl,HB6.lt,?_,(FV.o.toB HG).tr h9.2⟩;rcases MK.o with ⟨h1,h2,h3⟩|⟨h1,h2,h3⟩
      . rw[h3]
        refine⟨(w6.setCell ⟨G.g,5,none⟩ (.slice A6 (zs.length+1) c6)).heap.size,?_⟩;have h8:=h9.1;subst h1;subst h2;exact⟨gD.z HG h8.geo.lg h8.geo.lt h8.geo.ls h8.geo.lf,h8.tree,h8.ex,h8.types,h8.slots,h8.fn,h8.kk,by have:=h8.fine rfl;have:=HM.o;show s9.size≤G.M;omega,h8.fine,h8.vars,h8.zs,h8.zle⟩
      . rw[h3]
        exact⟨h1,h2,(w6.setCell ⟨G.g,5,none⟩ (.slice A6 (zs.length+1) c6)).heap.size,s9,zs++[s9.size],h9.1⟩)
     clear HB;go_wp2_with fail
     go_region_law (first|(refine step_append (v:= .slice VA zs.length VC) (n:=zs.length) (m:=1) (xs:=ints zs) (news:=[.int .i64 (s9.size:Nat)]) (by rfl) _ _ (by rfl) fJ (by rfl) (by rfl) HV HR (by simp[Value.oneCell']) (by omega) (by unfold maxLen;omega) ?_;intro A6 c6 w6 ho6 hf6 hv6;have X:=HARM.o A6 c6 w6 ho6 hf6 hv6;obtain⟨f5,c5',gl6,AV⟩:=X;clear ho6 hf6 hv6))
    case' neg=>
     have heb:((e:Int)==0)=false:=bN.2 (by omega)
     have KV:=hD (K.o.more (by have:=HM.o;omega));have MK:=hD (show gB (iG G.ns G.fs k f s) s' e p from by
      rcases MO2.o with ⟨h1,_⟩|⟨h1,h2,h3⟩
      . exact absurd h1 he
      . exact .inr ⟨h1,h2,by unfold iG;rw[h3];rfl⟩)
     have FV:=FR;clear he;go_wp2_with fail
     clear c9 d4 d2;generalize wr=wv at *;generalize s'=s9 at *;generalize e=e9 at *;generalize p=p9 at *;obtain⟨zv,vv,hbl,hzo,-,-,-⟩:=KV.o.ex;obtain⟨VA,VC,rfl,-,-⟩:=hzo.cap;have hbl2:Blk wv G.g 99 (jI G.more (.slice VA zs.length VC) vv k s9.size e9 p9):=hbl;have c5:wv.cell? ⟨G.g,5,none⟩=some (.slice VA zs.length VC):=by rw[hbl2.cell];rfl
     have c8:wv.cell? ⟨G.g,8,none⟩=some (.int .i64 (s9.size:Nat)):=by rw[hbl2.cell];rfl
     have HV:=hD ((hzo.alloc (.cells #[.int .i64 (s9.size:Nat)] 3)).fr ((fR _).drew) (λ_ _ x=>x));have HR:=hD (Rd.eD (n:=1) (size:=1) (cs:=[.int .i64 (s9.size:Nat)]) ((Blk.new wv 3 [.int .i64 (s9.size:Nat)].toArray).fr ((fR _).drew) (λx=>x)) rfl (by decide));have HB:=hD ((hbl2.alloc (.cells #[.int .i64 (s9.size:Nat)] 3)).fr ((fR _).drew) (λx=>x));have C5:=hD c5;have glt:=hbl2.lt;have gn:¬G.g=wv.heap.size:=by omega
     have hzl:zs.length≤900:=HZ.o;clear hbl hbl2 hzo;have HARM:=hD (show ∀(A6:Option Addr) (c6:Nat) (w6:World),Own w6 3 1 (.slice A6 (zs.length+1) c6) (zs.length+1) (ints zs++[.int .i64 (s9.size:Nat)])->Fr (obl (blk (.slice VA zs.length VC))) (wv.alloc (.cells #[.int .i64 (s9.size:Nat)] 3)).drew w6->(blk (.slice A6 (zs.length+1) c6)=blk (.slice VA zs.length VC)∨blk (.slice A6 (zs.length+1) c6)=some (wv.alloc (.cells #[.int .i64 (s9.size:Nat)] 3)).drew.heap.size) ->
        w6.frozen? ⟨G.g,5,none⟩=false∧w6.cell? ⟨G.g,5,none⟩=some (.slice VA zs.length VC)∧G.g<w6.heap.size∧Hd (aOc G zs k (iG G.ns G.fs k f s) (w6.setCell ⟨G.g,5,none⟩ (.slice A6 (zs.length+1) c6))∧Fr (λb=>G.B≤b) w (w6.setCell ⟨G.g,5,none⟩ (.slice A6 (zs.length+1) c6))) from by
      intro A6 c6 w6 ho6 hf6 hv6;have h9:=KV.o.aPo (o:= .cells #[.int .i64 (s9.size:Nat)] 3) C5 ho6 (Fr.trans (M1:=nob) ((fR _).drew) hf6 (λ_ _ x=>x.elim) (λ_ _ x=>x)) (by simpa using hv6) HZ.o;have HB6:=HB.o.fr hf6 (λhm=>HV.o.aD HB (by decide) hm);refine⟨HB6.frozen 5,by rw[HB6.cell];rfl,HB6.lt,?_,(FV.o.toB HG).tr h9.2⟩;rcases MK.o with ⟨h1,h2,h3⟩|⟨h1,h2,h3⟩
      . rw[h3]
        refine⟨(w6.setCell ⟨G.g,5,none⟩ (.slice A6 (zs.length+1) c6)).heap.size,?_⟩;have h8:=h9.1;subst h1;subst h2;exact⟨gD.z HG h8.geo.lg h8.geo.lt h8.geo.ls h8.geo.lf,h8.tree,h8.ex,h8.types,h8.slots,h8.fn,h8.kk,by have:=h8.fine rfl;have:=HM.o;show s9.size≤G.M;omega,h8.fine,h8.vars,h8.zs,h8.zle⟩
      . rw[h3]
        exact⟨h1,h2,(w6.setCell ⟨G.g,5,none⟩ (.slice A6 (zs.length+1) c6)).heap.size,s9,zs++[s9.size],h9.1⟩)
     clear HB;go_wp2_with fail
     go_region_law (first|(refine step_append (v:= .slice VA zs.length VC) (n:=zs.length) (m:=1) (xs:=ints zs) (news:=[.int .i64 (s9.size:Nat)]) (by rfl) _ _ (by rfl) fJ (by rfl) (by rfl) HV HR (by simp[Value.oneCell']) (by omega) (by unfold maxLen;omega) ?_;intro A6 c6 w6 ho6 hf6 hv6;have X:=HARM.o A6 c6 w6 ho6 hf6 hv6;obtain⟨f5,c5',gl6,AV⟩:=X;clear ho6 hf6 hv6))
    all_goals
     clear c5 c8 C5 glt gn f5 c5' gl6 HARM HV HR;generalize w6.setCell ⟨G.g,5,none⟩ (.slice A6 (zs.length+1) c6)=w10 at *;go_wp2
     exact fE rfl rfl ⟨rfl,by first|exact AV.o.1|exact AV.o.1.no ((fR _).drew),by first|exact AV.o.2|exact AV.o.2.drew⟩
end
theorem Blk.aMa (w:World) (p:Addr) (v:Value) (t:TypeId) (cs:Array Value):Blk ((w.setCell p v).alloc (.cells cs t)) w.heap.size t cs:=by
 have:=Blk.new (w.setCell p v) t cs;rwa [show (w.setCell p v).heap.size=w.heap.size by simp] at this
theorem aHf {B0 B g:Nat}{w0 w w':World}{u v:Value}{o:Obj} (h0:B0≤B) (f:Fr (λb=>B0≤b) w0 w) (hu:∀x,blk u=some x->B≤x) (hf:Fr (obl (blk u)) (w.alloc o) w') (hg:B≤g) (i:Nat):Fr (λb=>B0≤b) w0 (w'.setCell ⟨g,i,none⟩ v):=
 ((f.alloc o).trans hf (λ_ _ x=>x) (λb _ hm=>Nat.le_trans h0 (hu b hm))).setCell ⟨g,i,none⟩ v (λ_=>Nat.le_trans h0 hg)
section
variable (ns:List aG) (fs:List aH)
end
section
variable {B g TB RB:Nat}{nv fv:Value}{lvs pvs:List Value}{ns:List aG}{fs:List aH}{w w':World}{n:Nat}
theorem A1.aQr {A1' A2 A3:Option Addr}{c1 c2 c3:Nat} (h:A1 B g TB RB nv fv lvs pvs ns fs w ns.length ns.length ns.length (.slice A1' ns.length c1) (.slice A2 ns.length c2) (.slice A3 ns.length c3)) (hok:jN ns fs) (hk:∀nd∈ns,nd.l.length≤300) (hn:0<ns.length) (hf:0<fs.length):
  ∃bt bs bf,Ck (aKt B w.heap.size g bt bs bf c1 c2 c3 nv fv lvs pvs ns fs) w (jZ ns) [] 0 0 0:=by
 obtain⟨bt,rfl,-⟩:=h.types.some hn;obtain⟨bs,rfl,-⟩:=h.slots.some hn;obtain⟨bf,rfl,-⟩:=h.fn.some hn;have q1:=aR (b:=bt) hn h.types.mW.1;have q2:=aR (b:=bs) hn h.slots.mW.1;have q3:=aR (b:=bf) hn h.fn.mW.1;refine⟨bt,bs,bf,⟨⟨(by decide:24≤1000),h.hg,h.ht _ q1,h.hs _ q2,h.hf _ q3,h.blk_.lt,h.types.aY q1,h.slots.aY q2,h.fn.aY q3,λe=>h.ts _ q1 (q2.trans (congrArg some (Eq.symm e))),λe=>h.tf _ q1 (q3.trans (congrArg some (Eq.symm e))),λe=>h.sf _ q2 (q3.trans (congrArg some (Eq.symm e))),hn,hok.few,hok.fewf,hok.pars,hk,hok⟩,
  h.tree,⟨.slice none 0 0,.slice none 0 0,h.blk_,Own.nil _ _ _,λb hb=>by simp[blk] at hb,Own.nil _ _ _,λb hb=>by simp[blk] at hb⟩,h.types,h.slots,h.fn,hf,Nat.zero_le _,λ_=>Nat.zero_le _,Nat.le_refl _,Nat.zero_le _,Nat.le_refl _⟩⟩
def L2 (g:Nat) (nv fv:Value) (lvs pvs:List Value) (ns:List aG) (fs:List aH) (i:Nat) (w:World) (e p:Nat):Prop:=
 w.cell? ⟨g,9,none⟩=some (.int .i64 (e:Nat))∧w.cell? ⟨g,10,none⟩=some (.int .i64 (p:Nat))∧g<w.heap.size ∧
 ((e=0∧p=0∧kD fs = .good ()∧0<fs.length∧∃G zs s k,Ck G w s zs k 0 0∧G.B=g∧G.g=g∧G.M=24∧G.nv=nv∧G.fv=fv∧G.lvs=lvs∧G.pvs=pvs∧G.ns=ns∧G.fs=fs∧zs.length=i∧kE ns fs 0 (fs.take i) [] (jZ ns) = .good (zs,s))∨(e≠0∧e≤99∧dQ ns fs = .bad e p))
end
section
variable {w:World}{lvs pvs:List Value}{ns:List aG}{fs:List aH}
theorem aLo {NA FA:Option Addr}{NC FC:Nat} (ht:bW 0 w (.slice NA ns.length NC) (.slice FA fs.length FC) lvs pvs ns fs):A1 (w.heap.size+1+1) (w.heap.size+1+1) w.heap.size (w.heap.size+1) (.slice NA ns.length NC) (.slice FA fs.length FC) lvs pvs ns fs (((w.alloc (.cells #[.slice NA ns.length NC,.slice FA fs.length FC] 26)).alloc (.cells #[.slice none 0 0,.slice none 0 0,.slice none 0 0,.slice none 0 0,.slice none 0 0,.slice none 0 0] 29)).alloc (.cells #[.slice NA ns.length NC,.slice FA fs.length FC,.slice none 0 0,.slice none 0 0,.slice none 0 0,.slice none 0 0,.int .i64 0,.slice none 0 0,.int .i64 0,.int .i64 0,.int .i64 0] 99)) 0 0 0 (.slice none 0 0) (.slice none 0 0) (.slice none 0 0):=by
 have hb:=Blk.new ((w.alloc (.cells #[.slice NA ns.length NC,.slice FA fs.length FC] 26)).alloc (.cells #[.slice none 0 0,.slice none 0 0,.slice none 0 0,.slice none 0 0,.slice none 0 0,.slice none 0 0] 29)) 99 #[.slice NA ns.length NC,.slice FA fs.length FC,.slice none 0 0,.slice none 0 0,.slice none 0 0,.slice none 0 0,.int .i64 0,.slice none 0 0,.int .i64 0,.int .i64 0,.int .i64 0];have h1:=((Blk.new w 26 #[.slice NA ns.length NC,.slice FA fs.length FC]).alloc (.cells #[.slice none 0 0,.slice none 0 0,.slice none 0 0,.slice none 0 0,.slice none 0 0,.slice none 0 0] 29)).alloc (.cells #[.slice NA ns.length NC,.slice FA fs.length FC,.slice none 0 0,.slice none 0 0,.slice none 0 0,.slice none 0 0,.int .i64 0,.slice none 0 0,.int .i64 0,.int .i64 0,.int .i64 0] 99);have h2:=(Blk.new (w.alloc (.cells #[.slice NA ns.length NC,.slice FA fs.length FC] 26)) 29 #[.slice none 0 0,.slice none 0 0,.slice none 0 0,.slice none 0 0,.slice none 0 0,.slice none 0 0]).alloc (.cells #[.slice NA ns.length NC,.slice FA fs.length FC,.slice none 0 0,.slice none 0 0,.slice none 0 0,.slice none 0 0,.int .i64 0,.slice none 0 0,.int .i64 0,.int .i64 0,.int .i64 0] 99);simp only[World.size_alloc] at hb h2;have hl:=(dG.of ht).keep (w':=(((w.alloc (.cells #[.slice NA ns.length NC,.slice FA fs.length FC] 26)).alloc (.cells #[.slice none 0 0,.slice none 0 0,.slice none 0 0,.slice none 0 0,.slice none 0 0,.slice none 0 0] 29)).alloc (.cells #[.slice NA ns.length NC,.slice FA fs.length FC,.slice none 0 0,.slice none 0 0,.slice none 0 0,.slice none 0 0,.int .i64 0,.slice none 0 0,.int .i64 0,.int .i64 0,.int .i64 0] 99))) (λb hb=>by rw[Below.heap_alloc _ _ _ (by simp;omega),Below.heap_alloc _ _ _ (by simp;omega),Below.heap_alloc _ _ _ hb]) (by simp;omega)
 exact⟨hl.up (by omega) (by simp),hb,h1,⟨_,h2,rfl⟩,Own.nil _ _ _,Own.nil _ _ _,Own.nil _ _ _,Nat.le_refl _,λx hx=>by simp[blk] at hx,λx hx=>by simp[blk] at hx,λx hx=>by simp[blk] at hx,λx hx=>by simp[blk] at hx,λx hx=>by simp[blk] at hx,λx hx=>by simp[blk] at hx⟩
theorem oF {NA FA:Option Addr}{NC FC:Nat} (ht:bW 0 w (.slice NA ns.length NC) (.slice FA fs.length FC) lvs pvs ns fs) (hok:jN ns fs) (hk:∀nd∈ns,nd.l.length≤300):
  Calls prog 32 #[.agg #[.slice NA ns.length NC,.slice FA fs.length FC]] w λen w'=>CheckAt w' en (.slice NA ns.length NC) (.slice FA fs.length FC) lvs pvs (dQ ns fs)∧Fr nob w w':=by
 have hns:=hok.few;have hfs:=hok.fewf;have hn3:(ns.length:Int)≤300:=by omega
 have hf3:(fs.length:Int)≤6:=by omega
 have HO:=hD hok;have HKD:=hD hk;have SA:=hD (aLo ht);have FA0:Hd (Fr (λb=>w.heap.size≤b) w (((w.alloc (.cells #[.slice NA ns.length NC,.slice FA fs.length FC] 26)).alloc (.cells #[.slice none 0 0,.slice none 0 0,.slice none 0 0,.slice none 0 0,.slice none 0 0,.slice none 0 0] 29)).alloc (.cells #[.slice NA ns.length NC,.slice FA fs.length FC,.slice none 0 0,.slice none 0 0,.slice none 0 0,.slice none 0 0,.int .i64 0,.slice none 0 0,.int .i64 0,.int .i64 0,.int .i64 0] 99))):=(((Fr.refl _ w).alloc _).alloc _).alloc _;clear ht hok hk;go_enter func32,ntmps32;go_wp2_with fail
 generalize ((w.alloc (.cells #[.slice NA ns.length NC,.slice FA fs.length FC] 26)).alloc (.cells #[.slice none 0 0,.slice none 0 0,.slice none 0 0,.slice none 0 0,.slice none 0 0,.slice none 0 0] 29)).alloc (.cells #[.slice NA ns.length NC,.slice FA fs.length FC,.slice none 0 0,.slice none 0 0,.slice none 0 0,.slice none 0 0,.int .i64 0,.slice none 0 0,.int .i64 0,.int .i64 0,.int .i64 0] 99)=w1 at *;generalize hG:w.heap.size+1+1=G at *;generalize hR:w.heap.size+1=RB at *;generalize hB:w.heap.size=TB at *;have HB:=hD (show TB≤G∧TB<G∧RB<G∧TB≤RB∧w.heap.size=TB from ⟨by omega,by omega,by omega,by omega,hB⟩);clear hG hR hB;go_loopw [6] (λi wr=>∃(j:Nat) (A1' A2 A3:Option Addr) (c1 c2 c3:Nat),j≤ns.length∧i = .int .i64 j∧Hd (A1 G G TB RB (.slice NA ns.length NC) (.slice FA fs.length FC) lvs pvs ns fs wr j j j (.slice A1' j c1) (.slice A2 j c2) (.slice A3 j c3))∧Hd (Fr (λb=>TB≤b) w wr)) (λi _=>ns.length - (intOf i).toNat)
 case atStart=>exact⟨0,none,none,none,0,0,0,Nat.zero_le _,rfl,SA,FA0⟩
 case round=>
  clear SA FA0;obtain⟨j,A1,A2,A3,c1,c2,c3,hj,rfl,S0,FR⟩:=hrel;have t0:wr.cell? ⟨TB,0,none⟩=some (.slice NA ns.length NC):=(S0.o.tb.cell 0).trans rfl;have t1:wr.cell? ⟨TB,1,none⟩=some (.slice FA fs.length FC):=(S0.o.tb.cell 1).trans rfl;by_cases hlt:j<ns.length
  . have hlt2:(j:Int)<(ns.length:Int):=by omega
    have hj6:(j:Int)≤300:=by omega
    have e2:wr.cell? ⟨G,2,none⟩=some (.slice A1 j c1):=(S0.o.blk_.cell 2).trans rfl;have glt:=S0.o.blk_.lt;have gn:¬G=wr.heap.size:=by omega
    go_wp2_with (first|(at_builtin;(refine aI (v:= .slice A1 j c1) (n:=j) (m:=1) (xs:=ints (List.replicate j 0)) (news:=[.int .i64 0]) rfl _ _ rfl fJ rfl rfl (S0.o.types.alloc _) (Rd.eD (n:=1) (cs:=[.int .i64 0]) (Blk.new _ _ _) rfl (by decide)) (by simp[Value.oneCell']) (by omega) (by unfold maxLen;omega) ?_);go_loud (intro A6 d6 w6 ho6 hf6 hv6);go_loud (have S1:=hD (S0.o.aQu ho6 hf6 hv6));go_loud (have b6:=iH S0.o.blk_ S0.o.types (by decide) hf6);go_loud (have f6:=b6.frozen 2);go_loud (have e6:w6.cell? ⟨G,2,none⟩=some (.slice A1 j c1):=(b6.cell 2).trans rfl);go_loud (have k6:w6.cell? ⟨G,3,none⟩=some (.slice A2 j c2):=(b6.cell 3).trans rfl);go_loud (have gl6:=b6.lt);go_loud (have gn6:¬G=w6.heap.size:=by omega);go_loud (have F6:=hD (aHf HB.o.1 FR S0.o.ht hf6 S0.o.hg 2 (v:= .slice A6 (j+1) d6)));go_loud (clear ho6 hf6 hv6 b6))|(at_builtin;(refine aI (v:= .slice A2 j c2) (n:=j) (m:=1) (xs:=dK (List.replicate j (-1))) (news:=[.int .i64 (-1)]) rfl _ _ rfl fJ rfl rfl (S1.o.slots.alloc _) (Rd.eD (n:=1) (cs:=[.int .i64 (-1)]) (Blk.aMa _ _ _ _ _) rfl (by decide)) (by simp[Value.oneCell']) (by omega) (by unfold maxLen;omega) ?_);go_loud (intro A7 d7 w7 ho7 hf7 hv7);go_loud (have S2:=hD (S1.o.aQv ho7 hf7 hv7));go_loud (have b7:=iH S1.o.blk_ S1.o.slots (by decide) hf7);go_loud (have f7:=b7.frozen 3);go_loud (have e7:w7.cell? ⟨G,3,none⟩=some (.slice A2 j c2):=(b7.cell 3).trans rfl);go_loud (have k7:w7.cell? ⟨G,4,none⟩=some (.slice A3 j c3):=(b7.cell 4).trans rfl);go_loud (have gl7:=b7.lt);go_loud (have gn7:¬G=w7.heap.size:=by omega);go_loud (have F7:=hD (aHf HB.o.1 F6 S1.o.hs hf7 S1.o.hg 3 (v:= .slice A7 (j+1) d7)));go_loud (clear ho7 hf7 hv7 b7))|(at_builtin;(refine aI (v:= .slice A3 j c3) (n:=j) (m:=1) (xs:=ints (List.replicate j 0)) (news:=[.int .i64 0]) rfl _ _ rfl fJ rfl rfl (S2.o.fn.alloc _) (Rd.eD (n:=1) (cs:=[.int .i64 0]) (Blk.aMa _ _ _ _ _) rfl (by decide)) (by simp[Value.oneCell']) (by omega) (by unfold maxLen;omega) ?_);go_loud (intro A8 d8 w8 ho8 hf8 hv8);go_loud (have S3:=hD (S2.o.aQw ho8 hf8 hv8));go_loud (have b8:=iH S2.o.blk_ S2.o.fn (by decide) hf8);go_loud (have f8:=b8.frozen 4);go_loud (have e8:w8.cell? ⟨G,4,none⟩=some (.slice A3 j c3):=(b8.cell 4).trans rfl);go_loud (have gl8:=b8.lt);go_loud (have gn8:¬G=w8.heap.size:=by omega);go_loud (have F8:=hD (aHf HB.o.1 F7 S2.o.hf hf8 S2.o.hg 4 (v:= .slice A8 (j+1) d8)));go_loud (clear ho8 hf8 hv8 b8)))
    go_roundw
    case rel=>exact⟨j+1,_,_,_,_,_,_,by omega,by go_num,S3,F8⟩
    case measure=>simp[intOf];omega
  . have hle:(ns.length:Int)≤(j:Int):=by omega
    have hje:j=ns.length:=by omega
    subst hje;clear hlt;go_wp2_with fail
    refine (aDp S0.o.blk_ S0.o.tree.tree hfs HO.o.pars).mono ?_;rintro en w2 ⟨rfl,f2,e,p,hb2,hm⟩;have FRH:=hD (show Fr (λb=>TB≤b) w w2 from FR.o.trans f2 (λ_ _ x=>x) (λb _ hb=>by rw[show b=G from hb];exact HB.o.1));have T2:Hd (Blk w2 TB 26 #[.slice NA ns.length NC,.slice FA fs.length FC]):=S0.o.tb.fr f2 (λhb=>by have h1:TB=G:=hb;have:=HB.o.2.1;omega);have R2:=hD (show ∃cs,Blk w2 RB 29 cs∧cs.size=6 from by
     obtain⟨cs,h1,h2⟩:=S0.o.rb;exact⟨cs,h1.fr f2 (λhb=>by have h1:RB=G:=hb;have:=HB.o.2.2.1;omega),h2⟩)
    have LL:=hD (show L2 G (.slice NA ns.length NC) (.slice FA fs.length FC) lvs pvs ns fs 0 w2 e p from by
     refine⟨(hb2.cell 9).trans rfl,(hb2.cell 10).trans rfl,hb2.lt,?_⟩;rcases hm with ⟨rfl,rfl,h3⟩|⟨h1,h2,h3⟩
     . have hne:0<fs.length:=by
         cases hfs':fs with
         | nil=>rw[hfs'] at h3;cases h3
         | cons a l=>simp
       have hnn:0<ns.length:=by
         obtain⟨c,hc,_⟩:=HO.o.bodies _ (List.getElem_mem hne);have:=(gK hc);omega
       obtain⟨bt,bs,bf,hck⟩:=S0.o.aQr HO HKD hnn hne;refine .inl ⟨rfl,rfl,h3,hne,aKt G wr.heap.size G bt bs bf c1 c2 c3 (.slice NA ns.length NC) (.slice FA fs.length FC) lvs pvs ns fs,[],jZ ns,0,?_,rfl,rfl,rfl,rfl,rfl,rfl,rfl,rfl,rfl,rfl,by rw[List.take_zero];rfl⟩;have hneg:=hck.gne;refine hck.keep f2.size λb hbl hbb=>?_
       by_cases hbg:b=G
       . subst hbg
         have e1:w2.heap[b]?=some (.cells (hcells (.slice NA ns.length NC) (.slice FA fs.length FC) (.slice A1 ns.length c1) (.slice A2 ns.length c2) (.slice A3 ns.length c3) (.slice none 0 0) (.slice none 0 0) 0 0 0 0) 99 (0,0)):=hb2;have e3:wr.heap[b]?=some (.cells (hcells (.slice NA ns.length NC) (.slice FA fs.length FC) (.slice A1 ns.length c1) (.slice A2 ns.length c2) (.slice A3 ns.length c3) (.slice none 0 0) (.slice none 0 0) 0 0 0 0) 99 (0,0)):=S0.o.blk_;rw[e1,e3]
       . exact f2.block b hbl hbg
     . refine .inr ⟨h1,h2,?_⟩
       unfold dQ;rw[h3];rfl)
    clear S0 FR f2 hb2 hm t0 t1 hle hj;go_wp2
    go_loopw [7] (λi wq=>∃(j e p:Nat),j≤fs.length∧i = .int .i64 j∧Hd (L2 G (.slice NA ns.length NC) (.slice FA fs.length FC) lvs pvs ns fs j wq e p)∧Hd (Blk wq TB 26 #[.slice NA ns.length NC,.slice FA fs.length FC])∧Hd (∃cs,Blk wq RB 29 cs∧cs.size=6)∧Hd (Fr (λb=>TB≤b) w wq)) (λi _=>fs.length - (intOf i).toNat)
    case atStart=>exact⟨0,e,p,Nat.zero_le _,rfl,LL,T2,R2,FRH⟩
    case round=>
     clear LL T2 R2 FRH;obtain⟨j,e,p,hj,rfl,LL,T2,R2,FR⟩:=hrel;have t0:wr.cell? ⟨TB,0,none⟩=some (.slice NA ns.length NC):=(T2.o.cell 0).trans rfl;have t1:wr.cell? ⟨TB,1,none⟩=some (.slice FA fs.length FC):=(T2.o.cell 1).trans rfl;have c9:=LL.o.1;have glt:=LL.o.2.2.1;by_cases hgo:j<fs.length∧e=0
     . obtain⟨hlt,rfl⟩:=hgo
       have hlt2:(j:Int)<(fs.length:Int):=by omega
       rcases LL.o.2.2.2 with ⟨_,rfl,hh,hf0,GG,zs,s,k,hck,g1,g2,g3,g4,g5,g6,g7,g8,g9,hzl,hfu⟩|⟨h0,_⟩
       case inr=>exact absurd rfl h0
       obtain⟨f,hf⟩:∃f,fs[j]?=some f:=⟨_,gE hlt⟩;have hbd:=HO.o.bodies f (List.mem_of_getElem? hf);have HC:=hD (uU (k:=j) g3 (by rw[g9];exact aCt hh) hck (by rw[g9];exact hf) (by omega) (by obtain⟨c,hc,_⟩:=hbd;rw[g8];exact (gK hc)) (λnd hnd=>by
         obtain⟨c,hc,hcb⟩:=hbd;rw[g8,hc] at hnd;injection hnd with hnd;subst hnd;simpa[xA] using hcb))
       have HJ:=hD hlt;have HX:=hD (And.intro hh (And.intro hf0 (And.intro hf (And.intro hzl hfu))));have HG:=hD (And.intro g1 (And.intro g2 (And.intro g3 (And.intro g4 (And.intro g5 (And.intro g6 (And.intro g7 (And.intro g8 g9))))))));rw[g2] at HC;clear hck g1 g2 g3 g4 g5 g6 g7 g8 g9 hh hf0 hzl hfu hf hbd hlt;go_wp2_with fail
       refine HC.o.mono ?_;rintro en w5 ⟨rfl,hk5,f5⟩;obtain⟨g1,g2,g3,g4,g5,g6,g7,g8,g9⟩:=HG.o;rw[g1] at f5;rw[g8,g9] at hk5;have F5:Hd (Fr (λb=>TB≤b) w w5):=FR.o.trans f5 (λ_ _ x=>x) (λb _ hb=>Nat.le_trans HB.o.1 hb);have T5:Hd (Blk w5 TB 26 #[.slice NA ns.length NC,.slice FA fs.length FC]):=T2.o.fr f5 (λhb=>by have h1:G≤TB:=hb;have:=HB.o.2.1;omega);have R5:=hD (show ∃cs,Blk w5 RB 29 cs∧cs.size=6 from by
         obtain⟨cs,h1,h2⟩:=R2.o;exact⟨cs,h1.fr f5 (λhb=>by have h1:G≤RB:=hb;have:=HB.o.2.2.1;omega),h2⟩)
       have L5:=hD (show ∃e p,L2 G (.slice NA ns.length NC) (.slice FA fs.length FC) lvs pvs ns fs (j+1) w5 e p from by
         obtain⟨hh,hf0,hf,hzl,hfu⟩:=HX.o;have hT:fs.take (j+1)=fs.take j++[f]:=by rw[List.take_add_one,hf];rfl
         have hlj:(fs.take j).length=j:=by rw[List.length_take];omega
         cases hfn:iG ns fs j f s with
         | good s'=>
           rw[hfn] at hk5;obtain⟨Z,hc5⟩:=hk5;obtain⟨_,_,-,-,-,-,-,-,-,-,-,c9,c10,-⟩:=hc5.cells;have hgl:=hc5.jB;have g2':(GG.atZ Z).g=G:=g2;rw[g2'] at c9 c10 hgl;refine⟨0,0,c9,c10,hgl,.inl ⟨rfl,rfl,hh,hf0,GG.atZ Z,zs++[s'.size],s',j,hc5,g1,g2,g3,g4,g5,g6,g7,g8,g9,by rw[List.length_append,hzl];rfl,?_⟩⟩;rw[hT,gT,hfu,CkR.aC,hlj,Nat.zero_add,hfn];rfl
         | bad e' p'=>
           rw[hfn] at hk5;obtain⟨h1,h2,Z,s',zs',hc5⟩:=hk5;obtain⟨_,_,-,-,-,-,-,-,-,-,-,c9,c10,-⟩:=hc5.cells;have hgl:=hc5.jB;have g2':(GG.atZ Z).more.g=G:=g2;rw[g2'] at c9 c10 hgl;refine⟨e',p',c9,c10,hgl,.inr ⟨h1,h2,?_⟩⟩;unfold dQ;rw[hh,CkR.aC];have hb:kE ns fs 0 (fs.take (j+1)) [] (jZ ns) = .bad e' p':=by
            rw[hT,gT,hfu,CkR.aC,hlj,Nat.zero_add,hfn];rfl
           have:=sU ns fs (fs.take (j+1)) (fs.drop (j+1)) 0 [] (jZ ns) hb;rw[List.take_append_drop] at this;rw[this];rfl)
       clear hk5 f5 g1 g2 g3 g4 g5 g6 g7 g8 g9 HC HX HG LL T2 R2 FR t0 t1 c9 glt;obtain⟨e',p',L6⟩:=L5.o;have L7:=hD L6;clear L6 L5;go_wp2
       go_roundw
       case rel=>exact⟨j+1,e',p',by have:=HJ.o;omega,by go_num,L7,T5,R5,F5⟩
       case measure=>simp[intOf];have:=HJ.o;omega
     . have c10:=LL.o.2.1
       obtain⟨cs,hrb,hsz⟩:=R2.o;obtain⟨a0,a1,a2,a3,a4,a5,rfl⟩:=aEp hsz;have HRB:=hD HB.o.2.2.2.1;have r0:wr.cell? ⟨RB,0,none⟩=some a0:=(hrb.cell 0).trans rfl;have r1:wr.cell? ⟨RB,1,none⟩=some a1:=(hrb.cell 1).trans rfl;have r2:wr.cell? ⟨RB,2,none⟩=some a2:=(hrb.cell 2).trans rfl;have r3:wr.cell? ⟨RB,3,none⟩=some a3:=(hrb.cell 3).trans rfl;have r4:wr.cell? ⟨RB,4,none⟩=some a4:=(hrb.cell 4).trans rfl;have r5:wr.cell? ⟨RB,5,none⟩=some a5:=(hrb.cell 5).trans rfl;have z0:=hrb.frozen 0;have z1:=hrb.frozen 1;have z2:=hrb.frozen 2;have z3:=hrb.frozen 3;have z4:=hrb.frozen 4;have z5:=hrb.frozen 5;have rlt:=hrb.lt;have gnr:¬G=RB:=by have:=HB.o.2.2.1;omega
       have HRBL:=hD hrb;clear hsz hrb;by_cases he:e=0
       . have hje:¬j<fs.length:=λh=>hgo ⟨h,he⟩
         have hje2:j=fs.length:=by omega
         subst hje2;rcases LL.o.2.2.2 with ⟨-,hp0,hh,hf0,GG,zs,s,k,hck,g1,g2,g3,g4,g5,g6,g7,g8,g9,hzl,hfu⟩|⟨h0,_⟩
         case inr=>exact absurd he h0
         rw[List.take_of_length_le (by omega)] at hfu;have CA:=hD (show dQ ns fs = .good (⟨ns,fs,s.types,s.slots,s.fn,zs⟩:fF) from by unfold dQ;rw[hh,CkR.aC,hfu];rfl);obtain⟨M,B,Z,gg,bt,bq,bf,ct,cq,cf,nv,fv,lv,pv,nn,ff⟩:=GG;dsimp only at g1 g2 g3 g4 g5 g6 g7 g8 g9;have g1':=g1.symm;subst g1';have g2':=g2.symm;subst g2';have g4':=g4.symm;subst g4';have g5':=g5.symm;subst g5';have g6':=g6.symm;subst g6';have g7':=g7.symm;subst g7';have g8':=g8.symm;subst g8';have g9':=g9.symm;subst g9';obtain⟨zv,vv,hb,hz,-⟩:=hck.ex;obtain⟨ZA,ZC,rfl,-,-⟩:=hz.cap;have c0:wr.cell? ⟨G,0,none⟩=some (.slice NA ns.length NC):=(hb.cell 0).trans rfl;have c1:wr.cell? ⟨G,1,none⟩=some (.slice FA fs.length FC):=(hb.cell 1).trans rfl;have c2:wr.cell? ⟨G,2,none⟩=some (.slice (some ⟨bt,0,none⟩) ns.length ct):=(hb.cell 2).trans rfl;have c3:wr.cell? ⟨G,3,none⟩=some (.slice (some ⟨bq,0,none⟩) ns.length cq):=(hb.cell 3).trans rfl;have c4:wr.cell? ⟨G,4,none⟩=some (.slice (some ⟨bf,0,none⟩) ns.length cf):=(hb.cell 4).trans rfl;have c5:wr.cell? ⟨G,5,none⟩=some (.slice ZA zs.length ZC):=(hb.cell 5).trans rfl;have HPR:=hD (show gJ wr (.slice NA ns.length NC) (.slice FA fs.length FC) (.slice (some ⟨bt,0,none⟩) ns.length ct) (.slice (some ⟨bq,0,none⟩) ns.length cq) (.slice (some ⟨bf,0,none⟩) ns.length cf) (.slice ZA zs.length ZC) lvs pvs (⟨ns,fs,s.types,s.slots,s.fn,zs⟩:fF) from
           ⟨hck.tree.tree,by have h9:=hck.types;have h8:=h9.len;simp[ints] at h8;rw[show s.types.length=ns.length from h8];exact h9,by have h9:=hck.slots;have h8:=h9.len;simp[dK] at h8;rw[show s.slots.length=ns.length from h8];exact h9,by have h9:=hck.fn;have h8:=h9.len;simp[ints] at h8;rw[show s.fn.length=ns.length from h8];exact h9,hz⟩)
         have hne:((e:Int) != 0)=false:=by rw[he];rfl
         have heb:((e:Int)==0)=true:=by rw[he];rfl
         clear hck hb hz hh hf0 hzl hfu hp0 g1 g2 g3 g4 g5 g6 g7 g8 g9;have BE:Hd (Blk ((((((wr.setCell ⟨RB,0,none⟩ (.slice NA ns.length NC)).setCell ⟨RB,1,none⟩ (.slice FA fs.length FC)).setCell ⟨RB,2,none⟩ (.slice (some ⟨bt,0,none⟩) ns.length ct)).setCell ⟨RB,3,none⟩ (.slice (some ⟨bq,0,none⟩) ns.length cq)).setCell ⟨RB,4,none⟩ (.slice (some ⟨bf,0,none⟩) ns.length cf)).setCell ⟨RB,5,none⟩ (.slice ZA zs.length ZC)) RB 29 #[.slice NA ns.length NC,.slice FA fs.length FC,.slice (some ⟨bt,0,none⟩) ns.length ct,.slice (some ⟨bq,0,none⟩) ns.length cq,.slice (some ⟨bf,0,none⟩) ns.length cf,.slice ZA zs.length ZC]):=(((((HRBL.o.setCell 0 (.slice NA ns.length NC)).setCell 1 (.slice FA fs.length FC)).setCell 2 (.slice (some ⟨bt,0,none⟩) ns.length ct)).setCell 3 (.slice (some ⟨bq,0,none⟩) ns.length cq)).setCell 4 (.slice (some ⟨bf,0,none⟩) ns.length cf)).setCell 5 (.slice ZA zs.length ZC);have FE:=hD (show Fr nob w ((((((wr.setCell ⟨RB,0,none⟩ (.slice NA ns.length NC)).setCell ⟨RB,1,none⟩ (.slice FA fs.length FC)).setCell ⟨RB,2,none⟩ (.slice (some ⟨bt,0,none⟩) ns.length ct)).setCell ⟨RB,3,none⟩ (.slice (some ⟨bq,0,none⟩) ns.length cq)).setCell ⟨RB,4,none⟩ (.slice (some ⟨bf,0,none⟩) ns.length cf)).setCell ⟨RB,5,none⟩ (.slice ZA zs.length ZC)) from (FR.o.trans (M:=λb=>TB≤b) (Fr.six wr RB (.slice NA ns.length NC) (.slice FA fs.length FC) (.slice (some ⟨bt,0,none⟩) ns.length ct) (.slice (some ⟨bq,0,none⟩) ns.length cq) (.slice (some ⟨bf,0,none⟩) ns.length cf) (.slice ZA zs.length ZC)) (λ_ _ x=>x) (λb _ hb=>by rw[show b=RB from hb];exact HRB)).mono (λb hb hm=>by have h9:=HB.o.2.2.2.2;have hm:TB≤b:=hm;omega))
         have PE:=hD (HPR.o.aPn HRBL (show Fr (bQ RB) wr ((((((wr.setCell ⟨RB,0,none⟩ (.slice NA ns.length NC)).setCell ⟨RB,1,none⟩ (.slice FA fs.length FC)).setCell ⟨RB,2,none⟩ (.slice (some ⟨bt,0,none⟩) ns.length ct)).setCell ⟨RB,3,none⟩ (.slice (some ⟨bq,0,none⟩) ns.length cq)).setCell ⟨RB,4,none⟩ (.slice (some ⟨bf,0,none⟩) ns.length cf)).setCell ⟨RB,5,none⟩ (.slice ZA zs.length ZC)) from Fr.six wr RB (.slice NA ns.length NC) (.slice FA fs.length FC) (.slice (some ⟨bt,0,none⟩) ns.length ct) (.slice (some ⟨bq,0,none⟩) ns.length cq) (.slice (some ⟨bf,0,none⟩) ns.length cf) (.slice ZA zs.length ZC)));clear he hgo hje;go_wp2_with fail
         all_goals
           clear r0 r1 r2 r3 r4 r5 z0 z1 z2 z3 z4 z5;generalize (((((wr.setCell ⟨RB,0,none⟩ (.slice NA ns.length NC)).setCell ⟨RB,1,none⟩ (.slice FA fs.length FC)).setCell ⟨RB,2,none⟩ (.slice (some ⟨bt,0,none⟩) ns.length ct)).setCell ⟨RB,3,none⟩ (.slice (some ⟨bq,0,none⟩) ns.length cq)).setCell ⟨RB,4,none⟩ (.slice (some ⟨bf,0,none⟩) ns.length cf)).setCell ⟨RB,5,none⟩ (.slice ZA zs.length ZC)=wz at *;have z0:wz.cell? ⟨RB,0,none⟩=some (.slice NA ns.length NC):=(BE.o.cell 0).trans rfl;have z1:wz.cell? ⟨RB,1,none⟩=some (.slice FA fs.length FC):=(BE.o.cell 1).trans rfl;have z2:wz.cell? ⟨RB,2,none⟩=some (.slice (some ⟨bt,0,none⟩) ns.length ct):=(BE.o.cell 2).trans rfl;have z3:wz.cell? ⟨RB,3,none⟩=some (.slice (some ⟨bq,0,none⟩) ns.length cq):=(BE.o.cell 3).trans rfl;have z4:wz.cell? ⟨RB,4,none⟩=some (.slice (some ⟨bf,0,none⟩) ns.length cf):=(BE.o.cell 4).trans rfl;have z5:wz.cell? ⟨RB,5,none⟩=some (.slice ZA zs.length ZC):=(BE.o.cell 5).trans rfl;go_wp2
           refine bodyPost_ret (v:= .tuple #[.agg #[.slice NA ns.length NC,.slice FA fs.length FC,.slice (some ⟨bt,0,none⟩) ns.length ct,.slice (some ⟨bq,0,none⟩) ns.length cq,.slice (some ⟨bf,0,none⟩) ns.length cf,.slice ZA zs.length ZC],.int .i64 0,.int .i64 0]) (by simp[results,results32,go_sem,z0,z1,z2,z3,z4,z5]) rfl ⟨by rw[CA.o];exact⟨_,_,_,_,rfl,by first|exact PE.o|exact PE.o.no ((fR _).drew)⟩,by first|exact FE.o|exact FE.o.drew⟩
       . by_cases hlt:j<fs.length
         case' pos=>
          have hlt2:(j:Int)<(fs.length:Int):=by omega
          have heb:((e:Int)==0)=false:=bN.2 (by omega);have hne:((e:Int) != 0)=true:=by rw[bne,bN.2 (by omega)];rfl
          have CA:=hD (show dQ ns fs = .bad e p∧e≠0∧e≤99 from by
           rcases LL.o.2.2.2 with ⟨h1,_⟩|⟨h1,h2,h3⟩
           . exact absurd h1 he
           . exact⟨h3,h1,h2⟩)
          have BE:Hd (Blk ((((((wr.setCell ⟨RB,0,none⟩ (.slice none 0 0)).setCell ⟨RB,1,none⟩ (.slice none 0 0)).setCell ⟨RB,2,none⟩ (.slice none 0 0)).setCell ⟨RB,3,none⟩ (.slice none 0 0)).setCell ⟨RB,4,none⟩ (.slice none 0 0)).setCell ⟨RB,5,none⟩ (.slice none 0 0)) RB 29 #[.slice none 0 0,.slice none 0 0,.slice none 0 0,.slice none 0 0,.slice none 0 0,.slice none 0 0]):=(((((HRBL.o.setCell 0 (.slice none 0 0)).setCell 1 (.slice none 0 0)).setCell 2 (.slice none 0 0)).setCell 3 (.slice none 0 0)).setCell 4 (.slice none 0 0)).setCell 5 (.slice none 0 0);have FE:=hD (show Fr nob w ((((((wr.setCell ⟨RB,0,none⟩ (.slice none 0 0)).setCell ⟨RB,1,none⟩ (.slice none 0 0)).setCell ⟨RB,2,none⟩ (.slice none 0 0)).setCell ⟨RB,3,none⟩ (.slice none 0 0)).setCell ⟨RB,4,none⟩ (.slice none 0 0)).setCell ⟨RB,5,none⟩ (.slice none 0 0)) from (FR.o.trans (M:=λb=>TB≤b) (Fr.six wr RB (.slice none 0 0) (.slice none 0 0) (.slice none 0 0) (.slice none 0 0) (.slice none 0 0) (.slice none 0 0)) (λ_ _ x=>x) (λb _ hb=>by rw[show b=RB from hb];exact HRB)).mono (λb hb hm=>by have h9:=HB.o.2.2.2.2;have hm:TB≤b:=hm;omega));clear he hlt hgo;go_wp2_with fail
          go_region_law (fail)
         case' neg=>
          have hje2:j=fs.length:=by omega
          subst hje2;have heb:((e:Int)==0)=false:=bN.2 (by omega);have hne:((e:Int) != 0)=true:=by rw[bne,bN.2 (by omega)];rfl
          have CA:=hD (show dQ ns fs = .bad e p∧e≠0∧e≤99 from by
           rcases LL.o.2.2.2 with ⟨h1,_⟩|⟨h1,h2,h3⟩
           . exact absurd h1 he
           . exact⟨h3,h1,h2⟩)
          have BE:Hd (Blk ((((((wr.setCell ⟨RB,0,none⟩ (.slice none 0 0)).setCell ⟨RB,1,none⟩ (.slice none 0 0)).setCell ⟨RB,2,none⟩ (.slice none 0 0)).setCell ⟨RB,3,none⟩ (.slice none 0 0)).setCell ⟨RB,4,none⟩ (.slice none 0 0)).setCell ⟨RB,5,none⟩ (.slice none 0 0)) RB 29 #[.slice none 0 0,.slice none 0 0,.slice none 0 0,.slice none 0 0,.slice none 0 0,.slice none 0 0]):=(((((HRBL.o.setCell 0 (.slice none 0 0)).setCell 1 (.slice none 0 0)).setCell 2 (.slice none 0 0)).setCell 3 (.slice none 0 0)).setCell 4 (.slice none 0 0)).setCell 5 (.slice none 0 0);have FE:=hD (show Fr nob w ((((((wr.setCell ⟨RB,0,none⟩ (.slice none 0 0)).setCell ⟨RB,1,none⟩ (.slice none 0 0)).setCell ⟨RB,2,none⟩ (.slice none 0 0)).setCell ⟨RB,3,none⟩ (.slice none 0 0)).setCell ⟨RB,4,none⟩ (.slice none 0 0)).setCell ⟨RB,5,none⟩ (.slice none 0 0)) from (FR.o.trans (M:=λb=>TB≤b) (Fr.six wr RB (.slice none 0 0) (.slice none 0 0) (.slice none 0 0) (.slice none 0 0) (.slice none 0 0) (.slice none 0 0)) (λ_ _ x=>x) (λb _ hb=>by rw[show b=RB from hb];exact HRB)).mono (λb hb hm=>by have h9:=HB.o.2.2.2.2;have hm:TB≤b:=hm;omega));clear he hlt hgo;go_wp2_with fail
          go_region_law (fail)
         all_goals
          clear r0 r1 r2 r3 r4 r5 z0 z1 z2 z3 z4 z5;generalize (((((wr.setCell ⟨RB,0,none⟩ (.slice none 0 0)).setCell ⟨RB,1,none⟩ (.slice none 0 0)).setCell ⟨RB,2,none⟩ (.slice none 0 0)).setCell ⟨RB,3,none⟩ (.slice none 0 0)).setCell ⟨RB,4,none⟩ (.slice none 0 0)).setCell ⟨RB,5,none⟩ (.slice none 0 0)=wz at *;have z0:wz.cell? ⟨RB,0,none⟩=some (.slice none 0 0):=(BE.o.cell 0).trans rfl;have z1:wz.cell? ⟨RB,1,none⟩=some (.slice none 0 0):=(BE.o.cell 1).trans rfl;have z2:wz.cell? ⟨RB,2,none⟩=some (.slice none 0 0):=(BE.o.cell 2).trans rfl;have z3:wz.cell? ⟨RB,3,none⟩=some (.slice none 0 0):=(BE.o.cell 3).trans rfl;have z4:wz.cell? ⟨RB,4,none⟩=some (.slice none 0 0):=(BE.o.cell 4).trans rfl;have z5:wz.cell? ⟨RB,5,none⟩=some (.slice none 0 0):=(BE.o.cell 5).trans rfl;go_wp2
          refine bodyPost_ret (v:= .tuple #[.agg #[.slice none 0 0,.slice none 0 0,.slice none 0 0,.slice none 0 0,.slice none 0 0,.slice none 0 0],.int .i64 p,.int .i64 e]) (by simp[results,results32,go_sem,z0,z1,z2,z3,z4,z5]) rfl ⟨by rw[CA.o.1];exact⟨rfl,CA.o.2⟩,by first|exact FE.o|exact FE.o.drew⟩
end
theorem aBf (src:ByteArray) (w:World) (hs:src.size≤281474976710656){r:eU} (hr:iF src.data.toList=some r):
  Calls prog 14 #[.string src] w λen w'=>gZ w' en r∧Fr nob w w':=by
 unfold iF at hr;rw[mS] at hr;obtain⟨r0,hr0,hr⟩:=hr;have HP:=hD (λw'=>zX src w' hs hr0);have B0:=hD (Blk.new w 29 #[.slice none 0 0,.slice none 0 0,.slice none 0 0,.slice none 0 0,.slice none 0 0,.slice none 0 0]);have F0:Hd (Fr nob w (w.alloc (.cells #[.slice none 0 0,.slice none 0 0,.slice none 0 0,.slice none 0 0,.slice none 0 0,.slice none 0 0] 29))):=(Fr.refl _ w).alloc _;clear hs;cases r0 with
 | bad p er=>
  have he:er≠0:=by have:=nJ hr0;omega
  have hr:eU.bad p er=r:=hr;subst hr;have heb:((er:Int)==0)=false:=bN.2 (by omega);have hne:((er:Int) != 0)=true:=by rw[bne,heb];rfl
  have HE:=hD he;clear hr0 he;go_enter func14,ntmps14;go_wp2_with fail
  generalize w.alloc (.cells #[.slice none 0 0,.slice none 0 0,.slice none 0 0,.slice none 0 0,.slice none 0 0,.slice none 0 0] 29)=w1 at *;generalize hT:w.heap.size=T at *;have HT:=hD hT;clear hT;refine (HP w1).mono ?_;rintro en w2 ⟨hpa,hf⟩;have hpa:en = .returned (.tuple #[.agg #[.slice none 0 0,.slice none 0 0],.int .i64 p,.int .i64 er]):=hpa;subst hpa;have B2:=hD (B0.o.fr hf (λx=>x));have F2:=hD (F0.o.tr hf);clear hf;have B3:=hD ((B2.o.alloc (.cells #[.slice none 0 0,.slice none 0 0] 26)));have F3:=hD (F2.o.alloc (.cells #[.slice none 0 0,.slice none 0 0] 26));obtain⟨r0,r1,r2,r3,r4,r5,f0,f1,f2,f3,f4,f5⟩:=B3.o.sixth;have tn:¬T=w2.heap.size:=by have:=B2.o.lt;omega
  have B4:=hD (B3.o.rW (a':= .slice none 0 0) (b':= .slice none 0 0) (c':= .slice none 0 0) (d':= .slice none 0 0) (e':= .slice none 0 0) (f':= .slice none 0 0));have F4:=hD (rV (Nat.le_of_eq HT) F3 (.slice none 0 0) (.slice none 0 0) (.slice none 0 0) (.slice none 0 0) (.slice none 0 0) (.slice none 0 0));go_wp2_with fail
  all_goals
   clear r0 r1 r2 r3 r4 r5 f0 f1 f2 f3 f4 f5;generalize ((((((w2.alloc (.cells #[.slice none 0 0,.slice none 0 0] 26)).setCell ⟨T,0,none⟩ (.slice none 0 0)).setCell ⟨T,1,none⟩ (.slice none 0 0)).setCell ⟨T,2,none⟩ (.slice none 0 0)).setCell ⟨T,3,none⟩ (.slice none 0 0)).setCell ⟨T,4,none⟩ (.slice none 0 0)).setCell ⟨T,5,none⟩ (.slice none 0 0)=wz at *
  obtain⟨z0,z1,z2,z3,z4,z5,_⟩:=B4.o.sixth;go_wp2
  refine bodyPost_ret (v:= .tuple #[.agg #[.slice none 0 0,.slice none 0 0,.slice none 0 0,.slice none 0 0,.slice none 0 0,.slice none 0 0],.int .i64 p,.int .i64 er]) (by simp[results,results14,go_sem,z0,z1,z2,z3,z4,z5]) rfl ⟨⟨rfl,HE⟩,by first|exact F4.o|exact F4.o.drew⟩
 | good ns fs=>
  have TI:=oP hr0;have HR:=hD hr;have HC:=hD (λ(w':World) (NA FA:Option Addr) (NC FC:Nat) (lvs pvs:List Value) (ht:bW 0 w' (.slice NA ns.length NC) (.slice FA fs.length FC) lvs pvs ns fs)=>oF ht TI.ok TI.rows);have HLT:=hD (λe p (h:dQ ns fs = .bad e p)=>aAj TI.ok h);have hn3:(ns.length:Int)≤300:=by have:=TI.ok.few;omega
  clear hr0 hr TI;go_enter func14,ntmps14;go_wp2_with fail
  generalize w.alloc (.cells #[.slice none 0 0,.slice none 0 0,.slice none 0 0,.slice none 0 0,.slice none 0 0,.slice none 0 0] 29)=w1 at *;generalize hT:w.heap.size=T at *;have HT:=hD hT;clear hT;refine (HP w1).mono ?_;rintro en w2 ⟨⟨nv,fv,lvs,pvs,rfl,ht⟩,hf⟩;obtain⟨NA,NC,rfl,-,-⟩:=ht.nodes.cap;obtain⟨FA,FC,rfl,-,-⟩:=ht.fns.cap;have TT:=hD (ht.zero.no ((fR w2).alloc (.cells #[.slice NA ns.length NC,.slice FA fs.length FC] 26)));have B2:=hD ((B0.o.fr hf (λx=>x)).alloc (.cells #[.slice NA ns.length NC,.slice FA fs.length FC] 26));have F2:=hD ((F0.o.tr hf).alloc (.cells #[.slice NA ns.length NC,.slice FA fs.length FC] 26));have X2:=hD (Blk.new w2 26 #[.slice NA ns.length NC,.slice FA fs.length FC]);have tn:Hd (T<w2.heap.size):=(B0.o.fr hf (λx=>x)).lt;clear hf ht;go_wp2_with fail
  generalize w2.alloc (.cells #[.slice NA ns.length NC,.slice FA fs.length FC] 26)=w3 at *;generalize w2.heap.size=X at *;refine (HC w3 NA FA NC FC lvs pvs TT).mono ?_;rintro en w4 ⟨hck,hf⟩;have B4:=hD (B2.o.fr hf (λx=>x));have X4:=hD (X2.o.fr hf (λx=>x));have F4:=hD (F2.o.tr hf);have T4:=hD (TT.o.no hf);clear hf B2 X2 F2 TT;cases hc:dQ ns fs with
  | bad e x=>
   rw[hc] at hck;obtain⟨he,he0,he9⟩:=hck;have he:en = .returned (.tuple #[.agg #[.slice none 0 0,.slice none 0 0,.slice none 0 0,.slice none 0 0,.slice none 0 0,.slice none 0 0],.int .i64 (x:Nat),.int .i64 (e:Nat)]):=he;subst he;have B5:=hD (B4.o.alloc (.cells #[.slice none 0 0,.slice none 0 0,.slice none 0 0,.slice none 0 0,.slice none 0 0,.slice none 0 0] 29));have X5:=hD (X4.o.alloc (.cells #[.slice none 0 0,.slice none 0 0,.slice none 0 0,.slice none 0 0,.slice none 0 0,.slice none 0 0] 29));have F5:=hD (F4.o.alloc (.cells #[.slice none 0 0,.slice none 0 0,.slice none 0 0,.slice none 0 0,.slice none 0 0,.slice none 0 0] 29));have T5:=hD (T4.o.no ((fR w4).alloc (.cells #[.slice none 0 0,.slice none 0 0,.slice none 0 0,.slice none 0 0,.slice none 0 0,.slice none 0 0] 29)));have heb:((e:Int)==0)=false:=bN.2 (by omega);have hne:((e:Int) != 0)=true:=by rw[bne,heb];rfl
   have n1:¬T=w4.heap.size:=by have:=B4.o.lt;omega
   have n2:¬X=w4.heap.size:=by have:=X4.o.lt;omega
   have n3:¬T=X:=by have:=tn.o;omega
   have HE:=hD he0;obtain⟨r0,r1,r2,r3,r4,r5,f0,f1,f2,f3,f4,f5⟩:=B5.o.sixth;have B6:=hD (B5.o.rW (a':= .slice none 0 0) (b':= .slice none 0 0) (c':= .slice none 0 0) (d':= .slice none 0 0) (e':= .slice none 0 0) (f':= .slice none 0 0));have F6:=hD (rV (Nat.le_of_eq HT) F5 (.slice none 0 0) (.slice none 0 0) (.slice none 0 0) (.slice none 0 0) (.slice none 0 0) (.slice none 0 0));by_cases h44:e=44
   . subst h44
     have HS:=hD (show eU.bad 0 44=r from by have:=HR.o;simp only[hc] at this;exact this);clear hc he0 he9 heb hne;go_wp2_with fail
     all_goals
      clear r0 r1 r2 r3 r4 r5 f0 f1 f2 f3 f4 f5;generalize ((((((w4.alloc (.cells #[.slice none 0 0,.slice none 0 0,.slice none 0 0,.slice none 0 0,.slice none 0 0,.slice none 0 0] 29)).setCell ⟨T,0,none⟩ (.slice none 0 0)).setCell ⟨T,1,none⟩ (.slice none 0 0)).setCell ⟨T,2,none⟩ (.slice none 0 0)).setCell ⟨T,3,none⟩ (.slice none 0 0)).setCell ⟨T,4,none⟩ (.slice none 0 0)).setCell ⟨T,5,none⟩ (.slice none 0 0)=wz at *
     obtain⟨z0,z1,z2,z3,z4,z5,_⟩:=B6.o.sixth;go_wp2
     refine bodyPost_ret (v:= .tuple #[.agg #[.slice none 0 0,.slice none 0 0,.slice none 0 0,.slice none 0 0,.slice none 0 0,.slice none 0 0],.int .i64 0,.int .i64 44]) (by simp[results,results14,go_sem,z0,z1,z2,z3,z4,z5]) rfl ⟨by rw[<-HS.o];exact⟨rfl,by decide⟩,by first|exact F6.o|exact F6.o.drew⟩
   . have hx:=HLT.o e x hc h44
     obtain⟨nd,hnd⟩:∃nd,ns[x]?=some nd:=⟨_,gE hx⟩;have HS:=hD (show eU.bad nd.line e=r from by have:=HR.o;simp only[hc,if_neg h44,hnd] at this;exact this);have hx2:(x:Int)<(ns.length:Int):=by omega
     have h4b:((e:Int)==44)=false:=bN.2 (by omega);obtain⟨nb,nc,lv,e',-,-,-,y1,-⟩:=T5.o.node hnd;injection e' with e1 e2 e3;subst e1;have n4:¬nb=T:=λe=>by
      have h1:=T5.o.nodes.aD B5 (by decide);rw[aR (by omega) T5.o.nodes.mW.1,e] at h1;exact h1 rfl
     have x0:=(X5.o.cell 0).trans rfl;clear hc he0 he9 hnd hx h44 e2 e3;go_wp2_with fail
     go_region_law (fail)
     all_goals
      clear r0 r1 r2 r3 r4 r5 f0 f1 f2 f3 f4 f5;generalize ((((((w4.alloc (.cells #[.slice none 0 0,.slice none 0 0,.slice none 0 0,.slice none 0 0,.slice none 0 0,.slice none 0 0] 29)).setCell ⟨T,0,none⟩ (.slice none 0 0)).setCell ⟨T,1,none⟩ (.slice none 0 0)).setCell ⟨T,2,none⟩ (.slice none 0 0)).setCell ⟨T,3,none⟩ (.slice none 0 0)).setCell ⟨T,4,none⟩ (.slice none 0 0)).setCell ⟨T,5,none⟩ (.slice none 0 0)=wz at *;obtain⟨z0,z1,z2,z3,z4,z5,_⟩:=B6.o.sixth;go_wp2
      refine bodyPost_ret (v:= .tuple #[.agg #[.slice none 0 0,.slice none 0 0,.slice none 0 0,.slice none 0 0,.slice none 0 0,.slice none 0 0],.int .i64 nd.line,.int .i64 e]) (by simp[results,results14,go_sem,z0,z1,z2,z3,z4,z5]) rfl ⟨by rw[<-HS.o];exact⟨rfl,HE⟩,by first|exact F6.o|exact F6.o.drew⟩
  | good p=>
   rw[hc] at hck;obtain⟨tv,sv,uv,zv,rfl,hp⟩:=hck;have HS:=hD (show eU.good p=r from by have:=HR.o;simp only[hc] at this;exact this);obtain⟨TA,TC,rfl,-,-⟩:=hp.types.cap;obtain⟨SA,SC,rfl,-,-⟩:=hp.slots.cap;obtain⟨UA,UC,rfl,-,-⟩:=hp.fn.cap;obtain⟨ZA,ZC,rfl,-,-⟩:=hp.sizes.cap;generalize hl1:p.types.length=l1 at *;generalize hl2:p.slots.length=l2 at *;generalize hl3:p.fn.length=l3 at *;generalize hl4:p.sizes.length=l4 at *;have B5:=hD (B4.o.alloc (.cells #[.slice NA ns.length NC,.slice FA fs.length FC,.slice TA l1 TC,.slice SA l2 SC,.slice UA l3 UC,.slice ZA l4 ZC] 29));have F5:=hD (F4.o.alloc (.cells #[.slice NA ns.length NC,.slice FA fs.length FC,.slice TA l1 TC,.slice SA l2 SC,.slice UA l3 UC,.slice ZA l4 ZC] 29));have P5:=hD (hp.no ((fR w4).alloc (.cells #[.slice NA ns.length NC,.slice FA fs.length FC,.slice TA l1 TC,.slice SA l2 SC,.slice UA l3 UC,.slice ZA l4 ZC] 29)));have n1:¬T=w4.heap.size:=by have:=B4.o.lt;omega
   obtain⟨r0,r1,r2,r3,r4,r5,f0,f1,f2,f3,f4,f5⟩:=B5.o.sixth;have B6:=hD (B5.o.rW (a':= .slice NA ns.length NC) (b':= .slice FA fs.length FC) (c':= .slice TA l1 TC) (d':= .slice SA l2 SC) (e':= .slice UA l3 UC) (f':= .slice ZA l4 ZC));have F6:=hD (rV (Nat.le_of_eq HT) F5 (.slice NA ns.length NC) (.slice FA fs.length FC) (.slice TA l1 TC) (.slice SA l2 SC) (.slice UA l3 UC) (.slice ZA l4 ZC));have P6:=hD (P5.o.aPn B5 (Fr.six (w4.alloc (.cells #[.slice NA ns.length NC,.slice FA fs.length FC,.slice TA l1 TC,.slice SA l2 SC,.slice UA l3 UC,.slice ZA l4 ZC] 29)) T (.slice NA ns.length NC) (.slice FA fs.length FC) (.slice TA l1 TC) (.slice SA l2 SC) (.slice UA l3 UC) (.slice ZA l4 ZC)));clear hc hp hl1 hl2 hl3 hl4;go_wp2_with fail
   all_goals
     clear r0 r1 r2 r3 r4 r5 f0 f1 f2 f3 f4 f5;generalize ((((((w4.alloc (.cells #[.slice NA ns.length NC,.slice FA fs.length FC,.slice TA l1 TC,.slice SA l2 SC,.slice UA l3 UC,.slice ZA l4 ZC] 29)).setCell ⟨T,0,none⟩ (.slice NA ns.length NC)).setCell ⟨T,1,none⟩ (.slice FA fs.length FC)).setCell ⟨T,2,none⟩ (.slice TA l1 TC)).setCell ⟨T,3,none⟩ (.slice SA l2 SC)).setCell ⟨T,4,none⟩ (.slice UA l3 UC)).setCell ⟨T,5,none⟩ (.slice ZA l4 ZC)=wz at *
   obtain⟨z0,z1,z2,z3,z4,z5,_⟩:=B6.o.sixth;go_wp2
   refine bodyPost_ret (v:= .tuple #[.agg #[.slice NA ns.length NC,.slice FA fs.length FC,.slice TA l1 TC,.slice SA l2 SC,.slice UA l3 UC,.slice ZA l4 ZC],.int .i64 0,.int .i64 0]) (by simp[results,results14,go_sem,z0,z1,z2,z3,z4,z5]) rfl ⟨by rw[<-HS.o];exact⟨_,_,_,_,_,_,_,_,rfl,by first|exact P6.o|exact P6.o.no ((fR _).drew)⟩,by first|exact F6.o|exact F6.o.drew⟩
end Go.Proofs.YtlbjicjinnnboaaGreatDoor
/- What the rows' listed variables give the walks. -/
namespace Go.Proofs.YtlbjicjinnnboaaGreatDoor
open Go.Proofs.Tryz
open Go.ChangeShapes Go.WideShapes Go.ChangeAt Go.RowKit
set_option maxRecDepth 100000
theorem aQt:ownKnob prog.godebug=none:=by kernel_rfl
theorem aMj {W : World} (h : laidMetH Tryz.prog Rows.parseBelowRow.laid W) : ∃ tp p, W.var? Tryz.prog "strconv.ErrRange" = some #[.iface tp p] := by
 rw[MakeChecks.laidMetH_plain _ _ _ (by kernel_rfl)] at h;obtain⟨ps,h,_,_⟩:=h;obtain⟨_,_,_,_,_,_,_,_,_,_,⟨_,_,_,_,_,_,_,_,_,_,⟨_,_,_,_,_,_,_,_,_,_,⟨_,_,_,_,_,_,_,_,_,_,⟨g,t,cs,f,p,q,hg,ht,hv,hd,_⟩,_⟩,_⟩,_⟩,_⟩:=h
 obtain rfl := Option.some.inj ((show Tryz.prog.globalNamed "strconv.ErrRange" = some 2 by kernel_rfl).symm.trans hg)
 obtain rfl:=Option.some.inj ((show (prog.globals[2]?).map (·.type)=some 159 by kernel_rfl).symm.trans ht);obtain⟨f1,u,v,hcs,_,_⟩:=iface_of_trod underlying159 hd;rw[Array.eq_one_of_toList hcs] at hv;exact⟨u,v,hv⟩
theorem oH {H:Type}{enc:TypeId×Value->H}{a:Assume}{C:Checked}{os:Os}{f:FuncId}{fn:Func}{s:ChangeSpec}{conds:List PathCond}{apart fresh handsOn again:Bool}{X:World->Array Value->Prop}
  (hX:∀(w w':World) (args:Array Value),w.heap=w'.heap->X w args->X w' args)
  (own:ownKnob C.prog.godebug=none) (started:os.Started) (noInit:C.prog.inits.idxOf? f=none) (hfn:C.prog.funcs[f]?=some fn)
  (witness:∃(w:World) (tape:Tape) (i:Input),w.os=os∧(w.forCall tape i).Shaped C.prog∧i.vars=[]∧Input.okWide C.prog (w.forCall tape i) .any w.heap.size f i ∧
    ((s.pre enc C.prog fn conds apart (w.forCall tape i).memory i.args∧X (w.forCall tape i).memory i.args)∧sizedMet enc C.prog fn (OpenSpec.ofChange s) apart (w.forCall tape i).memory i.args)∧a.holds C.prog (lone (Frame.enter C.prog f i.args .normal) [] (w.forCall tape i)))
  (contract:∀(W:World) (base:Nat) (args:Array Value) (ds gs:List (DataW H)) (before:List MemPlace),
    (∀(j:Nat) t v,fn.params[j]?=some t->args[j]?=some v->Value.okWide C.prog W .any base t v) ->
    DataW.Whole enc C.prog fn.params.toList s.vars apart W args.toList ds gs before ->
    (DataW.weightsEach C.prog (fn.params.toList++s.plain.varTypes C.prog) (ds++gs)).all (· ≤ reachBytes)=true->X W args->W.ShapedOpen C.prog ->
    Calls C.prog f args W λe W'=>∃v,e = .returned v∧s.post enc C.prog fn apart fresh handsOn again W args v W'):
  ReturnsInHanded a C os f .any (λw args=>(s.pre enc C.prog fn conds apart w args∧X w args)∧sizedMet enc C.prog fn (OpenSpec.ofChange s) apart w args) (s.post enc C.prog fn apart fresh handsOn again):=by
 refine returnsInHanded_of_calls own started noInit witness ?_;intro w tape i _ hsh _ hok hpre _;obtain⟨_,_,_,fn',hfn',_,_,_,_,hval⟩:=hok;obtain rfl:fn'=fn:=Option.some.inj (hfn'.symm.trans hfn);obtain⟨⟨⟨ds,gs,before,hw,_⟩,hx⟩,hz⟩:=hpre;refine (contract (w.forCall tape i) w.heap.size i.args ds gs before hval (DataW.Whole.of_heap (w':=w.forCall tape i) (by rfl) hw) (hz.weights hw) (hX _ _ _ (by rfl) hx) hsh).mono λe W' ⟨v,he,hp⟩=>?_
 subst he;exact ChangeSpec.post_blind hp
theorem xE {W:World} (h:laidMetH prog Rows.parseBelowRow.laid W) (hs:W.ShapedOpen prog):zH W:=by
 obtain⟨m,hm⟩:=laysM219.s1_3 W hs;refine⟨⟨⟨m,by exact hm⟩,aMj h⟩,m,?_⟩;obtain⟨cs,hh,hz,_⟩:=hs.1 0 #[.int .i64 0] 3 (by decide +kernel) (by kernel_rfl);have hc:Blk W 0 3 cs:=hh;change W.cell? ⟨0,0,none⟩=some (.int .i64 m) at hm;rw[hc.cell 0] at hm;obtain⟨l⟩:=cs
 match l,hz with
 | [x],_=>
  simp at hm
  subst hm;exact hc
end Go.Proofs.YtlbjicjinnnboaaGreatDoor
