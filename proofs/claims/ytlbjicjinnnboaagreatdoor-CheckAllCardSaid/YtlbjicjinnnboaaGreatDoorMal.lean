/- Mal: KsS, KsR, KsAl, KsQA. -/
import Derived.Test.YtlbjicjinnnboaaGreatDoorMaP
import Derived.Test.YtlbjicjinnnboaaGreatDoorMaE
import Derived.Test.YtlbjicjinnnboaaGreatDoorMaQ
import Derived.Test.YtlbjicjinnnboaaGreatDoorMaJ
import Derived.Test.YtlbjicjinnnboaaGreatDoorMaF
import Derived.Test.YtlbjicjinnnboaaGreatDoorMaT
set_option maxHeartbeats 8000000
set_option maxRecDepth 100000
set_option linter.unusedVariables false
set_option linter.unusedSimpArgs false
/- The reference's Same, of two programs that are the same. -/
namespace Go.Proofs.YtlbjicjinnnboaaGreatDoor
open Go.RowKit Go.Proofs.Tryz
open Pw
theorem aAf {w w1:World}{v1 v2:Value}{n:Nat}{xs:List Int} (h1:Own w 3 1 v1 n (dK xs)) (h2:Own w 3 1 v2 n (dK xs)) (f:Fr nob w w1):Calls prog 37 #[v1,v2] w1 λe w'=>e = .returned (.bool true)∧Fr nob w1 w':=by
 obtain⟨A1,c1,rfl,-,-⟩:=h1.cap;obtain⟨A2,c2,rfl,-,-⟩:=h2.cap;refine (aHa A1 A2 n n c1 c2 xs xs w1 (h1.fr f (λ_ _ x=>x)).rd (h2.fr f (λ_ _ x=>x)).rd).mono ?_;rintro e w' ⟨h,k,rfl⟩;exact⟨by rw[h,decide_eq_true rfl],(Fr.refl _ _).drewN k⟩
theorem qL {w w1:World}{v1 v2:Value}{n:Nat}{xs:List Nat} (h1:Own w 3 1 v1 n (ints xs)) (h2:Own w 3 1 v2 n (ints xs)) (f:Fr nob w w1):Calls prog 37 #[v1,v2] w1 λe w'=>e = .returned (.bool true)∧Fr nob w1 w':=by
 have e:ints xs=dK (xs.map λx:Nat=>(x:Int)):=by unfold ints dK;rw[List.map_map];rfl
 rw[e] at h1 h2;exact aAf h1 h2 f
theorem aEu {w:World}{nv fv tv sv uv zv nv2 fv2 tv2 sv2 uv2 zv2:Value}{lvs pvs lvs2 pvs2:List Value}{p:fF} (h1:gJ w nv fv tv sv uv zv lvs pvs p) (h2:gJ w nv2 fv2 tv2 sv2 uv2 zv2 lvs2 pvs2 p) (hn:p.ns.length≤1000) (hf:p.fs.length≤1000) (hp:∀f∈p.fs,f.params.length≤1000):
  Calls prog 29 #[.agg #[nv,fv,tv,sv,uv,zv],.agg #[nv2,fv2,tv2,sv2,uv2,zv2]] w λe w'=>e = .returned (.bool true)∧Fr nob w w':=by
 have HT:=hD (λw1 (f:Fr nob w w1)=>aJp (h1.tree.no f) (h2.tree.no f) hn hf hp);have I1:=hD (λw1 (f:Fr nob w w1)=>qL h1.types h2.types f);have I2:=hD (λw1 (f:Fr nob w w1)=>aAf h1.slots h2.slots f);have I3:=hD (λw1 (f:Fr nob w w1)=>qL h1.fn h2.fn f);have I4:=hD (λw1 (f:Fr nob w w1)=>qL h1.sizes h2.sizes f);have B1:=hD ((Blk.new w 29 #[nv,fv,tv,sv,uv,zv]).alloc (.cells #[nv2,fv2,tv2,sv2,uv2,zv2] 29));have B2:=hD (show Blk ((w.alloc (.cells #[nv,fv,tv,sv,uv,zv] 29)).alloc (.cells #[nv2,fv2,tv2,sv2,uv2,zv2] 29)) (w.heap.size+1) 29 #[nv2,fv2,tv2,sv2,uv2,zv2] from by
  have:=Blk.new (w.alloc (.cells #[nv,fv,tv,sv,uv,zv] 29)) 29 #[nv2,fv2,tv2,sv2,uv2,zv2];rw[World.size_alloc] at this;exact this)
 have F0:=hD (((fR w).alloc (.cells #[nv,fv,tv,sv,uv,zv] 29)).alloc (.cells #[nv2,fv2,tv2,sv2,uv2,zv2] 29));clear h1 h2 hn hf hp;go_enter func29,ntmps29;go_upto_region 1 with fail;generalize (w.alloc (.cells #[nv,fv,tv,sv,uv,zv] 29)).alloc (.cells #[nv2,fv2,tv2,sv2,uv2,zv2] 29)=w1 at *;generalize w.heap.size+1=P2 at *;generalize w.heap.size=P1 at *;have B01:=hD B1.o;have B02:=hD B2.o;clear B1 B2;obtain⟨a0,a1,a2,a3,a4,a5,-⟩:=B01.o.sixth;obtain⟨b0,b1,b2,b3,b4,b5,-⟩:=B02.o.sixth;go_wp2_with fail
 refine stepM (HT _ F0) λw2 hf=>?_;have F1:=hD (F0.o.tr hf);have B11:=hD (B01.o.fr hf (λx=>x));have B12:=hD (B02.o.fr hf (λx=>x));clear hf a0 a1 a2 a3 a4 a5 b0 b1 b2 b3 b4 b5 B01 B02 F0;obtain⟨a0,a1,a2,a3,a4,a5,-⟩:=B11.o.sixth;obtain⟨b0,b1,b2,b3,b4,b5,-⟩:=B12.o.sixth;go_wp2_with fail
 refine stepM (I1 _ F1) λw3 hf=>?_;have F2:=hD (F1.o.tr hf);have B21:=hD (B11.o.fr hf (λx=>x));have B22:=hD (B12.o.fr hf (λx=>x));clear hf a0 a1 a2 a3 a4 a5 b0 b1 b2 b3 b4 b5 B11 B12 F1;obtain⟨a0,a1,a2,a3,a4,a5,-⟩:=B21.o.sixth;obtain⟨b0,b1,b2,b3,b4,b5,-⟩:=B22.o.sixth;go_wp2_with fail
 refine stepM (I2 _ F2) λw4 hf=>?_;have F3:=hD (F2.o.tr hf);have B31:=hD (B21.o.fr hf (λx=>x));have B32:=hD (B22.o.fr hf (λx=>x));clear hf a0 a1 a2 a3 a4 a5 b0 b1 b2 b3 b4 b5 B21 B22 F2;obtain⟨a0,a1,a2,a3,a4,a5,-⟩:=B31.o.sixth;obtain⟨b0,b1,b2,b3,b4,b5,-⟩:=B32.o.sixth;go_wp2_with fail
 refine stepM (I3 _ F3) λw5 hf=>?_;have F4:=hD (F3.o.tr hf);have B41:=hD (B31.o.fr hf (λx=>x));have B42:=hD (B32.o.fr hf (λx=>x));clear hf a0 a1 a2 a3 a4 a5 b0 b1 b2 b3 b4 b5 B31 B32 F3;obtain⟨a0,a1,a2,a3,a4,a5,-⟩:=B41.o.sixth;obtain⟨b0,b1,b2,b3,b4,b5,-⟩:=B42.o.sixth;go_wp2_with fail
 refine stepM (I4 _ F4) λw9 hf=>?_;have F9:=hD (F4.o.tr hf);clear hf;go_wp2
 go_ret;exact⟨rfl,F9⟩
end Go.Proofs.YtlbjicjinnnboaaGreatDoor
/- The reference's parser, as the laws' walks ask for it. -/
namespace Go.Proofs.YtlbjicjinnnboaaGreatDoor
open Go.RowKit Go.Proofs.Tryz
variable {p:fF}{w:World}{nv fv:Value}{lvs pvs:List Value}{ns:List aG}{fs:List aH}
def aQo:Prop:=∀(src:ByteArray) (w:World),src.size≤281474976710656->∀r:tN,parseM src.data.toList=some r->Calls prog 30 #[.string src] w λe w'=>zG w.heap.size w' e r∧Fr nob w w'
open Pw
def yK:fF:=⟨[],[],[],[],[],[]⟩
def aNv:eU->fF×Nat×Nat
 | .bad p e=>(yK,p,e)
 | .good p=>(p,0,0)
def ckV:CkR fF->fF×Nat×Nat
 | .bad e p=>(yK,p,e)
 | .good p=>(p,0,0)
theorem vW (w:World):gJ w (.slice none 0 0) (.slice none 0 0) (.slice none 0 0) (.slice none 0 0) (.slice none 0 0) (.slice none 0 0) [] [] yK:=by
 refine⟨⟨Own.nil _ _ _,trivial,rfl,Own.nil _ _ _,trivial,rfl,λb hb=>by simp[blk] at hb,λb hb=>by simp[blk] at hb⟩,Own.nil _ _ _,Own.nil _ _ _,Own.nil _ _ _,Own.nil _ _ _⟩
theorem gZ.uni {en:Ending}{r:eU} (h:gZ w en r):∃nv fv tv sv uv zv lvs pvs,en = .returned (.tuple #[.agg #[nv,fv,tv,sv,uv,zv],.int .i64 ((aNv r).2.1:Nat),.int .i64 ((aNv r).2.2:Nat)])∧gJ w nv fv tv sv uv zv lvs pvs (aNv r).1:=by
 cases r with
 | bad p e=>exact⟨_,_,_,_,_,_,_,_,h.1,vW w⟩
 | good p=>exact h
theorem CheckAt.uni {en:Ending}{r:CkR fF} (h:CheckAt w en nv fv lvs pvs r):∃nv fv tv sv uv zv lvs pvs,en = .returned (.tuple #[.agg #[nv,fv,tv,sv,uv,zv],.int .i64 ((ckV r).2.1:Nat),.int .i64 ((ckV r).2.2:Nat)])∧gJ w nv fv tv sv uv zv lvs pvs (ckV r).1:=by
 cases r with
 | bad e p=>exact⟨_,_,_,_,_,_,_,_,h.1,vW w⟩
 | good p=>
  obtain⟨tv,sv,uv,zv,h1,h2⟩:=h;exact⟨_,_,_,_,_,_,_,_,h1,h2⟩
theorem gJ.sl {tv sv uv zv:Value} (h:gJ w nv fv tv sv uv zv lvs pvs p):(∃A n c,nv = .slice A n c)∧(∃A n c,fv = .slice A n c)∧(∃A n c,tv = .slice A n c)∧(∃A n c,sv = .slice A n c)∧(∃A n c,uv = .slice A n c)∧(∃A n c,zv = .slice A n c):=by
 obtain⟨A1,c1,e1,-,-⟩:=h.tree.nodes.cap;obtain⟨A2,c2,e2,-,-⟩:=h.tree.fns.cap;obtain⟨A3,c3,e3,-,-⟩:=h.types.cap;obtain⟨A4,c4,e4,-,-⟩:=h.slots.cap;obtain⟨A5,c5,e5,-,-⟩:=h.fn.cap;obtain⟨A6,c6,e6,-,-⟩:=h.sizes.cap;exact⟨⟨_,_,_,e1⟩,⟨_,_,_,e2⟩,⟨_,_,_,e3⟩,⟨_,_,_,e4⟩,⟨_,_,_,e5⟩,⟨_,_,_,e6⟩⟩
def aOb (p:fF):Prop:=p.ns.length≤1000∧p.fs.length≤1000∧∀f∈p.fs,f.params.length≤1000
theorem zZ:aOb yK:=⟨by simp[yK],by simp[yK],λf hf=>by simp[yK] at hf⟩
theorem aMb (h:jN ns fs) (h1:p.ns=ns) (h2:p.fs=fs):aOb p:=by
 unfold aOb;rw[h1,h2];exact⟨by have:=h.few;omega,by have:=h.fewf;omega,λf hf=>by have:=h.pars f hf;omega⟩
theorem qR (h:dQ ns fs = .good p):p.ns=ns∧p.fs=fs:=by
 unfold dQ at h;obtain⟨_,hh,h⟩:=CkR.bind_eq h;obtain⟨r,hr,h⟩:=CkR.map_eq h;subst h;exact⟨rfl,rfl⟩
theorem aOk (h:jN ns fs):aOb (ckV (dQ ns fs)).1:=by
 cases hc:dQ ns fs with
 | bad e p=>exact zZ
 | good p=>
  obtain⟨h1,h2⟩:=qR hc;exact aMb h h1 h2
theorem aJi {src:List UInt8} (h:iF src=some (.good p)):parseM src=some (.good p.ns p.fs):=by
 unfold iF at h;rw[mS] at h;obtain⟨r,hr,h⟩:=h;cases r with
 | bad p e=>cases h
 | good ns fs=>
  cases hc:dQ ns fs with
  | bad e x=>
   simp only[hc] at h;split at h<;>cases h
  | good q=>
   simp only[hc] at h;injection h with h;subst h;obtain⟨h2,h3⟩:=qR hc;rw[h2,h3];exact hr
theorem aNa {src:List UInt8}{r:eU} (h:iF src=some r):aOb (aNv r).1:=by
 cases r with
 | bad p e=>exact zZ
 | good p=>exact aMb (oP (aJi h)).ok rfl rfl
def aAr (F:Nat):Prop:=∀(w:World) (NA FA:Option Addr) (NC FC:Nat) (lvs pvs:List Value) (ns:List aG) (fs:List aH),bW 0 w (.slice NA ns.length NC) (.slice FA fs.length FC) lvs pvs ns fs->jN ns fs->(∀nd∈ns,nd.l.length≤300) ->
 Calls prog F #[.agg #[.slice NA ns.length NC,.slice FA fs.length FC]] w λen w'=>CheckAt w' en (.slice NA ns.length NC) (.slice FA fs.length FC) lvs pvs (dQ ns fs)∧Fr nob w w'
theorem vM {tv sv uv zv nv2 fv2 tv2 sv2 uv2 zv2:Value}{lvs2 pvs2:List Value} (h1:gJ w nv fv tv sv uv zv lvs pvs p) (h2:gJ w nv2 fv2 tv2 sv2 uv2 zv2 lvs2 pvs2 p) (hl:aOb p):
 Calls prog 29 #[.agg #[nv,fv,tv,sv,uv,zv],.agg #[nv2,fv2,tv2,sv2,uv2,zv2]] w λe w'=>e = .returned (.bool true)∧Fr nob w w':=aEu h1 h2 hl.1 hl.2.1 hl.2.2
theorem uT {V:World->Prop} (HQ:aQg V) (HRS:aMh) (HP:aQo) (HQA:aAr 31) (HRA:aAr 32) (s:ByteArray) (w:World) (hv:V w):Calls prog 7 #[.string s] w λe w'=>e = .returned (.bool true)∧Fr nob w w':=by
 have HSH:=hD (aBi HQ w hv);obtain⟨T,hT⟩:∃T,s.data.toList.take 700=T:=⟨_,rfl⟩;have HSO:=hD (λw'=>aBj s w');rw[hT] at HSO
 have hTl : (bs T).size ≤ 281474976710656 := by have : T.length ≤ 700 := by rw [<- hT, List.length_take]; omega
                                                show T.toArray.size ≤ _; rw [List.size_toArray]; omega
 obtain⟨r,hr⟩:=xL T;obtain⟨r0,hr0⟩:=sK T;have HS:=hD (λw' (f:Fr nob w w')=>HQ.src (bs T) w' (HQ.no _ _ hv f) hTl r hr);have HR:=hD (λw'=>HRS (bs T) w' hTl (r:=r) hr);have HP0:=hD (λw'=>HP (bs T) w' hTl r0 hr0);have LS:=hD (aNa hr);have HR0:=hD hr0;have HA:=hD HQA;have HB:=hD HRA;clear hT hTl hr hr0 hv HQ HRS HP HQA HRA;go_enter func7,ntmps7;go_wp2_with fail
 refine HSH.o.mono ?_;rintro e w1 ⟨rfl,hf1⟩;have F1:=hD hf1;clear hf1 HSH;go_wp2_with fail
 refine (HSO w1).mono ?_;rintro e w1' ⟨rfl,hw⟩;subst hw;go_wp2_with fail
 refine (HS _ F1).mono ?_;rintro e w2 ⟨hsa,hf2⟩;obtain⟨nv,fv,tv,sv,uv,zv,lvs,pvs,rfl,pa⟩:=hsa.uni;obtain⟨⟨G0,g0,c0,rfl⟩,⟨G1,g1,c1,rfl⟩,⟨G2,g2,c2,rfl⟩,⟨G3,g3,c3,rfl⟩,⟨G4,g4,c4,rfl⟩,⟨G5,g5,c5,rfl⟩⟩:=pa.sl;have F2:=hD ((F1.o.tr hf2).alloc (.cells #[.slice G0 g0 c0,.slice G1 g1 c1,.slice G2 g2 c2,.slice G3 g3 c3,.slice G4 g4 c4,.slice G5 g5 c5] 29));have P2:=hD (pa.no ((fR w2).alloc (.cells #[.slice G0 g0 c0,.slice G1 g1 c1,.slice G2 g2 c2,.slice G3 g3 c3,.slice G4 g4 c4,.slice G5 g5 c5] 29)));have B2:=hD (Blk.new w2 29 #[.slice G0 g0 c0,.slice G1 g1 c1,.slice G2 g2 c2,.slice G3 g3 c3,.slice G4 g4 c4,.slice G5 g5 c5]);clear hsa pa hf2 F1 HS HSO;go_upto_region 4 with fail;generalize w2.alloc (.cells #[.slice G0 g0 c0,.slice G1 g1 c1,.slice G2 g2 c2,.slice G3 g3 c3,.slice G4 g4 c4,.slice G5 g5 c5] 29)=w3 at *;generalize w2.heap.size=C1 at *;go_wp2_with fail
 refine (HR _).mono ?_;rintro e w4 ⟨hsa,hf4⟩;obtain⟨nv2,fv2,tv2,sv2,uv2,zv2,lvs2,pvs2,rfl,pa⟩:=hsa.uni;obtain⟨⟨H0,h0,d0,rfl⟩,⟨H1,h1,d1,rfl⟩,⟨H2,h2,d2,rfl⟩,⟨H3,h3,d3,rfl⟩,⟨H4,h4,d4,rfl⟩,⟨H5,h5,d5,rfl⟩⟩:=pa.sl;have F4:=hD ((F2.o.tr hf4).alloc (.cells #[.slice H0 h0 d0,.slice H1 h1 d1,.slice H2 h2 d2,.slice H3 h3 d3,.slice H4 h4 d4,.slice H5 h5 d5] 29));have P4:=hD (P2.o.no (hf4.alloc (.cells #[.slice H0 h0 d0,.slice H1 h1 d1,.slice H2 h2 d2,.slice H3 h3 d3,.slice H4 h4 d4,.slice H5 h5 d5] 29)));have Q4:=hD (pa.no ((fR w4).alloc (.cells #[.slice H0 h0 d0,.slice H1 h1 d1,.slice H2 h2 d2,.slice H3 h3 d3,.slice H4 h4 d4,.slice H5 h5 d5] 29)));have B4:=hD (B2.o.fr (hf4.alloc (.cells #[.slice H0 h0 d0,.slice H1 h1 d1,.slice H2 h2 d2,.slice H3 h3 d3,.slice H4 h4 d4,.slice H5 h5 d5] 29)) (λx=>x));have D4:=hD (Blk.new w4 29 #[.slice H0 h0 d0,.slice H1 h1 d1,.slice H2 h2 d2,.slice H3 h3 d3,.slice H4 h4 d4,.slice H5 h5 d5]);clear hsa pa hf4 F2 P2 B2 HR;go_upto_region 5 with fail;generalize w4.alloc (.cells #[.slice H0 h0 d0,.slice H1 h1 d1,.slice H2 h2 d2,.slice H3 h3 d3,.slice H4 h4 d4,.slice H5 h5 d5] 29)=w5 at *;generalize w4.heap.size=C2 at *;have HSM:=hD (vM P4 Q4 LS);obtain⟨a0,a1,a2,a3,a4,a5,-⟩:=B4.o.sixth;obtain⟨b0,b1,b2,b3,b4,b5,-⟩:=D4.o.sixth;generalize (aNv r).2.1=ea at *;generalize (aNv r).2.2=ee at *;clear LS P4 Q4 B4 D4;go_wp2_with fail
 refine HSM.o.mono ?_;rintro e w6 ⟨rfl,hf6⟩;have F6:=hD (F4.o.tr hf6);have i1:((ea:Int) != (ea:Int))=false:=by simp
 have i2:((ee:Int) != (ee:Int))=false:=by simp
 clear hf6 a0 a1 a2 a3 a4 a5 b0 b1 b2 b3 b4 b5 F4 HSM;go_wp2_with fail
 clear i1 i2;refine (HP0 _).mono ?_;rintro e w7 ⟨hpa,hf7⟩;have F7:=hD (F6.o.tr hf7);clear hf7 HP0 F6;cases r0 with
 | bad p er=>
  have hpa:e = .returned (.tuple #[.agg #[.slice none 0 0,.slice none 0 0],.int .i64 p,.int .i64 er]):=hpa;subst hpa;have he:er≠0:=by have:=nJ HR0.o;omega
  have heb:((er:Int)==0)=false:=bN.2 (by omega);have hne:((er:Int) != 0)=true:=by rw[bne,heb];rfl
  clear he;go_wp2
  go_ret;exact⟨rfl,F7.o.alloc _⟩
 | good ns fs=>
  obtain⟨nw,fw,lw,pw,rfl,ht⟩:=hpa;have TI:=hD (oP HR0);obtain⟨NA,NC,rfl,-,-⟩:=ht.nodes.cap;obtain⟨FA,FC,rfl,-,-⟩:=ht.fns.cap;have TA:=hD (ht.zero.no ((fR w7).alloc (.cells #[.slice NA ns.length NC,.slice FA fs.length FC] 26)));have BT:=hD (Blk.new w7 26 #[.slice NA ns.length NC,.slice FA fs.length FC]);have F8:=hD (F7.o.alloc (.cells #[.slice NA ns.length NC,.slice FA fs.length FC] 26));clear ht F7;go_upto_region 9 with fail;generalize w7.alloc (.cells #[.slice NA ns.length NC,.slice FA fs.length FC] 26)=w8 at *;generalize w7.heap.size=TB at *;have t0:=(BT.o.cell 0).trans rfl;have t1:=(BT.o.cell 1).trans rfl;have H1:=hD (HA w8 NA FA NC FC lw pw ns fs TA TI.o.ok TI.o.rows);have LC:=hD (aOk TI.o.ok);obtain⟨n,hn⟩:∃n,ns.length=n:=⟨_,rfl⟩;obtain⟨m,hm⟩:∃m,fs.length=m:=⟨_,rfl⟩;rw[hn,hm] at t0 t1 H1;have HN:=hD hn;have HM:=hD hm;clear hn hm HA;go_wp2_with fail
  refine H1.o.mono ?_;rintro e w9 ⟨hck,hf9⟩;obtain⟨nv3,fv3,tv3,sv3,uv3,zv3,lvs3,pvs3,rfl,pa⟩:=hck.uni;obtain⟨⟨J0,j0,x0,rfl⟩,⟨J1,j1,x1,rfl⟩,⟨J2,j2,x2,rfl⟩,⟨J3,j3,x3,rfl⟩,⟨J4,j4,x4,rfl⟩,⟨J5,j5,x5,rfl⟩⟩:=pa.sl;have F9:=hD ((F8.o.tr hf9).alloc (.cells #[.slice J0 j0 x0,.slice J1 j1 x1,.slice J2 j2 x2,.slice J3 j3 x3,.slice J4 j4 x4,.slice J5 j5 x5] 29));have P9:=hD (pa.no ((fR w9).alloc (.cells #[.slice J0 j0 x0,.slice J1 j1 x1,.slice J2 j2 x2,.slice J3 j3 x3,.slice J4 j4 x4,.slice J5 j5 x5] 29)));have B9:=hD (Blk.new w9 29 #[.slice J0 j0 x0,.slice J1 j1 x1,.slice J2 j2 x2,.slice J3 j3 x3,.slice J4 j4 x4,.slice J5 j5 x5]);have TA9:=hD (TA.o.no (hf9.alloc (.cells #[.slice J0 j0 x0,.slice J1 j1 x1,.slice J2 j2 x2,.slice J3 j3 x3,.slice J4 j4 x4,.slice J5 j5 x5] 29)));have BT9:=hD (BT.o.fr (hf9.alloc (.cells #[.slice J0 j0 x0,.slice J1 j1 x1,.slice J2 j2 x2,.slice J3 j3 x3,.slice J4 j4 x4,.slice J5 j5 x5] 29)) (λx=>x));clear hck pa hf9 F8 TA BT t0 t1 H1;go_upto_region 12 with fail;generalize w9.alloc (.cells #[.slice J0 j0 x0,.slice J1 j1 x1,.slice J2 j2 x2,.slice J3 j3 x3,.slice J4 j4 x4,.slice J5 j5 x5] 29)=w10 at *;generalize w9.heap.size=C3 at *;have t0:=(BT9.o.cell 0).trans rfl;have t1:=(BT9.o.cell 1).trans rfl;have H2:=hD (HB w10 NA FA NC FC lw pw ns fs TA9 TI.o.ok TI.o.rows);rw[HN.o,HM.o] at t0 t1 H2;clear HB;go_wp2_with fail
  refine H2.o.mono ?_;rintro e w11 ⟨hck,hf11⟩;obtain⟨nv4,fv4,tv4,sv4,uv4,zv4,lvs4,pvs4,rfl,pa⟩:=hck.uni;obtain⟨⟨K0,k0,y0,rfl⟩,⟨K1,k1,y1,rfl⟩,⟨K2,k2,y2,rfl⟩,⟨K3,k3,y3,rfl⟩,⟨K4,k4,y4,rfl⟩,⟨K5,k5,y5,rfl⟩⟩:=pa.sl;have F11:=hD ((F9.o.tr hf11).alloc (.cells #[.slice K0 k0 y0,.slice K1 k1 y1,.slice K2 k2 y2,.slice K3 k3 y3,.slice K4 k4 y4,.slice K5 k5 y5] 29));have P11:=hD (P9.o.no (hf11.alloc (.cells #[.slice K0 k0 y0,.slice K1 k1 y1,.slice K2 k2 y2,.slice K3 k3 y3,.slice K4 k4 y4,.slice K5 k5 y5] 29)));have Q11:=hD (pa.no ((fR w11).alloc (.cells #[.slice K0 k0 y0,.slice K1 k1 y1,.slice K2 k2 y2,.slice K3 k3 y3,.slice K4 k4 y4,.slice K5 k5 y5] 29)));have B11:=hD (B9.o.fr (hf11.alloc (.cells #[.slice K0 k0 y0,.slice K1 k1 y1,.slice K2 k2 y2,.slice K3 k3 y3,.slice K4 k4 y4,.slice K5 k5 y5] 29)) (λx=>x));have D11:=hD (Blk.new w11 29 #[.slice K0 k0 y0,.slice K1 k1 y1,.slice K2 k2 y2,.slice K3 k3 y3,.slice K4 k4 y4,.slice K5 k5 y5]);clear hck pa hf11 F9 P9 B9 TA9 BT9 t0 t1 H2;go_upto_region 13 with fail;generalize w11.alloc (.cells #[.slice K0 k0 y0,.slice K1 k1 y1,.slice K2 k2 y2,.slice K3 k3 y3,.slice K4 k4 y4,.slice K5 k5 y5] 29)=w12 at *;generalize w11.heap.size=C4 at *;have HSM:=hD (vM P11 Q11 LC);obtain⟨a0,a1,a2,a3,a4,a5,-⟩:=B11.o.sixth;obtain⟨b0,b1,b2,b3,b4,b5,-⟩:=D11.o.sixth;generalize (ckV (dQ ns fs)).2.1=ca at *;generalize (ckV (dQ ns fs)).2.2=ce at *;have i1:((ca:Int)==(ca:Int))=true:=by simp
  have i2:((ce:Int)==(ce:Int))=true:=by simp
  clear LC P11 Q11 B11 D11;go_wp2_with fail
  refine HSM.o.mono ?_;rintro e w13 ⟨rfl,hf13⟩;have F13:=hD (F11.o.tr hf13);clear hf13 a0 a1 a2 a3 a4 a5 b0 b1 b2 b3 b4 b5 F11 HSM;go_wp2
  go_ret;exact⟨rfl,F13⟩
end Go.Proofs.YtlbjicjinnnboaaGreatDoor
/- The checkers and parsers, as CheckAll's walk asks for them. -/
namespace Go.Proofs.YtlbjicjinnnboaaGreatDoor
open Go.RowKit Go.Proofs.Tryz
theorem aPy:aQo:=λsrc w hs _ hr=>zX src w hs hr
theorem aPu:aMh:=λsrc w hs _ hr=>aBf src w hs hr
theorem aPx:aAr 31:=λ_ _ _ _ _ _ _ _ _ ht hok hk=>sJ ht hok hk
theorem aPv:aAr 32:=λ_ _ _ _ _ _ _ _ _ ht hok hk=>oF ht hok hk
end Go.Proofs.YtlbjicjinnnboaaGreatDoor
