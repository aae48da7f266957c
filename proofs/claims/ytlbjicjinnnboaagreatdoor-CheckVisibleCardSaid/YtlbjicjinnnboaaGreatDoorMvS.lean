/- MvS: laws and walks for CheckVisible. -/
import Derived.Test.YtlbjicjinnnboaaGreatDoorMvR
import Derived.Test.YtlbjicjinnnboaaGreatDoorMvI
import Derived.Test.YtlbjicjinnnboaaGreatDoorMvH
set_option maxHeartbeats 8000000
set_option maxRecDepth 100000
set_option linter.unusedVariables false
set_option linter.unusedSimpArgs false
namespace Go.Proofs.YtlbjicjinnnboaaGreatDoor
open Go.RowKit Go.Proofs.Tryz
open Pw
variable {x line n a t j c:Nat}{nm:List UInt8}{G:Geo}{cs:Array Value}{v:Value}{nd:aF}{f:aG}
section
variable {G:Geo}{w w':World}{s:CkS}{r r':CkR CkS}{zs:List Nat}{k:Nat}{ex:Nat->CkS->CkR (Nat×CkS)}
theorem aFh (h:Ck G w s zs k 0 0) (hx:G.ns[x]?=some ⟨1,line,n,[],[]⟩):
  Calls prog 194 #[(G.g,()),x] w (iT G zs k (bB G.fs ex x ⟨1,line,n,[],[]⟩ s) w):=by
 have M0:Hd (CkM G w (.good s) zs k):=h;obtain⟨nb,nc,kv,hnv,hkv,hown,nlt,hx3,c0,x0,x1,x2,x3,x4⟩:=M0.o.node hx;dsimp only at hown x0 x1 x2 x3 x4;have hx4:(G.ns.length:Int)<=300:=by have:=h.geo.few;omega
 have glt:=h.jK;have gn:¬G.g=w.heap.size:=by omega
 have nn:¬nb=w.heap.size:=by omega
 obtain⟨KA,KC,rfl,_,_⟩:=hown.cap;clear h hx hkv hown;go_enter func194,ntmps194;go_wp2
 go_ret;exact⟨1,rfl,M0.o.no ((fR w).alloc _),FrK.no ((fR w).alloc _),λq hq=>by injection hq with hq;subst hq;rfl⟩
theorem aBb (h:Ck G w s zs k 0 0) (hx:G.ns[x]?=some ⟨2,line,n,[],[]⟩):
  Calls prog 194 #[(G.g,()),x] w (iT G zs k (bB G.fs ex x ⟨2,line,n,[],[]⟩ s) w):=by
 have M0:Hd (CkM G w (.good s) zs k):=h;obtain⟨nb,nc,kv,hnv,hkv,hown,nlt,hx3,c0,x0,x1,x2,x3,x4⟩:=M0.o.node hx;dsimp only at hown x0 x1 x2 x3 x4;have hx4:(G.ns.length:Int)<=300:=by have:=h.geo.few;omega
 have glt:=h.jK;have gn:¬G.g=w.heap.size:=by omega
 have nn:¬nb=w.heap.size:=by omega
 obtain⟨KA,KC,rfl,_,_⟩:=hown.cap;clear h hx hkv hown;go_enter func194,ntmps194;go_wp2
 go_ret;exact⟨2,rfl,M0.o.no ((fR w).alloc _),FrK.no ((fR w).alloc _),λq hq=>by injection hq with hq;subst hq;rfl⟩
theorem aAz (h:Ck G w s zs k 0 0) (hx:G.ns[x]?=some ⟨3,line,0,nm,[]⟩):
  Calls prog 194 #[(G.g,()),x] w (iT G zs k (bB G.fs ex x ⟨3,line,0,nm,[]⟩ s) w):=by
 have M0:Hd (CkM G w (.good s) zs k):=h;obtain⟨nb,nc,kv,hnv,hkv,hown,nlt,hx3,c0,x0,x1,x2,x3,x4⟩:=M0.o.node hx;dsimp only at hown x0 x1 x2 x3 x4;have hx4:(G.ns.length:Int)<=300:=by have:=h.geo.few;omega
 have glt:=h.jK;have gn:¬G.g=w.heap.size:=by omega
 have nn:¬nb=w.heap.size:=by omega
 obtain⟨KA,KC,rfl,_,_⟩:=hown.cap;clear h hx hkv hown;go_enter func194,ntmps194;go_wp2
 go_ret;exact⟨3,rfl,M0.o.no ((fR w).alloc _),FrK.no ((fR w).alloc _),λq hq=>by injection hq with hq;subst hq;rfl⟩
theorem yS (h:Ck G w s zs k 0 0) (hx:G.ns[x]?=some ⟨19,line,0,[],[]⟩):
  Calls prog 194 #[(G.g,()),x] w (iT G zs k (bB G.fs ex x ⟨19,line,0,[],[]⟩ s) w):=by
 have M0:Hd (CkM G w (.good s) zs k):=h;obtain⟨nb,nc,kv,hnv,hkv,hown,nlt,hx3,c0,x0,x1,x2,x3,x4⟩:=M0.o.node hx;dsimp only at hown x0 x1 x2 x3 x4;have hx4:(G.ns.length:Int)<=300:=by have:=h.geo.few;omega
 have glt:=h.jK;have gn:¬G.g=w.heap.size:=by omega
 have nn:¬nb=w.heap.size:=by omega
 obtain⟨KA,KC,rfl,_,_⟩:=hown.cap;clear h hx hkv hown;go_enter func194,ntmps194;go_wp2
 go_ret;exact⟨1,rfl,M0.o.no ((fR w).alloc _),FrK.no ((fR w).alloc _),λq hq=>by injection hq with hq;subst hq;rfl⟩
theorem aFc (h:Ck G w s zs k 0 0) (hx:G.ns[x]?=some ⟨4,line,0,nm,[]⟩):
  Calls prog 194 #[(G.g,()),x] w (iT G zs k (bB G.fs ex x ⟨4,line,0,nm,[]⟩ s) w):=by
 have M0:Hd (CkM G w (.good s) zs k):=h;obtain⟨nb,nc,kv,hnv,hkv,hown,nlt,hx3,c0,x0,x1,x2,x3,x4⟩:=M0.o.node hx;dsimp only at hown x0 x1 x2 x3 x4;have hx4:(G.ns.length:Int)<=300:=by have:=h.geo.few;omega
 have glt:=h.jK;have gn:¬G.g=w.heap.size:=by omega
 have nn:¬nb=w.heap.size:=by omega
 obtain⟨KA,KC,rfl,_,_⟩:=hown.cap;have HX:=hD hx;have hS:=hD h;clear h hx hkv hown;go_enter func194,ntmps194;go_wp2_with fail
 refine (mK (hS.o.no ((fR w).alloc _)) HX).mono ?_;rintro en w2 ⟨t,rfl,h2,f2,hq⟩;have M2:=hD h2;have F2:=hD ((FrK.no ((fR w).alloc _)).trans f2);have HQ:=hD hq;clear h2 f2 hq;go_wp2
 go_ret;exact⟨t,rfl,M2,F2,HQ⟩
theorem aFg (h:Ck G w s zs k 0 0) (hx:G.ns[x]?=some ⟨6,line,0,[],[a]⟩) (ha:iF G zs k ex a):
  Calls prog 194 #[(G.g,()),x] w (iT G zs k (bB G.fs ex x ⟨6,line,0,[],[a]⟩ s) w):=by
 have M0:Hd (CkM G w (.good s) zs k):=h;obtain⟨nb,nc,kv,hnv,hkv,hown,nlt,hx3,c0,x0,x1,x2,x3,x4⟩:=M0.o.node hx;dsimp only at hown x0 x1 x2 x3 x4;have hx4:(G.ns.length:Int)<=300:=by have:=h.geo.few;omega
 have glt:=h.jK;have gn:¬G.g=w.heap.size:=by omega
 have nn:¬nb=w.heap.size:=by omega
 obtain⟨kb,kc,rfl,hkc,hcell⟩:=dL hown (by simp);have hkc2:1<=kc:=by simp at hkc;omega
 have k0:=hcell 0 _ rfl;have klt:kb<w.heap.size:=World.block_lt_of_cell? _ _ k0;have kn:¬kb=w.heap.size:=by omega
 have HA:=hD ha;clear h hx hkv hown hcell ha hkc;rw[show bB G.fs ex x ⟨6,line,0,[],[a]⟩ s=(ex a s).bind λr=>if r.1=3∨r.1=4 then CkR.good (1,r.2) else .bad 42 x from rfl];go_enter func194,ntmps194;go_wp2_with fail
 have C1:=hD (CkC.new M0 50 #[U6,line,U0,bs [],(kb,1,kc)] (by decide));have F1:Hd (FrK G w (w.alloc (.cells #[U6,line,U0,bs [],(kb,1,kc)] 50))):=FrK.no ((fR w).alloc _);generalize w.alloc (.cells #[U6,line,U0,bs [],(kb,1,kc)] 50)=w1 at *;generalize w.heap.size=C at *;clear c0 x0 x1 x2 x3 x4 glt gn nlt nn k0 klt kn;refine (HA w1 _ C1.o.m).mono ?_;rintro en w2 ⟨t,rfl,h2,f2,hq⟩;have C2:=hD (C1.o.to h2 f2);have F2:=hD (F1.o.trans f2);have HQ:=hD hq;clear h2 f2 hq;have d0:w2.cell? (C,0)=U6:=by simpa using C2.o.b.cell 0
 obtain⟨b3,hb3⟩:∃b,((t:Int)==3)=b:=⟨_,rfl⟩;obtain⟨b4,hb4⟩:∃b,((t:Int)==4)=b:=⟨_,rfl⟩;have hP:∀q,ex a s = .good q->(b3 || b4)=decide (q.1=3∨q.1=4):=by
  intro q hq;rw[HQ.o q hq,<-hb3,<-hb4];rw[Bool.eq_iff_iff];simp only[Bool.or_eq_true,beq_iff_eq,decide_eq_true_eq];omega
 have HP:=hD hP;clear hP;cases b3<;>cases b4
 all_goals
  go_wp2_with fail
  refine dU (C2.o.m.must _ x) λw3 M3 f3=>?_;have F3:=hD (F2.o.trans f3);clear f3;go_wp2
  go_ret;refine⟨1,rfl,?_,F3,λq hq=>pK (q:=ex a s) (T:=λ_=>1) (P:=λ(n:Nat)=>n=3∨n=4) hq (λ_ _=>rfl)⟩;have h9:=M3.o;have e9:=vF (q:=ex a s) (x:=x) (T:=λ_=>1) (P:=λ(n:Nat)=>n=3∨n=4) (λq hq=>HP.o q hq);rw[show (CkR.good s).bind (ex a)=ex a s from rfl] at h9;simp only[Bool.or_false,Bool.or_true,Bool.false_or,Bool.true_or,Bool.and_true,Bool.and_false,Bool.false_and,Bool.true_and,Bool.false_eq_true,if_true,if_false,eq_self,ite_true,ite_false] at e9 h9;rw[e9] at h9;exact h9
theorem aFf (h:Ck G w s zs k 0 0) (hx:G.ns[x]?=some ⟨7,line,0,[],[a]⟩) (ha:iF G zs k ex a):
  Calls prog 194 #[(G.g,()),x] w (iT G zs k (bB G.fs ex x ⟨7,line,0,[],[a]⟩ s) w):=by
 have M0:Hd (CkM G w (.good s) zs k):=h;obtain⟨nb,nc,kv,hnv,hkv,hown,nlt,hx3,c0,x0,x1,x2,x3,x4⟩:=M0.o.node hx;dsimp only at hown x0 x1 x2 x3 x4;have hx4:(G.ns.length:Int)<=300:=by have:=h.geo.few;omega
 have glt:=h.jK;have gn:¬G.g=w.heap.size:=by omega
 have nn:¬nb=w.heap.size:=by omega
 obtain⟨kb,kc,rfl,hkc,hcell⟩:=dL hown (by simp);have hkc2:1<=kc:=by simp at hkc;omega
 have k0:=hcell 0 _ rfl;have klt:kb<w.heap.size:=World.block_lt_of_cell? _ _ k0;have kn:¬kb=w.heap.size:=by omega
 have HA:=hD ha;clear h hx hkv hown hcell ha hkc;rw[show bB G.fs ex x ⟨7,line,0,[],[a]⟩ s=(ex a s).bind λr=>if r.1=1 then CkR.good (1,r.2) else .bad 42 x from rfl];go_enter func194,ntmps194;go_wp2_with fail
 have C1:=hD (CkC.new M0 50 #[U7,line,U0,bs [],(kb,1,kc)] (by decide));have F1:Hd (FrK G w (w.alloc (.cells #[U7,line,U0,bs [],(kb,1,kc)] 50))):=FrK.no ((fR w).alloc _);generalize w.alloc (.cells #[U7,line,U0,bs [],(kb,1,kc)] 50)=w1 at *;generalize w.heap.size=C at *;clear c0 x0 x1 x2 x3 x4 glt gn nlt nn k0 klt kn;refine (HA w1 _ C1.o.m).mono ?_;rintro en w2 ⟨t,rfl,h2,f2,hq⟩;have C2:=hD (C1.o.to h2 f2);have F2:=hD (F1.o.trans f2);have HQ:=hD hq;clear h2 f2 hq;have d0:w2.cell? (C,0)=U7:=by simpa using C2.o.b.cell 0
 obtain⟨b1,hb1⟩:∃b,((t:Int)==1)=b:=⟨_,rfl⟩;have hP:∀q,ex a s = .good q->(b1)=decide (q.1=1):=by
  intro q hq;rw[HQ.o q hq,<-hb1];rw[Bool.eq_iff_iff];simp only[Bool.or_eq_true,beq_iff_eq,decide_eq_true_eq];omega
 have HP:=hD hP;clear hP;cases b1
 all_goals
  go_wp2_with fail
  refine dU (C2.o.m.must _ x) λw3 M3 f3=>?_;have F3:=hD (F2.o.trans f3);clear f3;go_wp2
  go_ret;refine⟨1,rfl,?_,F3,λq hq=>pK (q:=ex a s) (T:=λ_=>1) (P:=λ(n:Nat)=>n=1) hq (λ_ _=>rfl)⟩;have h9:=M3.o;have e9:=vF (q:=ex a s) (x:=x) (T:=λ_=>1) (P:=λ(n:Nat)=>n=1) (λq hq=>HP.o q hq);rw[show (CkR.good s).bind (ex a)=ex a s from rfl] at h9;simp only[Bool.or_false,Bool.or_true,Bool.false_or,Bool.true_or,Bool.and_true,Bool.and_false,Bool.false_and,Bool.true_and,Bool.false_eq_true,if_true,if_false,eq_self,ite_true,ite_false] at e9 h9;rw[e9] at h9;exact h9
theorem aFd (h:Ck G w s zs k 0 0) (hx:G.ns[x]?=some ⟨8,line,0,[],[a]⟩) (ha:iF G zs k ex a):
  Calls prog 194 #[(G.g,()),x] w (iT G zs k (bB G.fs ex x ⟨8,line,0,[],[a]⟩ s) w):=by
 have M0:Hd (CkM G w (.good s) zs k):=h;obtain⟨nb,nc,kv,hnv,hkv,hown,nlt,hx3,c0,x0,x1,x2,x3,x4⟩:=M0.o.node hx;dsimp only at hown x0 x1 x2 x3 x4;have hx4:(G.ns.length:Int)<=300:=by have:=h.geo.few;omega
 have glt:=h.jK;have gn:¬G.g=w.heap.size:=by omega
 have nn:¬nb=w.heap.size:=by omega
 obtain⟨kb,kc,rfl,hkc,hcell⟩:=dL hown (by simp);have hkc2:1<=kc:=by simp at hkc;omega
 have k0:=hcell 0 _ rfl;have klt:kb<w.heap.size:=World.block_lt_of_cell? _ _ k0;have kn:¬kb=w.heap.size:=by omega
 have HA:=hD ha;clear h hx hkv hown hcell ha hkc;rw[show bB G.fs ex x ⟨8,line,0,[],[a]⟩ s=(ex a s).bind λr=>if r.1=2 then CkR.good (2,r.2) else .bad 42 x from rfl];go_enter func194,ntmps194;go_wp2_with fail
 have C1:=hD (CkC.new M0 50 #[U8,line,U0,bs [],(kb,1,kc)] (by decide));have F1:Hd (FrK G w (w.alloc (.cells #[U8,line,U0,bs [],(kb,1,kc)] 50))):=FrK.no ((fR w).alloc _);generalize w.alloc (.cells #[U8,line,U0,bs [],(kb,1,kc)] 50)=w1 at *;generalize w.heap.size=C at *;clear c0 x0 x1 x2 x3 x4 glt gn nlt nn k0 klt kn;refine (HA w1 _ C1.o.m).mono ?_;rintro en w2 ⟨t,rfl,h2,f2,hq⟩;have C2:=hD (C1.o.to h2 f2);have F2:=hD (F1.o.trans f2);have HQ:=hD hq;clear h2 f2 hq;have d0:w2.cell? (C,0)=U8:=by simpa using C2.o.b.cell 0
 obtain⟨b2,hb2⟩:∃b,((t:Int)==2)=b:=⟨_,rfl⟩;have hP:∀q,ex a s = .good q->(b2)=decide (q.1=2):=by
  intro q hq;rw[HQ.o q hq,<-hb2];rw[Bool.eq_iff_iff];simp only[Bool.or_eq_true,beq_iff_eq,decide_eq_true_eq];omega
 have HP:=hD hP;clear hP;cases b2
 all_goals
  go_wp2_with fail
  refine dU (C2.o.m.must _ x) λw3 M3 f3=>?_;have F3:=hD (F2.o.trans f3);clear f3;go_wp2
  go_ret;refine⟨2,rfl,?_,F3,λq hq=>pK (q:=ex a s) (T:=λ_=>2) (P:=λ(n:Nat)=>n=2) hq (λ_ _=>rfl)⟩;have h9:=M3.o;have e9:=vF (q:=ex a s) (x:=x) (T:=λ_=>2) (P:=λ(n:Nat)=>n=2) (λq hq=>HP.o q hq);rw[show (CkR.good s).bind (ex a)=ex a s from rfl] at h9;simp only[Bool.or_false,Bool.or_true,Bool.false_or,Bool.true_or,Bool.and_true,Bool.and_false,Bool.false_and,Bool.true_and,Bool.false_eq_true,if_true,if_false,eq_self,ite_true,ite_false] at e9 h9;rw[e9] at h9;exact h9
theorem aFe (h:Ck G w s zs k 0 0) (hx:G.ns[x]?=some ⟨20,line,0,[],[a]⟩) (ha:iF G zs k ex a):
  Calls prog 194 #[(G.g,()),x] w (iT G zs k (bB G.fs ex x ⟨20,line,0,[],[a]⟩ s) w):=by
 have M0:Hd (CkM G w (.good s) zs k):=h;obtain⟨nb,nc,kv,hnv,hkv,hown,nlt,hx3,c0,x0,x1,x2,x3,x4⟩:=M0.o.node hx;dsimp only at hown x0 x1 x2 x3 x4;have hx4:(G.ns.length:Int)<=300:=by have:=h.geo.few;omega
 have glt:=h.jK;have gn:¬G.g=w.heap.size:=by omega
 have nn:¬nb=w.heap.size:=by omega
 obtain⟨kb,kc,rfl,hkc,hcell⟩:=dL hown (by simp);have hkc2:1<=kc:=by simp at hkc;omega
 have k0:=hcell 0 _ rfl;have klt:kb<w.heap.size:=World.block_lt_of_cell? _ _ k0;have kn:¬kb=w.heap.size:=by omega
 have HA:=hD ha;clear h hx hkv hown hcell ha hkc;rw[show bB G.fs ex x ⟨20,line,0,[],[a]⟩ s=(ex a s).bind λr=>if r.1=1 then CkR.good (4,r.2) else .bad 42 x from rfl];go_enter func194,ntmps194;go_wp2_with fail
 have C1:=hD (CkC.new M0 50 #[(20:Int),line,U0,bs [],(kb,1,kc)] (by decide));have F1:Hd (FrK G w (w.alloc (.cells #[(20:Int),line,U0,bs [],(kb,1,kc)] 50))):=FrK.no ((fR w).alloc _);generalize w.alloc (.cells #[(20:Int),line,U0,bs [],(kb,1,kc)] 50)=w1 at *;generalize w.heap.size=C at *;clear c0 x0 x1 x2 x3 x4 glt gn nlt nn k0 klt kn;refine (HA w1 _ C1.o.m).mono ?_;rintro en w2 ⟨t,rfl,h2,f2,hq⟩;have C2:=hD (C1.o.to h2 f2);have F2:=hD (F1.o.trans f2);have HQ:=hD hq;clear h2 f2 hq;have d0:w2.cell? (C,0)=(20:Int):=by simpa using C2.o.b.cell 0
 obtain⟨b1,hb1⟩:∃b,((t:Int)==1)=b:=⟨_,rfl⟩;have hP:∀q,ex a s = .good q->(b1)=decide (q.1=1):=by
  intro q hq;rw[HQ.o q hq,<-hb1];rw[Bool.eq_iff_iff];simp only[Bool.or_eq_true,beq_iff_eq,decide_eq_true_eq];omega
 have HP:=hD hP;clear hP;cases b1
 all_goals
  go_wp2_with fail
  refine dU (C2.o.m.must _ x) λw3 M3 f3=>?_;have F3:=hD (F2.o.trans f3);clear f3;go_wp2
  go_ret;refine⟨4,rfl,?_,F3,λq hq=>pK (q:=ex a s) (T:=λ_=>4) (P:=λ(n:Nat)=>n=1) hq (λ_ _=>rfl)⟩;have h9:=M3.o;have e9:=vF (q:=ex a s) (x:=x) (T:=λ_=>4) (P:=λ(n:Nat)=>n=1) (λq hq=>HP.o q hq);rw[show (CkR.good s).bind (ex a)=ex a s from rfl] at h9;simp only[Bool.or_false,Bool.or_true,Bool.false_or,Bool.true_or,Bool.and_true,Bool.and_false,Bool.false_and,Bool.true_and,Bool.false_eq_true,if_true,if_false,eq_self,ite_true,ite_false] at e9 h9;rw[e9] at h9;exact h9
theorem yT (h:Ck G w s zs k 0 0) (hx:G.ns[x]?=some ⟨5,line,0,nm,[a]⟩) (ha:iF G zs k ex a):
  Calls prog 194 #[(G.g,()),x] w (iT G zs k (bB G.fs ex x ⟨5,line,0,nm,[a]⟩ s) w):=by
 have M0:Hd (CkM G w (.good s) zs k):=h;obtain⟨nb,nc,kv,hnv,hkv,hown,nlt,hx3,c0,x0,x1,x2,x3,x4⟩:=M0.o.node hx;dsimp only at hown x0 x1 x2 x3 x4;have hx4:(G.ns.length:Int)<=300:=by have:=h.geo.few;omega
 have glt:=h.jK;have gn:¬G.g=w.heap.size:=by omega
 have nn:¬nb=w.heap.size:=by omega
 obtain⟨kb,kc,rfl,hkc,hcell⟩:=dL hown (by simp);have hkc2:1<=kc:=by simp at hkc;omega
 have k0:=hcell 0 _ rfl;have klt:kb<w.heap.size:=World.block_lt_of_cell? _ _ k0;have kn:¬kb=w.heap.size:=by omega
 have HK:=hD (And.intro hx hkv);have HA:=hD ha;have hS:=hD h;clear h hx hkv hown hcell ha hkc;go_enter func194,ntmps194;go_wp2_with fail
 have S1:Hd (Ck G (w.alloc (.cells #[U5,line,U0,bs nm,(kb,1,kc)] 50)) s zs k 0 0):=hS.o.no ((fR w).alloc _);have C1:=hD (CkC.new M0 50 #[U5,line,U0,bs nm,(kb,1,kc)] (by decide));have F1:Hd (FrK G w (w.alloc (.cells #[U5,line,U0,bs nm,(kb,1,kc)] 50))):=FrK.no ((fR w).alloc _);generalize w.alloc (.cells #[U5,line,U0,bs nm,(kb,1,kc)] 50)=w1 at *;generalize w.heap.size=C at *;clear c0 x0 x1 x2 x3 x4 glt gn nlt nn k0 klt kn;refine (mK S1 HK.o.1).mono ?_;rintro en w2 ⟨t,rfl,h2,f2,hq⟩;have C2:=hD (C1.o.to h2 f2);have F2:=hD (F1.o.trans f2);have HQ:=hD hq;clear h2 f2 hq;have d4:w2.cell? (C,4)=(kb,1,kc):=by simpa using C2.o.b.cell 4
 have k0:=C2.o.m.kid HK.o.1 HK.o.2 (j:=0) (a:=a) rfl;go_wp2_with fail
 refine (HA w2 _ C2.o.m).mono ?_;rintro en w3 ⟨u,rfl,h3,f3,hq⟩;have C3:=hD (C2.o.to h3 f3);have F3:=hD (F2.o.trans f3);have HU:=hD hq;clear h3 f3 hq d4 k0;obtain⟨b4,hb4⟩:∃b,((t:Int)==4)=b:=⟨_,rfl⟩;obtain⟨b1,hb1⟩:∃b,((u:Int)==1)=b:=⟨_,rfl⟩;have E:=hD (show bB G.fs ex x ⟨5,line,0,nm,[a]⟩ s=((aU x nm s).bind λt=>(ex a t.2).map λr=>((t.1,r.1),r.2)).bind λr=>if r.1.1=4∧r.1.2=1 then CkR.good (1,r.2) else .bad 42 x from by
  show ((aU x nm s).bind λt=>(ex a t.2).bind λr=>if t.1=4∧r.1=1 then CkR.good (1,r.2) else .bad 42 x)=_
  cases aU x nm s with
  | bad e p=>rfl
  | good q=>
    simp only[CkR.aC];cases ex a q.2<;>rfl)
 have E2:=hD (show (((aU x nm s).map (·.2)).bind (ex a)).map (·.2)=((aU x nm s).bind λt=>(ex a t.2).map λr=>((t.1,r.1),r.2)).map (·.2) from by
  cases aU x nm s with
  | bad e p=>rfl
  | good q=>
    simp only[CkR.aC,CkR.bO];cases ex a q.2<;>rfl)
 have HP:=hD (show ∀q,((aU x nm s).bind λt=>(ex a t.2).map λr=>((t.1,r.1),r.2)) = .good q->(b4 && b1)=decide (q.1.1=4∧q.1.2=1) from by
  intro q hq;obtain⟨c,hc,hq⟩:=CkR.bind_eq hq;obtain⟨d,hd,hq⟩:=CkR.map_eq hq;subst hq;have h1:=HQ.o c hc;have h2:=HU.o d (by rw[hc];exact hd)
  show _=decide (c.1=4∧d.1=1)
  rw[h1,h2,<-hb4,<-hb1,Bool.eq_iff_iff];simp only[Bool.and_eq_true,beq_iff_eq,decide_eq_true_eq];omega)
 cases b4<;>cases b1
 all_goals
  go_wp2_with fail
  refine dU (C3.o.m.must _ x) λw4 M4 f4=>?_;have F4:=hD (F3.o.trans f4);clear f4;go_wp2
  go_ret;refine⟨1,rfl,?_,F4,λq hq=>?_⟩
  . have h9:=M4.o
    have e9:=vF (x:=x) (T:=λ_=>1) (P:=λ(n:Nat×Nat)=>n.1=4∧n.2=1) (λq hq=>HP.o q hq);rw[E2.o] at h9;simp only[Bool.or_false,Bool.or_true,Bool.false_or,Bool.true_or,Bool.and_true,Bool.and_false,Bool.false_and,Bool.true_and,Bool.false_eq_true,if_true,if_false,eq_self,ite_true,ite_false] at e9 h9;rw[e9] at h9;rw[E.o];exact h9
  . rw[E.o] at hq
    exact pK (T:=λ_=>1) (P:=λ(n:Nat×Nat)=>n.1=4∧n.2=1) hq (λ_ _=>rfl)
theorem aFi {b:Nat} (h:Ck G w s zs k 0 0) (hx:G.ns[x]?=some ⟨9,line,0,nm,[a,b]⟩) (hs:nm∈jO) (ha:iF G zs k ex a) (hb:iF G zs k ex b):
   Calls prog 194 #[(G.g,()),x] w (iT G zs k (bB G.fs ex x ⟨9,line,0,nm,[a,b]⟩ s) w):=by
 have M0:Hd (CkM G w (.good s) zs k):=h;obtain⟨nb,nc,kv,hnv,hkv,hown,nlt,hx3,c0,x0,x1,x2,x3,x4⟩:=M0.o.node hx;dsimp only at hown x0 x1 x2 x3 x4;have hx4:(G.ns.length:Int)<=300:=by have:=h.geo.few;omega
 have glt:=h.jK;have gn:¬G.g=w.heap.size:=by omega
 have nn:¬nb=w.heap.size:=by omega
 obtain⟨kb,kc,rfl,hkc,hcell⟩:=dL hown (by simp);have hkc2:2<=kc:=by simp at hkc;omega
 have k0:=hcell 0 _ rfl;have k1:=hcell 1 _ rfl;have klt:kb<w.heap.size:=World.block_lt_of_cell? _ _ k0;have kn:¬kb=w.heap.size:=by omega
 have HK:=hD (And.intro hx hkv);have HA:=hD ha;have HB:=hD hb;have HS:=hD hs;clear h hx hkv hown hcell ha hb hs hkc;go_enter func194,ntmps194;go_wp2_with fail
 have C1:=hD (CkC.new M0 50 #[U9,line,U0,bs nm,(kb,2,kc)] (by decide));have F1:Hd (FrK G w (w.alloc (.cells #[U9,line,U0,bs nm,(kb,2,kc)] 50))):=FrK.no ((fR w).alloc _);generalize w.alloc (.cells #[U9,line,U0,bs nm,(kb,2,kc)] 50)=w1 at *;generalize w.heap.size=C at *;clear c0 x0 x1 x2 x3 x4 glt gn nlt nn k0 k1 klt kn;refine (HA w1 _ C1.o.m).mono ?_;rintro en w2 ⟨t,rfl,h2,f2,hq⟩;have C2:=hD (C1.o.to h2 f2);have F2:=hD (F1.o.trans f2);have HQ:=hD hq;clear h2 f2 hq;have d4:w2.cell? (C,4)=(kb,2,kc):=by simpa using C2.o.b.cell 4
 have k1:=C2.o.m.kid HK.o.1 HK.o.2 (j:=1) (a:=b) rfl;go_wp2_with fail
 refine (HB w2 _ C2.o.m).mono ?_;rintro en w3 ⟨u,rfl,h3,f3,hq⟩;have C3:=hD (C2.o.to h3 f3);have F3:=hD (F2.o.trans f3);have HU:=hD hq;clear h3 f3 hq d4 k1;have d3:w3.cell? (C,3)=(bs nm):=by simpa using C3.o.b.cell 3
 go_wp2_with fail
 refine stepM (aNq HS t u w3) λw4 hf=>?_;have C4:=hD (C3.o.no hf);have F4:=hD (F3.o.trans (FrK.no hf));clear hf d3;have E:=hD (show bB G.fs ex x ⟨9,line,0,nm,[a,b]⟩ s=((ex a s).bind λt=>(ex b t.2).map λr=>((t.1,r.1),r.2)).bind λr=>if bL nm r.1.1 r.1.2≠0 then CkR.good (bL nm r.1.1 r.1.2,r.2) else .bad 42 x from by
   show ((ex a s).bind λt=>(ex b t.2).bind λr=>if bL nm t.1 r.1=0 then CkR.bad 42 x else .good (bL nm t.1 r.1,r.2))=_
   cases ex a s with
   | bad e p=>rfl
   | good q=>
    simp only[CkR.aC];cases ex b q.2 with
    | bad e p=>rfl
    | good u=>
     simp only[CkR.aC,CkR.bO];by_cases hz:bL nm q.1 u.1=0
     . rw[if_pos hz,if_neg (by simpa using hz)]
     . rw[if_neg hz,if_pos hz])
 have E2:=hD (show ((((CkR.good s).bind (ex a)).map (·.2)).bind (ex b)).map (·.2)=((ex a s).bind λt=>(ex b t.2).map λr=>((t.1,r.1),r.2)).map (·.2) from by
   rw[CkR.aC];cases ex a s with
   | bad e p=>rfl
   | good q=>
    simp only[CkR.aC,CkR.bO];cases ex b q.2<;>rfl)
 generalize hN:bL nm t u=N at *;obtain⟨b0,hb0⟩:∃b,((N:Int) != 0)=b:=⟨_,rfl⟩;have HV:=hD (show ∀q,((ex a s).bind λt=>(ex b t.2).map λr=>((t.1,r.1),r.2)) = .good q->bL nm q.1.1 q.1.2=N from by
   intro q hq;obtain⟨c,hc,hq⟩:=CkR.bind_eq hq;obtain⟨d,hd,hq⟩:=CkR.map_eq hq;subst hq;have h1:=HQ.o c hc;have h2:=HU.o d (by rw[CkR.aC,hc];exact hd)
   show bL nm c.1 d.1=N
   rw[h1,h2,hN])
 have HP:=hD (show ∀q,((ex a s).bind λt=>(ex b t.2).map λr=>((t.1,r.1),r.2)) = .good q->b0=decide (bL nm q.1.1 q.1.2≠0) from by
   intro q hq;rw[HV.o q hq,<-hb0,Bool.eq_iff_iff];simp only[bne_iff_ne,decide_eq_true_eq];omega)
 clear hN;go_wp2_with fail
 refine dU (C4.o.m.must _ x) λw5 M5 f5=>?_;have F5:=hD (F4.o.trans f5);clear f5;go_wp2
 go_ret;refine⟨N,rfl,?_,F5,λq hq=>?_⟩
 . have h9:=M5.o
   rw[E2.o,vF (T:=λn=>bL nm n.1 n.2) (P:=λ(n:Nat×Nat)=>bL nm n.1 n.2≠0) (λq hq=>HP.o q hq)] at h9;rw[E.o];exact h9
 . rw[E.o] at hq
   exact pK (T:=λn=>bL nm n.1 n.2) (P:=λ(n:Nat×Nat)=>bL nm n.1 n.2≠0) hq (λq hq=>HV.o q hq)
end
def KpK (G:Geo) (Q:World->Prop):Prop:=∀w w',FrK G w w'->Q w->Q w'
theorem aOi {C:Nat} (n0:C≠G.g) (n1:C≠G.bt) (n2:C≠G.bs) (n3:C≠G.bf) (nv:t≠62):KpK G (λw=>Blk w C t cs):=λw w' f h=>f.far h n0 n1 n2 n3 nv
theorem aJd (hg:gN G){size:Nat}{xs:List Value} (nv:t≠62) (hz:∀b,blk v=some b->G.Z<=b):KpK G (λw=>Own w t size v n xs):=λw w' f h=>
 f.own h nv λb hb=>by
  have:=hz b hb;have:=hg.lg;have:=hg.lt;have:=hg.ls;have:=hg.lf;exact⟨by omega,by omega,by omega,by omega⟩
theorem aQy {P Q:World->Prop} (h:KpK G P) (h':KpK G Q):KpK G (λw=>P w∧Q w):=λw w' f ⟨a,b⟩=>⟨h w w' f a,h' w w' f b⟩
structure CkW (G:Geo) (Q:World->Prop) (w:World) (r:CkR CkS) (zs:List Nat) (k:Nat):Prop where
 m:CkM G w r zs k
 q:Q w
 kp:KpK G Q
section
variable {G:Geo}{Q:World->Prop}{w w':World}{s:CkS}{r r':CkR CkS}{zs:List Nat}{k:Nat}
theorem CkW.to (h:CkW G Q w r zs k) (h':CkM G w' r' zs k) (f:FrK G w w'):CkW G Q w' r' zs k:=⟨h',h.kp _ _ f h.q,h.kp⟩
theorem CkW.no (h:CkW G Q w r zs k) (f:Fr nob w w'):CkW G Q w' r zs k:=⟨h.m.no f,h.kp _ _ (FrK.no f) h.q,h.kp⟩
theorem CkM.Zle (h:CkM G w r zs k):G.Z<=w.heap.size:=by
 obtain⟨s,e,p,h,_⟩:=h.open_;exact h.zle
theorem aQx (h:CkM G w r zs k){C:Nat} (hC:w.heap.size<=C){t:TypeId} (nv:t≠62):KpK G (λw=>Blk w C t cs):=by
 obtain⟨h1,h2,h3,h4⟩:=h.zU;exact aOi (by omega) (by omega) (by omega) (by omega) nv
theorem FrK.app {w0 w w':World} (f:FrK G w0 w) (f':Fr (obl (blk v)) w w') (hv:∀b,blk v=some b->w0.heap.size<=b):FrK G w0 w':=
 Fr.trans f f' (λ_ _ x=>x) (λb hb hm=>absurd hb (by have:=hv b hm;omega))
theorem CkM.app {size:Nat}{xs:List Value} (h:CkM G w r zs k) (ho:Own w t size v n xs) (nv:t≠62) (hz:∀b,blk v=some b->G.Z<=b) (f:Fr (obl (blk v)) w w'):CkM G w' r zs k:=
 h.other f λb hm _=>⟨hz b hm,aPk ho nv hm⟩
theorem CkM.aOj (h:CkM G w r zs k) (hx:G.ns[x]?=some nd){A:Option Addr} (hlv:G.lvs[x]?=some (.slice A n c)) (ha:nd.l[j]?=some a):∃kb,A=some ⟨kb,0,none⟩∧w.cell? ⟨kb,j,none⟩=some (.int .i64 (a:Nat))∧n=nd.l.length∧n<=c:=by
 have ho:Own w 3 1 (.slice A n c) nd.l.length (ints nd.l):=h.tree.tree.below.get hx hlv;obtain⟨kb',c',e,hc',hc⟩:=dL ho (by have:=(gK ha);omega);injection e with e e2 e3;exact⟨kb',e,hc j a ha,e2,by omega⟩
theorem CkM.aOf (h:CkM G w r zs k) (hf:G.fs[j]?=some f){A:Option Addr} (hpv:G.pvs[j]?=some (.slice A n c)){i:Nat}{q:List UInt8×Nat} (hq:f.params[i]?=some q):∃pb,A=some ⟨pb,0,none⟩∧w.cell? ⟨pb,i*2,none⟩=some (.string (bs q.1))∧w.cell? ⟨pb,i*2+1,none⟩=some (.int .i64 (q.2:Nat)):=by
 have ho:Own w 101 2 (.slice A n c) f.params.length (aN f.params):=h.tree.tree.pars.get hf hpv;have h0:0<f.params.length:=by have:=(gK hq);omega
 have hn:=ho.oH.2.2;subst hn;obtain⟨pb,e,hc⟩:=ho.some h0;exact⟨pb,e,hc _ _ (aP hq).1,hc _ _ (aP hq).2⟩
theorem CkM.three (h:CkM G w r zs k) (hf:G.fs[j]?=some f){pb:Nat} (hpv:G.pvs[j]?=(pb,n,c)){i:Nat}{q:List UInt8×Nat} (hq:f.params[i]?=some q){D:Nat} (hD9:Blk w D t cs){u:Value} (hc:cs[2]?=some u)
  {tb m c':Nat} {tl:List Nat} (ho:Own w 3 1 (tb,m,c') m (ints tl)) {ti:Nat} (ht:tl[i]?=some ti):w.cell? (D,2)=some u∧w.cell? (tb,i)=ti∧w.cell? (pb,i*2+1)=q.2:=by
 obtain⟨pb',e,-,p1⟩:=h.aOf hf hpv hq;injection e with e;injection e with e;subst e;have hl:(ints tl).length=m*1:=ho.len;have hi:=(gK ht);obtain⟨tb',e,hcc⟩:=ho.some (by simp[ints] at hl;omega);injection e with e;injection e with e;subst e;exact⟨(hD9.cell 2).trans hc,hcc i ti (by simp[ints,ht]),p1⟩
theorem CkM.fnc (h:CkM G w r zs k) (hf:G.fs[j]?=some f):∃fb fc pv,G.fv = .slice (some (fb,())) G.fs.length fc∧fb<w.heap.size∧w.cell? (G.g,1)=(fb,G.fs.length,fc) ∧
  G.pvs[j]?=some pv∧Own w 101 2 pv f.params.length (aN f.params) ∧
  w.cell? (fb,j*5)=(bs f.name)∧w.cell? (fb,j*5+1)=f.line∧w.cell? (fb,j*5+2)=some pv∧w.cell? (fb,j*5+3)=f.ret∧w.cell? (fb,j*5+4)=f.body:=by
 have hlt:=(gK hf);have htr:=h.tree.tree;obtain⟨s,e,p,h0,_⟩:=h.open_;obtain⟨zv,vv,_,c1,_⟩:=h0.cells;obtain⟨A,c,e,hc,_⟩:=htr.fns.cap;have hno:=htr.fns;rw[e] at hno;obtain⟨fb,e2,hcell⟩:=hno.some (by omega);subst e2;obtain⟨pv,hpv⟩:∃pv,G.pvs[j]?=some pv:=⟨_,gE (by have:=htr.samef;omega)⟩;have key:=dI hf hpv;exact⟨fb,c,pv,e,hno.aZ (by simp[blk];omega),by rw[<-e];exact c1,hpv,htr.pars.get hf hpv,hcell _ _ (key 0 _ rfl),hcell _ _ (key 1 _ rfl),hcell _ _ (key 2 _ rfl),hcell _ _ (key 3 _ rfl),hcell _ _ (key 4 _ rfl)⟩
end
section
variable {G:Geo}{w w':World}{s:CkS}{zs:List Nat}{k:Nat}{ex:Nat->CkS->CkR (Nat×CkS)}
theorem aKe (hu:(G.fs.map (·.name)).Nodup){l:List Nat} (h:Ck G w s zs k 0 0) (hx:G.ns[x]?=some ⟨21,line,0,nm,l⟩) (hl:∀a∈l,iF G zs k ex a):
  Calls prog 211 #[(G.g,()),x] w (iT G zs k (kV G.fs ex x ⟨21,line,0,nm,l⟩ s) w):=by
 have M0:Hd (CkM G w (.good s) zs k):=h;obtain⟨nb,nc,kv,hnv,hkv,hown,nlt,hx3,c0,x0,x1,x2,x3,x4⟩:=M0.o.node hx;dsimp only at hown x0 x1 x2 x3 x4;have hx4:(G.ns.length:Int)<=300:=by have:=h.geo.few;omega
 have glt:=h.jK;have gn:¬G.g=w.heap.size:=by omega
 have nn:¬nb=w.heap.size:=by omega
 obtain⟨KA,KC,rfl,-,-⟩:=hown.cap;have HK:=hD (And.intro hx hkv);have hl3:l.length<=300:=h.geo.fewk _ (List.mem_of_getElem? hx);have hf6:(G.fs.length:Int)<=6:=by have:=h.geo.fewf;omega
 have hf0:0<G.fs.length:=by have:=h.kk;omega
 obtain⟨f0,hf0⟩:∃f,G.fs[0]?=some f:=⟨_,gE hf0⟩;have HL:=hD hl;have HU:=hD hu;obtain⟨fb,fc,pv0,hfv,flt,c1,-⟩:=M0.o.fnc hf0;have HFV:=hD hfv;have C1:=hD (CkC.new M0 50 #[(21:Int),line,U0,bs nm,.slice KA l.length KC] (by decide));have F1:Hd (Fr nob w (w.alloc (.cells #[(21:Int),line,U0,bs nm,.slice KA l.length KC] 50))):=(fR w).alloc _;have HF0:=hD hf0;clear h hx hkv hown hl hu hf0 hfv;go_enter func211,ntmps211;go_wp2_with fail
 clear c0 x0 x1 x2 x3 x4 glt gn nlt nn c1 flt;generalize w.alloc (.cells #[(21:Int),line,U0,bs nm,.slice KA l.length KC] 50)=w1 at *;generalize hC:w.heap.size=C at *;have HC:=hD hC;clear hC;go_loopw [6,7] (λq i wr=>∃j:Nat,j<=G.fs.length∧i = .int .i64 j∧q = .int .i64 (aCa (findF (G.fs.take j) nm))∧Hd (Fr nob w1 wr)) (λq i _=>G.fs.length - (intOf i).toNat)
 case atStart=>exact⟨0,aA4 _,rfl,rfl,hD (fR w1)⟩
 case round=>
  obtain⟨j,hj,rfl,rfl,FR⟩:=hrel;have C2:=hD (C1.o.no FR);by_cases hlt:j<G.fs.length
  . have hlt2:(j:Int)<(G.fs.length:Int):=by omega
    have hj6:(j:Int)<=6:=by omega
    obtain⟨f,hf⟩:∃f,G.fs[j]?=some f:=⟨_,gE hlt⟩;obtain⟨fb',fc',pv,hfv,flt,c1,-,-,y0,-⟩:=C2.o.m.fnc hf;have d3:wr.cell? (C,3)=(bs nm):=by simpa using C2.o.b.cell 3
    have HT:=hD (aFb HU hf nm);clear hf hfv;by_cases he:f.name=nm
    . have q0:((bs f.name).toList==(bs nm).toList)=true:=aBg.2 he
      rw[if_pos he] at HT;clear he;go_wp2_with fail
      go_quiet (fail)
      go_wp2
      go_roundw
      case rel=>exact⟨j+1,by omega,by go_num,by rw[HT.o];rfl,hD (by first|exact FR.o|exact FR.o.drewN _)⟩
      case measure=>simp[intOf];omega
    . have q0:((bs f.name).toList==(bs nm).toList)=false:=by
        rw[Bool.eq_false_iff];intro x;exact he (aBg.1 x)
      rw[if_neg he] at HT;clear he;go_wp2_with fail
      go_quiet (fail)
      go_wp2
      go_roundw
      case rel=>exact⟨j+1,by omega,by go_num,by rw[HT.o],hD (by first|exact FR.o|exact FR.o.drewN _)⟩
      case measure=>simp[intOf];omega
  . have hle:(G.fs.length:Int)<=(j:Int):=by omega
    rw[aA5 (by omega)];obtain⟨_,_,_,hfv,flt,c1,-⟩:=C2.o.m.fnc HF0.o;rw[HFV.o] at hfv;injection hfv with e1 e2 e3;injection e1 with e1;injection e1 with e1;subst e1;subst e3;cases hF:findF G.fs nm with
    | none=>
      have E:=hD (show kV G.fs ex x ⟨21,line,0,nm,l⟩ s = .bad 40 x from by unfold kV;rw[hF]);clear hF e2;go_wp2_with fail
      refine dU (C2.o.m.fails 40 x (by decide) (by decide)) λw3 M3 F3=>?_;go_wp2
      go_ret;refine⟨0,rfl,?_,(FrK.no (F1.o.tr FR)).trans F3,λq hq=>?_⟩
      . rw[E.o];exact M3.o
      . rw[E.o] at hq;cases hq
    | some q=>
      have hq:q<G.fs.length:=by unfold findF at hF;exact (List.findIdx?_eq_some_iff_getElem.1 hF).1
      obtain⟨f,hf⟩:∃f,G.fs[q]?=some f:=⟨_,gE hq⟩;have E:=hD (show kV G.fs ex x ⟨21,line,0,nm,l⟩ s=(bF ex l s).bind λr=>if r.1.length≠f.params.length then .bad 43 x else if r.1≠f.params.map (·.2) then .bad 42 x else .good (f.ret,r.2) from by
        unfold kV;rw[hF];simp only[hf,Option.map_some,Option.getD_some])
      have hq3:(q:Int)<(G.fs.length:Int):=by omega
      obtain⟨_,_,pv,hfv,-,-,hpv,hpo,y0,y1,y2,y3,y4⟩:=C2.o.m.fnc hf;rw[HFV.o] at hfv;injection hfv with e1 e2 e3;injection e1 with e1;injection e1 with e1;subst e1;obtain⟨PA,PC,rfl,-,-⟩:=hpo.cap;have gn:¬G.g=wr.heap.size:=by have:=C2.o.m.zU;omega
      have fn:¬fb=wr.heap.size:=by omega
      have hq0:¬(q:Int)<0:=by omega
      clear e2 e3 hF;rw[show aCa (some q)=((q:Nat):Int) from rfl];have HQ:=hD (And.intro hf hpv);have hpl:f.params.length<=3:=C2.o.m.geo.fewp f (List.mem_of_getElem? hf);have hpl2:(f.params.length:Int)<=3:=by omega
      have hll2:(l.length:Int)<=300:=by omega
      have hll4:(l.length:Int)<=9223372036854775807:=by omega
      clear hf hpv hpo;have D0:Hd (Blk ((wr.alloc (.cells #[bs f.name,f.line,.slice PA f.params.length PC,f.ret,f.body] 48)).alloc (.cells #[] 3)) wr.heap.size 48 #[bs f.name,f.line,.slice PA f.params.length PC,f.ret,f.body]):=(Blk.new wr _ _).alloc _;have F2:Hd (Fr nob wr ((wr.alloc (.cells #[bs f.name,f.line,.slice PA f.params.length PC,f.ret,f.body] 48)).alloc (.cells #[] 3))):=((fR wr).alloc _).alloc _;have W0:=hD (show CkW G (λw=>Blk w C 50 #[(21:Int),line,U0,bs nm,.slice KA l.length KC]∧Blk w wr.heap.size 48 #[bs f.name,f.line,.slice PA f.params.length PC,f.ret,f.body]) ((wr.alloc (.cells #[bs f.name,f.line,.slice PA f.params.length PC,f.ret,f.body] 48)).alloc (.cells #[] 3)) (.good s) zs k from ⟨C2.o.m.no F2,⟨C2.o.b.fr F2 (λx=>x),D0⟩,aQy (aOi C2.o.n0 C2.o.n1 C2.o.n2 C2.o.n3 (by decide)) (aQx C2.o.m (aA1 _) (by decide))⟩);have O0:Hd (Own ((wr.alloc (.cells #[bs f.name,f.line,.slice PA f.params.length PC,f.ret,f.body] 48)).alloc (.cells #[] 3)) 3 1 (wr.heap.size+1,0,0) 0 (ints [])):=Own.empty _ _ _ _;have FK:Hd (FrK G w ((wr.alloc (.cells #[bs f.name,f.line,.slice PA f.params.length PC,f.ret,f.body] 48)).alloc (.cells #[] 3))):=FrK.no ((F1.o.tr FR).tr F2);have HZ:=hD (show G.Z<=C from by rw[<-HC.o];exact M0.o.Zle);go_wp2_with fail
      clear y0 y1 y2 y3 y4 gn fn flt c1 D0 F2;generalize (wr.alloc (.cells #[bs f.name,f.line,.slice PA f.params.length PC,f.ret,f.body] 48)).alloc (.cells #[] 3)=w3 at *;generalize wr.heap.size=D at *;clear C2 FR C1 F1;go_loopw [9,10] (λtv i wq=>∃(j:Nat) (tl:List Nat) (A:Option Addr) (c:Nat),j<=l.length∧i = .int .i64 j∧tv = .slice A j c∧Hd (CkW G (λw=>Blk w C 50 #[(21:Int),line,U0,bs nm,.slice KA l.length KC]∧Blk w D 48 #[bs f.name,f.line,.slice PA f.params.length PC,f.ret,f.body]) wq ((bF ex (l.take j) s).map (·.2)) zs k)∧Hd (Own wq 3 1 (.slice A j c) j (ints tl))∧Hd (∀b,blk (.slice A j c)=some b->C<=b)∧Hd (∀q,bF ex (l.take j) s = .good q->q.1=tl)∧Hd (FrK G w wq)) (λ_ i _=>l.length - (intOf i).toNat)
      case atStart=>exact⟨0,[],_,_,aA4 _,rfl,rfl,W0,O0,hD (λb hb=>by simp[blk] at hb),hD (λq hq=>by injection hq with hq;subst hq;rfl),FK⟩
      case round=>
        clear W0 O0 FK;obtain⟨j2,tl,A,c,hj2,rfl,rfl,W,O,OB,HG,FK⟩:=hrel;have htl:tl.length=j2:=by have:=O.o.len;simpa[ints] using this
        obtain⟨s',e,p,hck,hm⟩:=W.o.m.open_;obtain⟨_,_,-,-,-,-,-,-,-,-,-,c9,-⟩:=hck.cells;have d4:wr.cell? (C,4)=some (.slice KA l.length KC):=by simpa using W.o.q.1.cell 4
        by_cases hgo:j2<l.length∧e=0
        . obtain⟨hlt,rfl⟩:=hgo
          have hlt2:(j2:Int)<(l.length:Int):=by omega
          obtain⟨a,ha⟩:∃a,l[j2]?=some a:=⟨_,gE hlt⟩;obtain⟨kb,e,k0,-,hkc⟩:=W.o.m.aOj HK.o.1 HK.o.2 (j:=j2) ha;subst e;have HA:=hD (HL a (List.mem_of_getElem? ha));have HT:=hD (show l.take (j2+1)=l.take j2++[a] from by rw[List.take_add_one,ha];rfl);have HTL:=hD htl;have HHJ:=hD hlt;clear hck hm ha htl;go_wp2_with fail
          refine (HA wr _ W.o.m).mono ?_;rintro en w4 ⟨t,rfl,h4,f4,hq4⟩;have W4:=hD (W.o.to h4 f4);have O4:=hD (aJd W.o.m.geo (by decide) (λb hb=>Nat.le_trans HZ (OB b hb)) _ _ f4 O);have F4:=hD (FK.o.trans f4);have HQ4:=hD hq4;clear h4 f4 hq4 c9 d4 k0;go_wp2_with (at_builtin;go_loud (refine aL (m:=1) (news:=[t]) rfl _ _ rfl gW rfl rfl (O4.o.alloc _) (Rd.eZ (n:=1) (cs:=[t]) (Blk.new _ _ _) rfl (by decide)) (by simp[Value.oneCell']) (by omega) (by unfold maxLen;omega) ?_);intro A5 c5 w5 ho5 hf5 hv5;have O5:=hD ho5;have F5:=hD hf5;have V5:=hD hv5;clear ho5 hf5 hv5)
          have W5:=hD (show CkW G _ w5 _ zs k from ⟨(W4.o.m.no ((fR w4).alloc (.cells #[t] 3))).app (O4.o.alloc _) (by decide) (λb hb=>Nat.le_trans HZ (OB b hb)) F5,
            ⟨(W4.o.q.1.alloc _).fr F5 (λhm=>(O4.o.alloc (.cells #[t] 3)).aD (W4.o.q.1.alloc (.cells #[t] 3)) (by decide) hm),(W4.o.q.2.alloc _).fr F5 (λhm=>(O4.o.alloc (.cells #[t] 3)).aD (W4.o.q.2.alloc (.cells #[t] 3)) (by decide) hm)⟩,W4.o.kp⟩)
          have FK5:=hD ((F4.o.trans (FrK.no ((fR w4).alloc (.cells #[t] 3)))).app F5 (λb hb=>by rw[HC.o];exact OB b hb));have OB5:=hD (show ∀b,blk (.slice A5 (j2+1) c5)=some b->C<=b from λb hb=>by
            rcases V5.o with h9|h9
            . exact OB b (h9 ▸ hb)
            . rw[hb] at h9;injection h9 with h9
              have:=F4.o.size;rw[HC.o] at this;simp at h9;omega)
          go_roundw
          case rel=>
            refine⟨j2+1,tl++[t],A5,c5,by have:=HHJ.o;omega,by go_num,rfl,hD ?_,hD ?_,OB5,hD ?_,FK5⟩
            . have h9:=W5.o
              rw[HT.o,mQ];have e9:((((bF ex (l.take j2) s).map (·.2)).bind (ex a)).map (·.2))=((bF ex (l.take j2) s).bind λr=>(ex a r.2).map λq=>(r.1++[q.1],q.2)).map (·.2):=by
                cases bF ex (l.take j2) s with
                | bad e p=>rfl
                | good u=>
                  simp only[CkR.bO,CkR.aC];cases ex a u.2<;>rfl
              rw[<-e9];exact h9
            . have h9:=O5.o
              rw[show ints (tl++[t])=ints tl++[.int .i64 (t:Nat)] by simp[ints]];exact h9
            . intro q9 hq9
              rw[HT.o,mQ] at hq9;obtain⟨u,hu9,hq9⟩:=CkR.bind_eq hq9;obtain⟨v,hv9,hq9⟩:=CkR.map_eq hq9;subst hq9;have h8:=HG.o u hu9;have h7:=HQ4.o v (by rw[hu9];exact hv9)
              show u.1++[v.1]=_
              rw[h8,h7]
          case measure=>simp[intOf];have:=HHJ.o;omega
        . have EX:=hD (show CkW G (λw=>Blk w C 50 #[(21:Int),line,U0,bs nm,.slice KA l.length KC]∧Blk w D 48 #[bs f.name,f.line,.slice PA f.params.length PC,f.ret,f.body]) wr ((bF ex l s).map (·.2)) zs k∧(∀q,bF ex l s = .good q->q.1=tl) from by
            by_cases hj9:j2<l.length
            . have he:e≠0:=λh=>hgo ⟨hj9,h⟩
              rcases hm with ⟨h0,_⟩|⟨_,h99,hm⟩
              . exact absurd h0 he
              . have hb:bF ex (l.take j2) s = .bad e p:=by
                  cases hA:bF ex (l.take j2) s with
                  | bad e' p'=>rw[hA] at hm;simpa using hm
                  | good u=>rw[hA] at hm;cases hm
                have hb2:bF ex l s = .bad e p:=by
                  have:=aKo (l.take j2) (l.drop j2) s hb;rwa [List.take_append_drop] at this
                refine⟨⟨?_,W.o.q,W.o.kp⟩,λq hq=>by rw[hb2] at hq;cases hq⟩;rw[hb2];exact⟨he,h99,s',hck⟩
            . have:l.take j2=l:=aA5 (by omega)
              have h1:=W.o;have h2:=HG.o;rw[this] at h1 h2;exact⟨h1,h2⟩)
          have HTL:=hD htl;have hj7:(j2:Int)<=300:=by omega
          have d2:wr.cell? (D,2)=some (.slice PA f.params.length PC):=by simpa using W.o.q.2.cell 2
          have LE:=hD (show ∀r,bF ex l s = .good r->r.1.length=l.length from λr hr=>zC l s hr);have tail:∀(wz:World),Hd (CkW G (λw=>Blk w C 50 #[(21:Int),line,U0,bs nm,.slice KA l.length KC]∧Blk w D 48 #[bs f.name,f.line,.slice PA f.params.length PC,f.ret,f.body]) wz (eU (bF ex l s) (f.params.map (·.2)) x 0) zs k)->True:=λ_ _=>trivial
          clear tail;by_cases hp:l.length=f.params.length
          case' pos=>
           have hpb:((l.length:Int) != (f.params.length:Int))=false:=by rw[hp];simp
           have W3:=hD (show CkW G _ wr (eU (bF ex l s) (f.params.map (·.2)) x 0) zs k from by
             rw[<-uE (λr hr=>by rw[LE.o r hr,List.length_map];exact hp)];exact EX.o.1)
           by_cases hlt:j2<l.length
           case' pos=>
            have hlt2:(j2:Int)<(l.length:Int):=by omega
            have he:((e:Int)==0)=false:=bN.2 (by intro h;exact hgo ⟨hlt,by omega⟩)
           case' neg=>
            have hle:(l.length:Int)<=(j2:Int):=by omega
           all_goals
            clear hgo hm hck hp hlt htl;go_wp2_with fail
            have WX:=W3;have OX:=O;have FX:=FK;have EX2:=hD EX.o.2;clear W3
          case' neg=>
           have hpb:((l.length:Int) != (f.params.length:Int))=true:=by rw[bne,bN.2 (by omega)];rfl
           have HN:=hD (λr (hr:bF ex l s = .good r)=>show r.1.length≠(f.params.map (·.2)).length by rw[LE.o r hr,List.length_map];exact hp);by_cases hlt:j2<l.length
           case' pos=>
            have hlt2:(j2:Int)<(l.length:Int):=by omega
            have he:((e:Int)==0)=false:=bN.2 (by intro h;exact hgo ⟨hlt,by omega⟩)
           case' neg=>
            have hle:(l.length:Int)<=(j2:Int):=by omega
           all_goals
            clear hgo hm hck hp hlt htl;go_wp2_with fail
            refine dU (EX.o.1.m.fails 43 x (by decide) (by decide)) λw6 h6 f6=>?_;have WX:=hD (show CkW G _ w6 (eU (bF ex l s) (f.params.map (·.2)) x 0) zs k from by rw[<-uD HN.o];exact EX.o.1.to h6 f6);have OX:=hD (aJd W.o.m.geo (by decide) (λb hb=>Nat.le_trans HZ (OB b hb)) _ _ f6 O);have FX:=hD (FK.o.trans f6);have EX2:=hD EX.o.2;clear h6 f6 W O FK EX c9 d4 d2;go_wp2
          all_goals
           go_loopw [12] (λi wq=>∃i2:Nat,i2<=j2∧i = .int .i64 i2∧Hd (CkW G (λw=>Blk w C 50 #[(21:Int),line,U0,bs nm,.slice KA l.length KC]∧Blk w D 48 #[bs f.name,f.line,.slice PA f.params.length PC,f.ret,f.body]) wq (eU (bF ex l s) (f.params.map (·.2)) x i2) zs k)∧Hd (Own wq 3 1 (.slice A j2 c) j2 (ints tl))∧Hd (FrK G w wq)) (λi _=>j2 - (intOf i).toNat)
           case atStart=>exact⟨0,aA4 _,rfl,WX,OX,FX⟩
           case round=>
             clear WX OX FX;try clear W O FK EX c9 d4 d2
             obtain⟨i2,hi2,rfl,W7,O7,F7⟩:=hrel;obtain⟨s7,e7,p7,hck,hm⟩:=W7.o.m.open_;obtain⟨_,_,-,-,-,-,-,-,-,-,-,c9,-⟩:=hck.cells;have d2:wr.cell? (D,2)=some (.slice PA f.params.length PC):=by simpa using W7.o.q.2.cell 2
             have d3:wr.cell? (D,3)=f.ret:=by simpa using W7.o.q.2.cell 3
             by_cases hgo:i2<j2∧e7=0
             . obtain⟨hlt,rfl⟩:=hgo
               have hlt2:(i2:Int)<(j2:Int):=by omega
               have hR:∃r,bF ex l s = .good r∧r.1.length=f.params.length:=by
                 rcases hm with ⟨_,_,hm⟩|⟨h0,_⟩
                 . obtain⟨r,hr,hm⟩:=CkR.bind_eq hm
                   refine⟨r,hr,?_⟩;split at hm
                   . cases hm
                   . rename_i h9;simpa using h9
                 . exact absurd rfl h0
               obtain⟨r,hr,hrl⟩:=hR;have hrt:=EX2.o r hr;have hi9:i2<f.params.length:=by rw[<-hrl,hrt,HTL.o];exact hlt
               have hi8:(i2:Int)<(f.params.length:Int):=by omega
               obtain⟨qq,hqq⟩:∃qq,f.params[i2]?=some qq:=⟨_,gE hi9⟩;obtain⟨ti,hti⟩:∃ti,tl[i2]?=some ti:=⟨_,gE (by rw[HTL.o];exact hlt)⟩;obtain⟨pb,e,-,p1⟩:=W7.o.m.aOf HQ.o.1 HQ.o.2 hqq;obtain⟨tb,e',hc⟩:=O7.o.some (by omega);have t0:=hc i2 ti (by simp[ints,hti]);subst e;subst e';obtain⟨b,hb⟩:∃b,((ti:Int)==(qq.2:Int))=b:=⟨_,rfl⟩;have HS:=hD (show ((eU (bF ex l s) (f.params.map (·.2)) x i2).bind λs=>if b=true then CkR.good s else .bad 42 x)=eU (bF ex l s) (f.params.map (·.2)) x (i2+1) from
                 tJ (λr hr _ _=>by
                   rw[EX2.o r hr,hti,List.getElem?_map,hqq,<-hb,Bool.eq_iff_iff];simp only[Option.map_some,aA0,beq_iff_eq,decide_eq_true_eq];omega) (λr hr=>by rw[EX2.o r hr,HTL.o];exact hlt))
               have K2:=hD d2;have KP:=hD p1;have KT:=hD t0;have HI:=hD hlt;have HQQ:=hD hqq;have HTI:=hD hti;clear hck hm hr hrl hrt hqq hti hc d3;clear hi9 hlt;go_wp2_with fail
               go_region_held3 (λwx=>wx.cell? (D,2)=(pb,f.params.length,PC)∧wx.cell? (tb,i2)=ti∧wx.cell? (pb,i2*2+1)=qq.2) (first|exact⟨K2.o,KT.o,KP.o⟩|exact K8.o) (first|(go_at_call 176;go_loud (with_reducible refine ((W7.o.m.no ((fR wr).drew)).must _ x).mono ?_);go_loud (rintro en w8 ⟨rfl,h8,f8⟩);go_loud (have W8:=hD ((W7.o.no ((fR wr).drew)).to h8 f8));go_loud (have O8:=hD (aJd W8.o.m.geo (by decide) (λb hb=>Nat.le_trans HZ.o (OB.o b hb)) _ _ ((FrK.no ((fR wr).drew)).trans f8) O7.o));go_loud (have F8:=hD (F7.o.trans ((FrK.no ((fR wr).drew)).trans f8)));go_loud (have K8:=hD (W8.o.m.three HQ.o.1 HQ.o.2 HQQ.o W8.o.q.2 rfl O8.o HTI.o));go_loud (clear h8 f8)))
               go_wp2
               go_roundw
               case rel=>exact⟨i2+1,by have:=HI.o;omega,by go_num,hD (by rw[<-HS.o];first|exact W8.o|exact W8.o.no ((fR _).drew)),hD (by first|exact O8.o|exact O8.o.drewN _),hD (by first|exact F8.o|exact F8.o.trans (FrK.no ((fR _).drew)))⟩
               case measure=>simp[intOf];have:=HI.o;omega
             . have HF:=hD (show CkM G wr ((kV G.fs ex x ⟨21,line,0,nm,l⟩ s).map (·.2)) zs k from by
                 rw[E.o,<-aGb (i:=j2) (λr hr=>by rw[EX2.o r hr,HTL.o];exact aA1 _)];rcases hm with ⟨h0,_,hm⟩|⟨h0,h99,hm⟩
                 . have:i2=j2:=by
                     by_cases h:i2<j2
                     . exact absurd ⟨h,h0⟩ hgo
                     . omega
                   rw[<-this];exact W7.o.m
                 . rw[aGc hm hi2];exact⟨h0,h99,s7,hck⟩)
               by_cases hlt:i2<j2
               . have hlt2:(i2:Int)<(j2:Int):=by omega
                 have he:((e7:Int)==0)=false:=bN.2 (by intro h;exact hgo ⟨hlt,by omega⟩);clear hgo hm hck hlt;go_wp2
                 go_ret;exact⟨f.ret,rfl,HF,F7,λu hu=>by rw[E.o] at hu;exact vN hu⟩
               . have hle:(j2:Int)<=(i2:Int):=by omega
                 clear hgo hm hck hlt;go_wp2
                 go_ret;exact⟨f.ret,rfl,HF,F7,λu hu=>by rw[E.o] at hu;exact vN hu⟩
end
section
variable {G:Geo}{w w':World}{s:CkS}{r:CkR CkS}{zs:List Nat}{k:Nat}{ex:Nat->CkS->CkR (Nat×CkS)}
theorem aBa (hu:(G.fs.map (·.name)).Nodup){l:List Nat} (h:Ck G w s zs k 0 0) (hx:G.ns[x]?=some ⟨21,line,0,nm,l⟩) (hl:∀a∈l,iF G zs k ex a):
  Calls prog 194 #[(G.g,()),x] w (iT G zs k (bB G.fs ex x ⟨21,line,0,nm,l⟩ s) w):=by
 have M0:Hd (CkM G w (.good s) zs k):=h;obtain⟨nb,nc,kv,hnv,hkv,hown,nlt,hx3,c0,x0,x1,x2,x3,x4⟩:=M0.o.node hx;dsimp only at hown x0 x1 x2 x3 x4;have hx4:(G.ns.length:Int)<=300:=by have:=h.geo.few;omega
 have glt:=h.jK;have gn:¬G.g=w.heap.size:=by omega
 have nn:¬nb=w.heap.size:=by omega
 obtain⟨KA,KC,rfl,-,-⟩:=hown.cap;have HC:=hD (aKe hu (h.no ((fR w).alloc (.cells #[(21:Int),line,U0,bs nm,.slice KA l.length KC] 50))) hx hl);clear h hx hkv hown hl hu;rw[show bB G.fs ex x ⟨21,line,0,nm,l⟩ s=kV G.fs ex x ⟨21,line,0,nm,l⟩ s from rfl];go_enter func194,ntmps194;go_wp2_with fail
 refine HC.o.mono ?_;rintro en w2 ⟨t,rfl,h2,f2,hq⟩;have M2:=hD h2;have F2:=hD ((FrK.no ((fR w).alloc _)).trans f2);have HQ:=hD hq;clear h2 f2 hq;go_wp2
 go_ret;exact⟨t,rfl,M2,F2,HQ⟩
theorem aFj (hu:(G.fs.map (·.name)).Nodup) (h:Ck G w s zs k 0 0) (hx:G.ns[x]?=some nd) (hok:dW (G.ns.take x) nd) (hR:kC nd.kind=true) (hl:∀a∈nd.l,iF G zs k ex a):
  Calls prog 194 #[(G.g,()),x] w (iT G zs k (bB G.fs ex x nd s) w):=by
 cases hok with
 | int line n hn=>exact aFh h hx
 | bool line n hn=>exact aBb h hx
 | text line nm=>exact aAz h hx
 | var line nm=>exact aFc h hx
 | index line nm a ha=>exact yT h hx (hl a (by simp))
 | len line a ha=>exact aFg h hx (hl a (by simp))
 | neg line a ha=>exact aFf h hx (hl a (by simp))
 | not line a ha=>exact aFd h hx (hl a (by simp))
 | bin line nm a b hs ha hb=>exact aFi h hx hs (hl a (by simp)) (hl b (by simp))
 | input line=>exact yS h hx
 | new line a ha=>exact aFe h hx (hl a (by simp))
 | call line nm l hk=>exact aBa hu h hx hl
 | _=>simp[kC,iV] at hR
theorem aFv (hu:(G.fs.map (·.name)).Nodup){f:Nat} (hx:G.ns[x]?=some nd) (hok:dW (G.ns.take x) nd) (hR:kC nd.kind=true) (hl:∀a∈nd.l,iF G zs k (eO G.ns G.fs k f) a):iF G zs k (eO G.ns G.fs k (f+1)) x:=by
 intro w r h;have hx3:(x:Int)<(G.ns.length:Int):=by have:=(gK hx);omega
 have hx4:(G.ns.length:Int)<=300:=by have:=h.geo.few;omega
 cases r with
 | bad e p=>
  have M0:=hD h;obtain⟨he,h99,s,hck⟩:=h;obtain⟨_,_,-,-,-,-,-,-,-,-,-,c9,-⟩:=hck.cells;have heb:((e:Int) != 0)=true:=by rw[bne,bN.2 (by omega)];rfl
  clear hck he hl hx hok hR hu;go_enter func175,ntmps175;go_wp2
  go_ret;exact⟨0,rfl,M0,FrK.refl _ _,λq hq=>by cases hq⟩
 | good s=>
  have hck:Ck G w s zs k 0 0:=h;obtain⟨_,_,-,-,-,-,-,-,-,-,-,c9,-⟩:=hck.cells;have HT:=hD (aFj hu hck hx hok hR hl);have E:=hD (show (CkR.good s).bind (eO G.ns G.fs k (f+1) x)=(bB G.fs (eO G.ns G.fs k f) x nd s).map λr=>(r.1,{ r.2 with types:=r.2.types.set x r.1,fn:=r.2.fn.set x k }) from by
    show eO G.ns G.fs k (f+1) x s=_
    unfold eO;rw[hx])
  clear h hck hx hok hR hl hu;generalize bB G.fs (eO G.ns G.fs k f) x nd s=q at *;rw[E.o];clear E;go_enter func175,ntmps175;go_wp2_with fail
  refine HT.o.mono ?_;rintro en w1 ⟨t,rfl,h1,f1,hq⟩;have F1:=hD f1;have HQ:=hD hq;obtain⟨s',e,p,hck,hm⟩:=h1.open_;have HM:=hD hm;clear h1 f1 hq hm c9;obtain⟨_,_,-,-,c2,-,-,-,-,-,-,-,-,-⟩:=hck.cells;obtain⟨⟨u,bt⟩,zt⟩:=hck.types.gY (j:=x) (by omega);have S2:=hD (hck.aSh x t);clear hck;go_wp2_with fail
  clear c2 bt zt;generalize w1.setCell (G.bt,x) t=w2 at *;obtain⟨_,_,-,-,-,-,c4,-,c6,-⟩:=S2.o.1.cells;obtain⟨⟨u2,bf⟩,zf⟩:=S2.o.1.fn.gY (j:=x) (by omega);obtain⟨n1,n2,n3⟩:=S2.o.1.gne;have D4:=hD c4;have D6:=hD c6;have e4:=hD ((aA2 w2.drew (G.bf,x) (G.g,U4) k (by intro e;injection e with e;exact n3 e.symm)).trans c4);have e6:=hD ((aA2 w2.drew (G.bf,x) (G.g,U6) k (by intro e;injection e with e;exact n3 e.symm)).trans c6);have S3:=hD (S2.o.1.kI x k);clear n1 n2 n3;go_region_held3 (λwx=>wx.cell? (G.g,4)=(G.bf,G.ns.length,G.cf)∧wx.cell? (G.g,6)=k) (first|exact⟨D4,D6⟩|exact⟨e4.o,e6.o⟩) (first|fail)
  clear c4 c6 bf zf D4 D6 e4 e6;generalize w2.setCell (G.bf,x) k=w3 at *;go_wp2
  go_ret;refine⟨t,rfl,?_,((F1.o.trans S2.o.2).trans S3.o.2).trans (FrK.no ((fR w3).drew)),λu hu=>?_⟩
  . refine CkM.no ?_ ((fR w3).drew)
    have hm:=HM.o;cases q with
    | bad e' p'=>
     rcases hm with ⟨_,_,h9⟩|⟨h0,h9,h8⟩
     . cases h9
     . injection h8 with h8 h7
       subst h8;subst h7;exact⟨h0,h9,_,S3.o.1⟩
    | good v=>
     rcases hm with ⟨h0,h8,h9⟩|⟨_,_,h8⟩
     . injection h9 with h9
       subst h9;subst h0;subst h8;have:=HQ.o v rfl;subst this;exact S3.o.1
     . cases h8
  . obtain⟨v,hv,hu⟩:=CkR.map_eq hu
    subst hu;exact HQ v hv
theorem yX (hg:gN G) (hu:(G.fs.map (·.name)).Nodup):∀(f x:Nat) (nd:aF),x<f->G.ns[x]?=some nd->kC nd.kind=true->iF G zs k (eO G.ns G.fs k f) x
 | 0,x,nd,h,_,_=>absurd h (Nat.not_lt_zero _)
 | f+1,x,nd,h,hx,hR=>by
  have hok:=hg.ok.nodes x nd hx;refine aFv hu hx hok hR λa ha=>?_
  have key:∀{cls:Nat->Bool} {a:Nat},(∀n,cls n=true->kC n=true)->Kid (G.ns.take x) cls a->iF G zs k (eO G.ns G.fs k f) a:=λ{cls a} hc hk=>by
   obtain⟨hlt,c,hc1,hc2⟩:=hk.take;exact yX hg hu f a c (by omega) hc1 (hc _ hc2)
  have hE:∀n,iV n=true->kC n=true:=λn h=>by unfold kC;rw[h];rfl
  cases hok with
  | int line n hn=>cases ha
  | bool line n hn=>cases ha
  | text line nm=>cases ha
  | var line nm=>cases ha
  | index line nm b hb=>rw[List.mem_singleton.1 ha];exact key hE hb
  | len line b hb=>rw[List.mem_singleton.1 ha];exact key hE hb
  | neg line b hb=>rw[List.mem_singleton.1 ha];exact key hE hb
  | not line b hb=>rw[List.mem_singleton.1 ha];exact key hE hb
  | bin line nm b c hs hb hc=>
   rcases List.mem_cons.1 ha with e|ha
   . rw[e];exact key hE hb
   . rw[List.mem_singleton.1 ha];exact key hE hc
  | input line=>cases ha
  | new line b hb=>rw[List.mem_singleton.1 ha];exact key hE hb
  | call line nm l hk=>exact key hE (hk a ha)
  | _=>simp[kC,iV] at hR
end
end Go.Proofs.YtlbjicjinnnboaaGreatDoor
