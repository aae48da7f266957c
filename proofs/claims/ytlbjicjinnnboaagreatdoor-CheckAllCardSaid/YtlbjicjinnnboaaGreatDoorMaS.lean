/- MaS: CkS, CkBlk, CkFun, CkH, CkHW, CkAllA. -/
import Derived.Test.YtlbjicjinnnboaaGreatDoorMaR
import Derived.Test.YtlbjicjinnnboaaGreatDoorMaI
import Derived.Test.YtlbjicjinnnboaaGreatDoorMaQ
import Derived.Test.YtlbjicjinnnboaaGreatDoorMaG
set_option maxHeartbeats 8000000
set_option maxRecDepth 100000
set_option linter.unusedVariables false
set_option linter.unusedSimpArgs false
/- The document's checker: statement. Printed by wip/tools/mkcstm.py. -/
namespace Go.Proofs.YtlbjicjinnnboaaGreatDoor
open Go.RowKit Go.Proofs.Tryz
open Pw
variable {x line a c m cc:Nat}{o:Obj}{u v:Value}{A:Option Addr}{nm:List UInt8}{ys:List Value}
def aIo (G:Geo) (zs:List Nat) (k:Nat) (bl:Nat->CkS->CkR CkS) (x:Nat):Prop:=
 ∀(w:World) (s:CkS),Ck G w s zs k 0 0->Calls prog 101 #[.pointer (some ⟨G.g,0,none⟩),.int .i64 x] w (lM G zs k (bl x s) w)
def aQi (G:Geo) (zs:List Nat) (k:Nat) (st:Nat->CkS->CkR CkS) (x:Nat):Prop:=
 ∀(w:World) (s:CkS),Ck G w s zs k 0 0->Calls prog 146 #[.pointer (some ⟨G.g,0,none⟩),.int .i64 x] w (lM G zs k (st x s) w)
theorem aNz {α:Type}{P:α->Prop} [DecidablePred P] {q:CkR (α×CkS)}{b:Bool} (hb:∀a,q = .good a->b=decide (P a.1)):
  ((q.map (·.2)).bind λs=>if b=true then CkR.good s else .bad 42 x)=(q.bind λr=>if P r.1 then CkR.good r.2 else .bad 42 x):=by
 cases q with
 | bad e p=>rfl
 | good a=>
  have:=hb a rfl;simp only[CkR.bK,CkR.aC,this,decide_eq_true_eq]
theorem CkN.open_ {G:Geo}{w:World}{r:CkR CkS}{zs:List Nat}{k:Nat} (h:CkN G w r zs k) (hM:G.M=24):∃s e p,Ck G.more w s zs k e p∧gB r s e p:=by
 cases r with
 | good s=>exact⟨s,0,0,Ck.more h (by omega),.inl ⟨rfl,rfl,rfl⟩⟩
 | bad e p=>obtain⟨h1,h2,s,h3⟩:=h;exact⟨s,e,p,h3,.inr ⟨h1,h2,rfl⟩⟩
section
variable {G:Geo}{w w':World}{s:CkS}{r r':CkR CkS}{zs:List Nat}{k:Nat}{ex:Nat->CkS->CkR (Nat×CkS)}{bl:Nat->CkS->CkR CkS}
theorem aLf (hM:G.M=24) (h:Ck G w s zs k 0 0) (hx:G.ns[x]?=some ⟨10,line,0,nm,[a]⟩) (ha:gW G zs k ex a):
  Calls prog 146 #[.pointer (some ⟨G.g,0,none⟩),.int .i64 x] w (lM G zs k (jA G.fs k ex bl x ⟨10,line,0,nm,[a]⟩ s) w):=by
 have M0:Hd (CkM G w (.good s) zs k):=h;obtain⟨nb,nc,kv,hnv,hkv,hown,nlt,hx3,c0,x0,x1,x2,x3,x4⟩:=M0.o.node hx;dsimp only at hown x0 x1 x2 x3 x4;have hx4:(G.ns.length:Int)≤300:=by have:=h.geo.few;omega
 have hx5:x<G.ns.length:=by omega
 have glt:=h.jB;have gn:¬G.g=w.heap.size:=by omega
 have nn:¬nb=w.heap.size:=by omega
 obtain⟨kb,kc,rfl,hkc,hcell⟩:=cB hown (by simp);have hkc2:1≤kc:=by simp at hkc;omega
 have HK:=hD (And.intro hx hkv);have HM:=hD hM;have C1:=hD (CkC.new M0 50 #[.int .i64 10,.int .i64 line,.int .i64 0,.string (bs nm),.slice (some ⟨kb,0,none⟩) 1 kc] (by decide));have F1:Hd (FrK G w (w.alloc (.cells #[.int .i64 10,.int .i64 line,.int .i64 0,.string (bs nm),.slice (some ⟨kb,0,none⟩) 1 kc] 50))):=FrK.no ((fR w).alloc _);have HX5:=hD hx5;clear h hx hkv hown hM hx5 hcell hkc;have HA:=hD ha;clear ha;go_enter func146,ntmps146;go_wp2_with fail
 clear c0 x0 x1 x2 x3 x4 glt gn nlt nn;generalize w.alloc (.cells #[.int .i64 10,.int .i64 line,.int .i64 0,.string (bs nm),.slice (some ⟨kb,0,none⟩) 1 kc] 50)=w1 at *;generalize w.heap.size=C at *;have K1:Hd (Ck G w1 s zs k 0 0):=C1.o.m;obtain⟨_,_,-,-,-,-,c4,-,c6,-⟩:=K1.o.cells;obtain⟨⟨u2,bf⟩,zf⟩:=K1.o.fn.gM HX5.o;obtain⟨n1,n2,n3⟩:=K1.o.gne;have D4:=hD c4;have D6:=hD c6;have e4:=hD ((World.cell?_setCell_other w1.drew ⟨G.bf,x,none⟩ ⟨G.g,4,none⟩ (.int .i64 (k:Nat)) (by intro e;injection e with e;exact n3 e.symm)).trans c4);have e6:=hD ((World.cell?_setCell_other w1.drew ⟨G.bf,x,none⟩ ⟨G.g,6,none⟩ (.int .i64 (k:Nat)) (by intro e;injection e with e;exact n3 e.symm)).trans c6);have S2:=hD (K1.o.jS x k);clear n1 n2 n3;go_region_held3 (λwx=>wx.cell? ⟨G.g,4,none⟩=some (.slice (some ⟨G.bf,0,none⟩) G.ns.length G.cf)∧wx.cell? ⟨G.g,6,none⟩=some (.int .i64 (k:Nat))) (first|exact⟨D4,D6⟩|exact⟨e4.o,e6.o⟩) (first|fail)
 clear c4 c6 bf zf D4 D6 e4 e6;have C2:=hD ((C1.o.to (show CkM G _ (.good { s with fn:=s.fn.set x k }) zs k from S2.o.1) S2.o.2).no ((fR _).drew));have F2:=hD ((F1.o.trans S2.o.2).trans (FrK.no ((fR _).drew)));clear S2 K1 C1 F1 HX5;generalize (w1.setCell ⟨G.bf,x,none⟩ (.int .i64 (k:Nat))).drew=w2 at *;have d0:w2.cell? ⟨C,0,none⟩=some (.int .i64 10):=by simpa using C2.o.b.cell 0
 go_wp2_with fail
 refine dR (aLj HM (show Ck G w2 { s with fn:=s.fn.set x k } zs k 0 0 from C2.o.m) HK.o.1 HA) λw3 N3 f3=>?_;have F3:=hD (F2.o.trans f3);clear f3 d0;go_wp2
 exact fE rfl rfl ⟨rfl,N3,F3⟩
theorem aNn (hM:G.M=24) (h:Ck G w s zs k 0 0) (hx:G.ns[x]?=some ⟨13,line,0,[],[a]⟩) (ha:gW G zs k ex a):
  Calls prog 146 #[.pointer (some ⟨G.g,0,none⟩),.int .i64 x] w (lM G zs k (jA G.fs k ex bl x ⟨13,line,0,[],[a]⟩ s) w):=by
 have M0:Hd (CkM G w (.good s) zs k):=h;obtain⟨nb,nc,kv,hnv,hkv,hown,nlt,hx3,c0,x0,x1,x2,x3,x4⟩:=M0.o.node hx;dsimp only at hown x0 x1 x2 x3 x4;have hx4:(G.ns.length:Int)≤300:=by have:=h.geo.few;omega
 have hx5:x<G.ns.length:=by omega
 have glt:=h.jB;have gn:¬G.g=w.heap.size:=by omega
 have nn:¬nb=w.heap.size:=by omega
 obtain⟨kb,kc,rfl,hkc,hcell⟩:=cB hown (by simp);have hkc2:1≤kc:=by simp at hkc;omega
 have HK:=hD (And.intro hx hkv);have HM:=hD hM;have C1:=hD (CkC.new M0 50 #[.int .i64 13,.int .i64 line,.int .i64 0,.string (bs []),.slice (some ⟨kb,0,none⟩) 1 kc] (by decide));have F1:Hd (FrK G w (w.alloc (.cells #[.int .i64 13,.int .i64 line,.int .i64 0,.string (bs []),.slice (some ⟨kb,0,none⟩) 1 kc] 50))):=FrK.no ((fR w).alloc _);have HX5:=hD hx5;clear h hx hkv hown hM hx5 hcell hkc;have HA:=hD ha;clear ha;go_enter func146,ntmps146;go_wp2_with fail
 clear c0 x0 x1 x2 x3 x4 glt gn nlt nn;generalize w.alloc (.cells #[.int .i64 13,.int .i64 line,.int .i64 0,.string (bs []),.slice (some ⟨kb,0,none⟩) 1 kc] 50)=w1 at *;generalize w.heap.size=C at *;have K1:Hd (Ck G w1 s zs k 0 0):=C1.o.m;obtain⟨_,_,-,-,-,-,c4,-,c6,-⟩:=K1.o.cells;obtain⟨⟨u2,bf⟩,zf⟩:=K1.o.fn.gM HX5.o;obtain⟨n1,n2,n3⟩:=K1.o.gne;have D4:=hD c4;have D6:=hD c6;have e4:=hD ((World.cell?_setCell_other w1.drew ⟨G.bf,x,none⟩ ⟨G.g,4,none⟩ (.int .i64 (k:Nat)) (by intro e;injection e with e;exact n3 e.symm)).trans c4);have e6:=hD ((World.cell?_setCell_other w1.drew ⟨G.bf,x,none⟩ ⟨G.g,6,none⟩ (.int .i64 (k:Nat)) (by intro e;injection e with e;exact n3 e.symm)).trans c6);have S2:=hD (K1.o.jS x k);clear n1 n2 n3;go_region_held3 (λwx=>wx.cell? ⟨G.g,4,none⟩=some (.slice (some ⟨G.bf,0,none⟩) G.ns.length G.cf)∧wx.cell? ⟨G.g,6,none⟩=some (.int .i64 (k:Nat))) (first|exact⟨D4,D6⟩|exact⟨e4.o,e6.o⟩) (first|fail)
 clear c4 c6 bf zf D4 D6 e4 e6;have C2:=hD ((C1.o.to (show CkM G _ (.good { s with fn:=s.fn.set x k }) zs k from S2.o.1) S2.o.2).no ((fR _).drew));have F2:=hD ((F1.o.trans S2.o.2).trans (FrK.no ((fR _).drew)));clear S2 K1 C1 F1 HX5;generalize (w1.setCell ⟨G.bf,x,none⟩ (.int .i64 (k:Nat))).drew=w2 at *;have d0:w2.cell? ⟨C,0,none⟩=some (.int .i64 13):=by simpa using C2.o.b.cell 0
 have d4:w2.cell? ⟨C,4,none⟩=some (.slice (some ⟨kb,0,none⟩) 1 kc):=by simpa using C2.o.b.cell 4
 have k0:=C2.o.m.kid HK.o.1 HK.o.2 (j:=0) (a:=a) rfl;go_wp2_with fail
 refine (HA w2 _ C2.o.m).mono ?_;rintro en w3 ⟨t,rfl,h3,f3,hq⟩;have M3:=hD h3;have F3:=hD (F2.o.trans f3);clear h3 f3 hq d0 d4 k0;go_wp2
 exact fE rfl rfl ⟨rfl,M3.o.toN HM,F3⟩
theorem aDh (hM:G.M=24) (h:Ck G w s zs k 0 0) (hx:G.ns[x]?=some ⟨14,line,0,[],[a]⟩) (ha:gW G zs k ex a):
  Calls prog 146 #[.pointer (some ⟨G.g,0,none⟩),.int .i64 x] w (lM G zs k (jA G.fs k ex bl x ⟨14,line,0,[],[a]⟩ s) w):=by
 have M0:Hd (CkM G w (.good s) zs k):=h;obtain⟨nb,nc,kv,hnv,hkv,hown,nlt,hx3,c0,x0,x1,x2,x3,x4⟩:=M0.o.node hx;dsimp only at hown x0 x1 x2 x3 x4;have hx4:(G.ns.length:Int)≤300:=by have:=h.geo.few;omega
 have hx5:x<G.ns.length:=by omega
 have glt:=h.jB;have gn:¬G.g=w.heap.size:=by omega
 have nn:¬nb=w.heap.size:=by omega
 obtain⟨kb,kc,rfl,hkc,hcell⟩:=cB hown (by simp);have hkc2:1≤kc:=by simp at hkc;omega
 have HK:=hD (And.intro hx hkv);have HM:=hD hM;have C1:=hD (CkC.new M0 50 #[.int .i64 14,.int .i64 line,.int .i64 0,.string (bs []),.slice (some ⟨kb,0,none⟩) 1 kc] (by decide));have F1:Hd (FrK G w (w.alloc (.cells #[.int .i64 14,.int .i64 line,.int .i64 0,.string (bs []),.slice (some ⟨kb,0,none⟩) 1 kc] 50))):=FrK.no ((fR w).alloc _);have HX5:=hD hx5;clear h hx hkv hown hM hx5 hcell hkc;have HA:=hD ha;clear ha;go_enter func146,ntmps146;go_wp2_with fail
 clear c0 x0 x1 x2 x3 x4 glt gn nlt nn;generalize w.alloc (.cells #[.int .i64 14,.int .i64 line,.int .i64 0,.string (bs []),.slice (some ⟨kb,0,none⟩) 1 kc] 50)=w1 at *;generalize w.heap.size=C at *;have K1:Hd (Ck G w1 s zs k 0 0):=C1.o.m;obtain⟨_,_,-,-,-,-,c4,-,c6,-⟩:=K1.o.cells;obtain⟨⟨u2,bf⟩,zf⟩:=K1.o.fn.gM HX5.o;obtain⟨n1,n2,n3⟩:=K1.o.gne;have D4:=hD c4;have D6:=hD c6;have e4:=hD ((World.cell?_setCell_other w1.drew ⟨G.bf,x,none⟩ ⟨G.g,4,none⟩ (.int .i64 (k:Nat)) (by intro e;injection e with e;exact n3 e.symm)).trans c4);have e6:=hD ((World.cell?_setCell_other w1.drew ⟨G.bf,x,none⟩ ⟨G.g,6,none⟩ (.int .i64 (k:Nat)) (by intro e;injection e with e;exact n3 e.symm)).trans c6);have S2:=hD (K1.o.jS x k);clear n1 n2 n3;go_region_held3 (λwx=>wx.cell? ⟨G.g,4,none⟩=some (.slice (some ⟨G.bf,0,none⟩) G.ns.length G.cf)∧wx.cell? ⟨G.g,6,none⟩=some (.int .i64 (k:Nat))) (first|exact⟨D4,D6⟩|exact⟨e4.o,e6.o⟩) (first|fail)
 clear c4 c6 bf zf D4 D6 e4 e6;have C2:=hD ((C1.o.to (show CkM G _ (.good { s with fn:=s.fn.set x k }) zs k from S2.o.1) S2.o.2).no ((fR _).drew));have F2:=hD ((F1.o.trans S2.o.2).trans (FrK.no ((fR _).drew)));clear S2 K1 C1 F1 HX5;generalize (w1.setCell ⟨G.bf,x,none⟩ (.int .i64 (k:Nat))).drew=w2 at *;have d0:w2.cell? ⟨C,0,none⟩=some (.int .i64 14):=by simpa using C2.o.b.cell 0
 have d4:w2.cell? ⟨C,4,none⟩=some (.slice (some ⟨kb,0,none⟩) 1 kc):=by simpa using C2.o.b.cell 4
 have k0:=C2.o.m.kid HK.o.1 HK.o.2 (j:=0) (a:=a) rfl;go_wp2_with fail
 refine (HA w2 _ C2.o.m).mono ?_;rintro en w3 ⟨t,rfl,h3,f3,hq⟩;have M3:=hD h3;have F3:=hD (F2.o.trans f3);have HQ:=hD hq;clear h3 f3 hq d0 d4 k0;obtain⟨b,hbb⟩:∃b,((t:Int) != 4)=b:=⟨_,rfl⟩;have HBB:=hD hbb;go_wp2_with fail
 refine dR (M3.o.must b x) λw4 M4 f4=>?_;have F4:=hD (F3.o.trans f4);clear f4;go_wp2
 refine fE rfl rfl ⟨rfl,?_,F4⟩;have h9:=M4.o.toN HM.o;rw[CkR.aC] at h9;have e9:=aNz (q:=ex a { s with fn:=s.fn.set x k }) (x:=x) (b:=b) (P:=λ(n:Nat)=>n≠4) (λq hq=>by
  rw[HQ.o q hq,<-HBB.o,Bool.eq_iff_iff];simp only[bne_iff_ne,decide_eq_true_eq];omega)
 rw[show jA G.fs k ex bl x ⟨14,line,0,[],[a]⟩ s=(ex a { s with fn:=s.fn.set x k }).bind λr=>if r.1≠4 then CkR.good r.2 else .bad 42 x from rfl,<-e9];exact h9
theorem aHq (hM:G.M=24) (h:Ck G w s zs k 0 0) (hx:G.ns[x]?=some ⟨17,line,0,[],[]⟩):
  Calls prog 146 #[.pointer (some ⟨G.g,0,none⟩),.int .i64 x] w (lM G zs k (jA G.fs k ex bl x ⟨17,line,0,[],[]⟩ s) w):=by
 have M0:Hd (CkM G w (.good s) zs k):=h;obtain⟨nb,nc,kv,hnv,hkv,hown,nlt,hx3,c0,x0,x1,x2,x3,x4⟩:=M0.o.node hx;dsimp only at hown x0 x1 x2 x3 x4;have hx4:(G.ns.length:Int)≤300:=by have:=h.geo.few;omega
 have hx5:x<G.ns.length:=by omega
 have glt:=h.jB;have gn:¬G.g=w.heap.size:=by omega
 have nn:¬nb=w.heap.size:=by omega
 obtain⟨KA,KC,rfl,-,-⟩:=hown.cap;have HK:=hD (And.intro hx hkv);have HM:=hD hM;have C1:=hD (CkC.new M0 50 #[.int .i64 17,.int .i64 line,.int .i64 0,.string (bs []),.slice KA 0 KC] (by decide));have F1:Hd (FrK G w (w.alloc (.cells #[.int .i64 17,.int .i64 line,.int .i64 0,.string (bs []),.slice KA 0 KC] 50))):=FrK.no ((fR w).alloc _);have HX5:=hD hx5;clear h hx hkv hown hM hx5;go_enter func146,ntmps146;go_wp2_with fail
 clear c0 x0 x1 x2 x3 x4 glt gn nlt nn;generalize w.alloc (.cells #[.int .i64 17,.int .i64 line,.int .i64 0,.string (bs []),.slice KA 0 KC] 50)=w1 at *;generalize w.heap.size=C at *;have K1:Hd (Ck G w1 s zs k 0 0):=C1.o.m;obtain⟨_,_,-,-,-,-,c4,-,c6,-⟩:=K1.o.cells;obtain⟨⟨u2,bf⟩,zf⟩:=K1.o.fn.gM HX5.o;obtain⟨n1,n2,n3⟩:=K1.o.gne;have D4:=hD c4;have D6:=hD c6;have e4:=hD ((World.cell?_setCell_other w1.drew ⟨G.bf,x,none⟩ ⟨G.g,4,none⟩ (.int .i64 (k:Nat)) (by intro e;injection e with e;exact n3 e.symm)).trans c4);have e6:=hD ((World.cell?_setCell_other w1.drew ⟨G.bf,x,none⟩ ⟨G.g,6,none⟩ (.int .i64 (k:Nat)) (by intro e;injection e with e;exact n3 e.symm)).trans c6);have S2:=hD (K1.o.jS x k);clear n1 n2 n3;go_region_held3 (λwx=>wx.cell? ⟨G.g,4,none⟩=some (.slice (some ⟨G.bf,0,none⟩) G.ns.length G.cf)∧wx.cell? ⟨G.g,6,none⟩=some (.int .i64 (k:Nat))) (first|exact⟨D4,D6⟩|exact⟨e4.o,e6.o⟩) (first|fail)
 clear c4 c6 bf zf D4 D6 e4 e6;have C2:=hD ((C1.o.to (show CkM G _ (.good { s with fn:=s.fn.set x k }) zs k from S2.o.1) S2.o.2).no ((fR _).drew));have F2:=hD ((F1.o.trans S2.o.2).trans (FrK.no ((fR _).drew)));clear S2 K1 C1 F1 HX5;generalize (w1.setCell ⟨G.bf,x,none⟩ (.int .i64 (k:Nat))).drew=w2 at *;have d0:w2.cell? ⟨C,0,none⟩=some (.int .i64 17):=by simpa using C2.o.b.cell 0
 go_wp2_with fail
 refine dR (aHt (ex:=ex) HM (show Ck G w2 { s with fn:=s.fn.set x k } zs k 0 0 from C2.o.m) HK.o.1) λw3 N3 f3=>?_;have F3:=hD (F2.o.trans f3);clear f3 d0;go_wp2
 exact fE rfl rfl ⟨rfl,N3,F3⟩
theorem aHp (hM:G.M=24) (h:Ck G w s zs k 0 0) (hx:G.ns[x]?=some ⟨17,line,0,[],[a]⟩) (ha:gW G zs k ex a):
  Calls prog 146 #[.pointer (some ⟨G.g,0,none⟩),.int .i64 x] w (lM G zs k (jA G.fs k ex bl x ⟨17,line,0,[],[a]⟩ s) w):=by
 have M0:Hd (CkM G w (.good s) zs k):=h;obtain⟨nb,nc,kv,hnv,hkv,hown,nlt,hx3,c0,x0,x1,x2,x3,x4⟩:=M0.o.node hx;dsimp only at hown x0 x1 x2 x3 x4;have hx4:(G.ns.length:Int)≤300:=by have:=h.geo.few;omega
 have hx5:x<G.ns.length:=by omega
 have glt:=h.jB;have gn:¬G.g=w.heap.size:=by omega
 have nn:¬nb=w.heap.size:=by omega
 obtain⟨kb,kc,rfl,hkc,hcell⟩:=cB hown (by simp);have hkc2:1≤kc:=by simp at hkc;omega
 have HK:=hD (And.intro hx hkv);have HM:=hD hM;have C1:=hD (CkC.new M0 50 #[.int .i64 17,.int .i64 line,.int .i64 0,.string (bs []),.slice (some ⟨kb,0,none⟩) 1 kc] (by decide));have F1:Hd (FrK G w (w.alloc (.cells #[.int .i64 17,.int .i64 line,.int .i64 0,.string (bs []),.slice (some ⟨kb,0,none⟩) 1 kc] 50))):=FrK.no ((fR w).alloc _);have HX5:=hD hx5;clear h hx hkv hown hM hx5 hcell hkc;have HA:=hD ha;clear ha;go_enter func146,ntmps146;go_wp2_with fail
 clear c0 x0 x1 x2 x3 x4 glt gn nlt nn;generalize w.alloc (.cells #[.int .i64 17,.int .i64 line,.int .i64 0,.string (bs []),.slice (some ⟨kb,0,none⟩) 1 kc] 50)=w1 at *;generalize w.heap.size=C at *;have K1:Hd (Ck G w1 s zs k 0 0):=C1.o.m;obtain⟨_,_,-,-,-,-,c4,-,c6,-⟩:=K1.o.cells;obtain⟨⟨u2,bf⟩,zf⟩:=K1.o.fn.gM HX5.o;obtain⟨n1,n2,n3⟩:=K1.o.gne;have D4:=hD c4;have D6:=hD c6;have e4:=hD ((World.cell?_setCell_other w1.drew ⟨G.bf,x,none⟩ ⟨G.g,4,none⟩ (.int .i64 (k:Nat)) (by intro e;injection e with e;exact n3 e.symm)).trans c4);have e6:=hD ((World.cell?_setCell_other w1.drew ⟨G.bf,x,none⟩ ⟨G.g,6,none⟩ (.int .i64 (k:Nat)) (by intro e;injection e with e;exact n3 e.symm)).trans c6);have S2:=hD (K1.o.jS x k);clear n1 n2 n3;go_region_held3 (λwx=>wx.cell? ⟨G.g,4,none⟩=some (.slice (some ⟨G.bf,0,none⟩) G.ns.length G.cf)∧wx.cell? ⟨G.g,6,none⟩=some (.int .i64 (k:Nat))) (first|exact⟨D4,D6⟩|exact⟨e4.o,e6.o⟩) (first|fail)
 clear c4 c6 bf zf D4 D6 e4 e6;have C2:=hD ((C1.o.to (show CkM G _ (.good { s with fn:=s.fn.set x k }) zs k from S2.o.1) S2.o.2).no ((fR _).drew));have F2:=hD ((F1.o.trans S2.o.2).trans (FrK.no ((fR _).drew)));clear S2 K1 C1 F1 HX5;generalize (w1.setCell ⟨G.bf,x,none⟩ (.int .i64 (k:Nat))).drew=w2 at *;have d0:w2.cell? ⟨C,0,none⟩=some (.int .i64 17):=by simpa using C2.o.b.cell 0
 go_wp2_with fail
 refine dR (aHs HM (show Ck G w2 { s with fn:=s.fn.set x k } zs k 0 0 from C2.o.m) HK.o.1 HA) λw3 N3 f3=>?_;have F3:=hD (F2.o.trans f3);clear f3 d0;go_wp2
 exact fE rfl rfl ⟨rfl,N3,F3⟩
theorem aLd (hM:G.M=24) (h:Ck G w s zs k 0 0) (hx:G.ns[x]?=some ⟨11,line,0,nm,[a]⟩) (ha:gW G zs k ex a):
  Calls prog 146 #[.pointer (some ⟨G.g,0,none⟩),.int .i64 x] w (lM G zs k (jA G.fs k ex bl x ⟨11,line,0,nm,[a]⟩ s) w):=by
 have M0:Hd (CkM G w (.good s) zs k):=h;obtain⟨nb,nc,kv,hnv,hkv,hown,nlt,hx3,c0,x0,x1,x2,x3,x4⟩:=M0.o.node hx;dsimp only at hown x0 x1 x2 x3 x4;have hx4:(G.ns.length:Int)≤300:=by have:=h.geo.few;omega
 have hx5:x<G.ns.length:=by omega
 have glt:=h.jB;have gn:¬G.g=w.heap.size:=by omega
 have nn:¬nb=w.heap.size:=by omega
 obtain⟨kb,kc,rfl,hkc,hcell⟩:=cB hown (by simp);have hkc2:1≤kc:=by simp at hkc;omega
 have HK:=hD (And.intro hx hkv);have HM:=hD hM;have C1:=hD (CkC.new M0 50 #[.int .i64 11,.int .i64 line,.int .i64 0,.string (bs nm),.slice (some ⟨kb,0,none⟩) 1 kc] (by decide));have F1:Hd (FrK G w (w.alloc (.cells #[.int .i64 11,.int .i64 line,.int .i64 0,.string (bs nm),.slice (some ⟨kb,0,none⟩) 1 kc] 50))):=FrK.no ((fR w).alloc _);have HX5:=hD hx5;clear h hx hkv hown hM hx5 hcell hkc;have HA:=hD ha;clear ha;go_enter func146,ntmps146;go_wp2_with fail
 clear c0 x0 x1 x2 x3 x4 glt gn nlt nn;generalize w.alloc (.cells #[.int .i64 11,.int .i64 line,.int .i64 0,.string (bs nm),.slice (some ⟨kb,0,none⟩) 1 kc] 50)=w1 at *;generalize w.heap.size=C at *;have K1:Hd (Ck G w1 s zs k 0 0):=C1.o.m;obtain⟨_,_,-,-,-,-,c4,-,c6,-⟩:=K1.o.cells;obtain⟨⟨u2,bf⟩,zf⟩:=K1.o.fn.gM HX5.o;obtain⟨n1,n2,n3⟩:=K1.o.gne;have D4:=hD c4;have D6:=hD c6;have e4:=hD ((World.cell?_setCell_other w1.drew ⟨G.bf,x,none⟩ ⟨G.g,4,none⟩ (.int .i64 (k:Nat)) (by intro e;injection e with e;exact n3 e.symm)).trans c4);have e6:=hD ((World.cell?_setCell_other w1.drew ⟨G.bf,x,none⟩ ⟨G.g,6,none⟩ (.int .i64 (k:Nat)) (by intro e;injection e with e;exact n3 e.symm)).trans c6);have S2:=hD (K1.o.jS x k);clear n1 n2 n3;go_region_held3 (λwx=>wx.cell? ⟨G.g,4,none⟩=some (.slice (some ⟨G.bf,0,none⟩) G.ns.length G.cf)∧wx.cell? ⟨G.g,6,none⟩=some (.int .i64 (k:Nat))) (first|exact⟨D4,D6⟩|exact⟨e4.o,e6.o⟩) (first|fail)
 clear c4 c6 bf zf D4 D6 e4 e6;have C2:=hD ((C1.o.to (show CkM G _ (.good { s with fn:=s.fn.set x k }) zs k from S2.o.1) S2.o.2).no ((fR _).drew));have F2:=hD ((F1.o.trans S2.o.2).trans (FrK.no ((fR _).drew)));clear S2 K1 C1 F1 HX5;generalize (w1.setCell ⟨G.bf,x,none⟩ (.int .i64 (k:Nat))).drew=w2 at *;have d0:w2.cell? ⟨C,0,none⟩=some (.int .i64 11):=by simpa using C2.o.b.cell 0
 go_wp2_with fail
 refine (lG (show Ck G w2 { s with fn:=s.fn.set x k } zs k 0 0 from C2.o.m) HK.o.1).mono ?_;rintro en w3 ⟨t,rfl,h3,f3,hq⟩;have C3:=hD (C2.o.to h3 f3);have F3:=hD (F2.o.trans f3);have HQ:=hD hq;clear h3 f3 hq d0;have d4:w3.cell? ⟨C,4,none⟩=some (.slice (some ⟨kb,0,none⟩) 1 kc):=by simpa using C3.o.b.cell 4
 have k0:=C3.o.m.kid HK.o.1 HK.o.2 (j:=0) (a:=a) rfl;go_wp2_with fail
 refine (HA w3 _ C3.o.m).mono ?_;rintro en w4 ⟨u,rfl,h4,f4,hq⟩;have M4:=hD h4;have F4:=hD (F3.o.trans f4);have HU:=hD hq;clear h4 f4 hq d4 k0;obtain⟨b,hbb⟩:∃b,((t:Int)==(u:Int))=b:=⟨_,rfl⟩;have HBB:=hD hbb;go_wp2_with fail
 refine dR (M4.o.must b x) λw5 M5 f5=>?_;have F5:=hD (F4.o.trans f5);clear f5;go_wp2
 refine fE rfl rfl ⟨rfl,?_,F5⟩;have h9:=M5.o.toN HM.o;have e8:(((aU x nm { s with fn:=s.fn.set x k }).map (·.2)).bind (ex a)).map (·.2)=((aU x nm { s with fn:=s.fn.set x k }).bind λt=>(ex a t.2).map λr=>((t.1,r.1),r.2)).map (·.2):=by
  cases aU x nm { s with fn:=s.fn.set x k } with
  | bad e p=>rfl
  | good q=>
   simp only[CkR.aC,CkR.bK];cases ex a q.2<;>rfl
 have e9:=aNz (q:=((aU x nm { s with fn:=s.fn.set x k }).bind λt=>(ex a t.2).map λr=>((t.1,r.1),r.2))) (x:=x) (b:=b) (P:=λ(n:Nat×Nat)=>n.1=n.2) (λq hq=>by
  obtain⟨c,hc,hq⟩:=CkR.bind_eq hq;obtain⟨d,hd,hq⟩:=CkR.map_eq hq;subst hq;have h1:=HQ.o c hc;have h2:=HU.o d (by rw[show aU x (⟨11,line,0,nm,[a]⟩:aG).name _=aU x nm _ from rfl,hc];exact hd);rw[<-HBB.o,Bool.eq_iff_iff]
  show _↔decide (c.1=d.1)=true
  rw[h1,h2];simp only[beq_iff_eq,decide_eq_true_eq];omega)
 have e7:jA G.fs k ex bl x ⟨11,line,0,nm,[a]⟩ s=((aU x nm { s with fn:=s.fn.set x k }).bind λt=>(ex a t.2).map λr=>((t.1,r.1),r.2)).bind λr=>if r.1.1=r.1.2 then CkR.good r.2 else .bad 42 x:=by
  show ((aU x nm { s with fn:=s.fn.set x k }).bind λt=>(ex a t.2).bind λr=>if t.1=r.1 then CkR.good r.2 else .bad 42 x)=_
  cases aU x nm { s with fn:=s.fn.set x k } with
  | bad e p=>rfl
  | good q=>
   simp only[CkR.aC];cases ex a q.2<;>rfl
 rw[e7,<-e9,<-e8];exact h9
theorem aLe (hM:G.M=24) (h:Ck G w s zs k 0 0) (hx:G.ns[x]?=some ⟨12,line,0,nm,[a,c]⟩) (ha:gW G zs k ex a) (hc:gW G zs k ex c):
  Calls prog 146 #[.pointer (some ⟨G.g,0,none⟩),.int .i64 x] w (lM G zs k (jA G.fs k ex bl x ⟨12,line,0,nm,[a,c]⟩ s) w):=by
 have M0:Hd (CkM G w (.good s) zs k):=h;obtain⟨nb,nc,kv,hnv,hkv,hown,nlt,hx3,c0,x0,x1,x2,x3,x4⟩:=M0.o.node hx;dsimp only at hown x0 x1 x2 x3 x4;have hx4:(G.ns.length:Int)≤300:=by have:=h.geo.few;omega
 have hx5:x<G.ns.length:=by omega
 have glt:=h.jB;have gn:¬G.g=w.heap.size:=by omega
 have nn:¬nb=w.heap.size:=by omega
 obtain⟨kb,kc,rfl,hkc,hcell⟩:=cB hown (by simp);have hkc2:2≤kc:=by simp at hkc;omega
 have HK:=hD (And.intro hx hkv);have HM:=hD hM;have C1:=hD (CkC.new M0 50 #[.int .i64 12,.int .i64 line,.int .i64 0,.string (bs nm),.slice (some ⟨kb,0,none⟩) 2 kc] (by decide));have F1:Hd (FrK G w (w.alloc (.cells #[.int .i64 12,.int .i64 line,.int .i64 0,.string (bs nm),.slice (some ⟨kb,0,none⟩) 2 kc] 50))):=FrK.no ((fR w).alloc _);have HX5:=hD hx5;clear h hx hkv hown hM hx5 hcell hkc;have HA:=hD ha;have HCX:=hD hc;clear ha hc;go_enter func146,ntmps146;go_wp2_with fail
 clear c0 x0 x1 x2 x3 x4 glt gn nlt nn;generalize w.alloc (.cells #[.int .i64 12,.int .i64 line,.int .i64 0,.string (bs nm),.slice (some ⟨kb,0,none⟩) 2 kc] 50)=w1 at *;generalize w.heap.size=C at *;have K1:Hd (Ck G w1 s zs k 0 0):=C1.o.m;obtain⟨_,_,-,-,-,-,c4,-,c6,-⟩:=K1.o.cells;obtain⟨⟨u2,bf⟩,zf⟩:=K1.o.fn.gM HX5.o;obtain⟨n1,n2,n3⟩:=K1.o.gne;have D4:=hD c4;have D6:=hD c6;have e4:=hD ((World.cell?_setCell_other w1.drew ⟨G.bf,x,none⟩ ⟨G.g,4,none⟩ (.int .i64 (k:Nat)) (by intro e;injection e with e;exact n3 e.symm)).trans c4);have e6:=hD ((World.cell?_setCell_other w1.drew ⟨G.bf,x,none⟩ ⟨G.g,6,none⟩ (.int .i64 (k:Nat)) (by intro e;injection e with e;exact n3 e.symm)).trans c6);have S2:=hD (K1.o.jS x k);clear n1 n2 n3;go_region_held3 (λwx=>wx.cell? ⟨G.g,4,none⟩=some (.slice (some ⟨G.bf,0,none⟩) G.ns.length G.cf)∧wx.cell? ⟨G.g,6,none⟩=some (.int .i64 (k:Nat))) (first|exact⟨D4,D6⟩|exact⟨e4.o,e6.o⟩) (first|fail)
 clear c4 c6 bf zf D4 D6 e4 e6;have C2:=hD ((C1.o.to (show CkM G _ (.good { s with fn:=s.fn.set x k }) zs k from S2.o.1) S2.o.2).no ((fR _).drew));have F2:=hD ((F1.o.trans S2.o.2).trans (FrK.no ((fR _).drew)));clear S2 K1 C1 F1 HX5;generalize (w1.setCell ⟨G.bf,x,none⟩ (.int .i64 (k:Nat))).drew=w2 at *;have d0:w2.cell? ⟨C,0,none⟩=some (.int .i64 12):=by simpa using C2.o.b.cell 0
 go_wp2_with fail
 refine (lG (show Ck G w2 { s with fn:=s.fn.set x k } zs k 0 0 from C2.o.m) HK.o.1).mono ?_;rintro en w3 ⟨t,rfl,h3,f3,hq⟩;have C3:=hD (C2.o.to h3 f3);have F3:=hD (F2.o.trans f3);have HQ:=hD hq;clear h3 f3 hq d0;have d4:w3.cell? ⟨C,4,none⟩=some (.slice (some ⟨kb,0,none⟩) 2 kc):=by simpa using C3.o.b.cell 4
 have k0:=C3.o.m.kid HK.o.1 HK.o.2 (j:=0) (a:=a) rfl;go_wp2_with fail
 refine (HA w3 _ C3.o.m).mono ?_;rintro en w4 ⟨u,rfl,h4,f4,hq⟩;have C4:=hD (C3.o.to h4 f4);have F4:=hD (F3.o.trans f4);have HU:=hD hq;clear h4 f4 hq d4 k0;have d4:w4.cell? ⟨C,4,none⟩=some (.slice (some ⟨kb,0,none⟩) 2 kc):=by simpa using C4.o.b.cell 4
 have k1:=C4.o.m.kid HK.o.1 HK.o.2 (j:=1) (a:=c) rfl;go_wp2_with fail
 refine (HCX w4 _ C4.o.m).mono ?_;rintro en w5 ⟨v,rfl,h5,f5,hq⟩;have M5:=hD h5;have F5:=hD (F4.o.trans f5);have HV:=hD hq;clear h5 f5 hq d4 k1;obtain⟨b4,hb4⟩:∃b,((t:Int)==4)=b:=⟨_,rfl⟩;obtain⟨b1,hb1⟩:∃b,((u:Int)==1)=b:=⟨_,rfl⟩;obtain⟨b2,hb2⟩:∃b,((v:Int)==1)=b:=⟨_,rfl⟩;have e8:=hD (show (((((aU x nm { s with fn:=s.fn.set x k }).map (·.2)).bind (ex a)).map (·.2)).bind (ex c)).map (·.2)=((aU x nm { s with fn:=s.fn.set x k }).bind λt=>(ex a t.2).bind λr=>(ex c r.2).map λq=>((t.1,r.1,q.1),q.2)).map (·.2) from by
  cases aU x nm { s with fn:=s.fn.set x k } with
  | bad e p=>rfl
  | good q=>
   simp only[CkR.aC,CkR.bK];cases ex a q.2 with
   | bad e p=>rfl
   | good r=>
    simp only[CkR.aC,CkR.bK];cases ex c r.2<;>rfl)
 have e7:=hD (show jA G.fs k ex bl x ⟨12,line,0,nm,[a,c]⟩ s=((aU x nm { s with fn:=s.fn.set x k }).bind λt=>(ex a t.2).bind λr=>(ex c r.2).map λq=>((t.1,r.1,q.1),q.2)).bind λr=>if r.1.1=4∧r.1.2.1=1∧r.1.2.2=1 then CkR.good r.2 else .bad 42 x from by
  show ((aU x nm { s with fn:=s.fn.set x k }).bind λt=>(ex a t.2).bind λr=>(ex c r.2).bind λq=>if t.1=4∧r.1=1∧q.1=1 then CkR.good q.2 else .bad 42 x)=_
  cases aU x nm { s with fn:=s.fn.set x k } with
  | bad e p=>rfl
  | good q=>
   simp only[CkR.aC];cases ex a q.2 with
   | bad e p=>rfl
   | good r=>
    simp only[CkR.aC];cases ex c r.2<;>rfl)
 have HP:=hD (show ∀q,((aU x nm { s with fn:=s.fn.set x k }).bind λt=>(ex a t.2).bind λr=>(ex c r.2).map λq=>((t.1,r.1,q.1),q.2)) = .good q->(b4 && b1 && b2)=decide (q.1.1=4∧q.1.2.1=1∧q.1.2.2=1) from by
  intro q hq;obtain⟨c1,hc1,hq⟩:=CkR.bind_eq hq;obtain⟨d1,hd1,hq⟩:=CkR.bind_eq hq;obtain⟨g1,hg1,hq⟩:=CkR.map_eq hq;subst hq;have h1:=HQ.o c1 hc1;have h2:=HU.o d1 (by rw[show aU x (⟨12,line,0,nm,[a,c]⟩:aG).name _=aU x nm _ from rfl,hc1];exact hd1);have h3:=HV.o g1 (by rw[show aU x (⟨12,line,0,nm,[a,c]⟩:aG).name _=aU x nm _ from rfl,hc1,CkR.bK,CkR.aC,hd1];exact hg1)
  show _=decide (c1.1=4∧d1.1=1∧g1.1=1)
  rw[h1,h2,h3,<-hb4,<-hb1,<-hb2,Bool.eq_iff_iff];simp only[Bool.and_eq_true,beq_iff_eq,decide_eq_true_eq];omega)
 cases b4<;>cases b1<;>cases b2
 all_goals
  go_wp2_with fail
  refine dR (M5.o.must _ x) λw6 M6 f6=>?_;have F6:=hD (F5.o.trans f6);clear f6;go_wp2
  refine fE rfl rfl ⟨rfl,?_,F6⟩;have h9:=M6.o.toN HM.o;have e9:=aNz (q:=((aU x nm { s with fn:=s.fn.set x k }).bind λt=>(ex a t.2).bind λr=>(ex c r.2).map λq=>((t.1,r.1,q.1),q.2))) (x:=x) (P:=λ(n:Nat×Nat×Nat)=>n.1=4∧n.2.1=1∧n.2.2=1) (λq hq=>HP.o q hq);rw[show aU x (⟨12,line,0,nm,[a,c]⟩:aG).name _=aU x nm _ from rfl,e8.o] at h9;simp only[Bool.or_false,Bool.or_true,Bool.false_or,Bool.true_or,Bool.and_true,Bool.and_false,Bool.false_and,Bool.true_and,Bool.false_eq_true,if_true,if_false,eq_self,ite_true,ite_false] at e9 h9;rw[e9] at h9;rw[e7.o];exact h9
theorem aLh (hM:G.M=24) (h:Ck G w s zs k 0 0) (hx:G.ns[x]?=some ⟨15,line,0,[],[a,c]⟩) (ha:gW G zs k ex a) (hb:∀y∈[c],aIo G zs k bl y):
  Calls prog 146 #[.pointer (some ⟨G.g,0,none⟩),.int .i64 x] w (lM G zs k (jA G.fs k ex bl x ⟨15,line,0,[],[a,c]⟩ s) w):=by
 have M0:Hd (CkM G w (.good s) zs k):=h;obtain⟨nb,nc,kv,hnv,hkv,hown,nlt,hx3,c0,x0,x1,x2,x3,x4⟩:=M0.o.node hx;dsimp only at hown x0 x1 x2 x3 x4;have hx4:(G.ns.length:Int)≤300:=by have:=h.geo.few;omega
 have hx5:x<G.ns.length:=by omega
 have glt:=h.jB;have gn:¬G.g=w.heap.size:=by omega
 have nn:¬nb=w.heap.size:=by omega
 obtain⟨kb,kc,rfl,hkc,hcell⟩:=cB hown (by simp);have hkc2:2≤kc:=by simp at hkc;omega
 have HK:=hD (And.intro hx hkv);have HM:=hD hM;have C1:=hD (CkC.new M0 50 #[.int .i64 15,.int .i64 line,.int .i64 0,.string (bs []),.slice (some ⟨kb,0,none⟩) 2 kc] (by decide));have F1:Hd (FrK G w (w.alloc (.cells #[.int .i64 15,.int .i64 line,.int .i64 0,.string (bs []),.slice (some ⟨kb,0,none⟩) 2 kc] 50))):=FrK.no ((fR w).alloc _);have HX5:=hD hx5;clear h hx hkv hown hM hx5 hcell hkc;have HA:=hD ha;have HB:=hD hb;clear ha hb;go_enter func146,ntmps146;go_wp2_with fail
 clear c0 x0 x1 x2 x3 x4 glt gn nlt nn;generalize w.alloc (.cells #[.int .i64 15,.int .i64 line,.int .i64 0,.string (bs []),.slice (some ⟨kb,0,none⟩) 2 kc] 50)=w1 at *;generalize w.heap.size=C at *;have K1:Hd (Ck G w1 s zs k 0 0):=C1.o.m;obtain⟨_,_,-,-,-,-,c4,-,c6,-⟩:=K1.o.cells;obtain⟨⟨u2,bf⟩,zf⟩:=K1.o.fn.gM HX5.o;obtain⟨n1,n2,n3⟩:=K1.o.gne;have D4:=hD c4;have D6:=hD c6;have e4:=hD ((World.cell?_setCell_other w1.drew ⟨G.bf,x,none⟩ ⟨G.g,4,none⟩ (.int .i64 (k:Nat)) (by intro e;injection e with e;exact n3 e.symm)).trans c4);have e6:=hD ((World.cell?_setCell_other w1.drew ⟨G.bf,x,none⟩ ⟨G.g,6,none⟩ (.int .i64 (k:Nat)) (by intro e;injection e with e;exact n3 e.symm)).trans c6);have S2:=hD (K1.o.jS x k);clear n1 n2 n3;go_region_held3 (λwx=>wx.cell? ⟨G.g,4,none⟩=some (.slice (some ⟨G.bf,0,none⟩) G.ns.length G.cf)∧wx.cell? ⟨G.g,6,none⟩=some (.int .i64 (k:Nat))) (first|exact⟨D4,D6⟩|exact⟨e4.o,e6.o⟩) (first|fail)
 clear c4 c6 bf zf D4 D6 e4 e6;have C2:=hD ((C1.o.to (show CkM G _ (.good { s with fn:=s.fn.set x k }) zs k from S2.o.1) S2.o.2).no ((fR _).drew));have F2:=hD ((F1.o.trans S2.o.2).trans (FrK.no ((fR _).drew)));clear S2 K1 C1 F1 HX5;generalize (w1.setCell ⟨G.bf,x,none⟩ (.int .i64 (k:Nat))).drew=w2 at *;have d0:w2.cell? ⟨C,0,none⟩=some (.int .i64 15):=by simpa using C2.o.b.cell 0
 have d4:w2.cell? ⟨C,4,none⟩=some (.slice (some ⟨kb,0,none⟩) 2 kc):=by simpa using C2.o.b.cell 4
 have k0:=C2.o.m.kid HK.o.1 HK.o.2 (j:=0) (a:=a) rfl;go_wp2_with fail
 refine (HA w2 _ C2.o.m).mono ?_;rintro en w3 ⟨t,rfl,h3,f3,hq⟩;have C3:=hD (C2.o.to h3 f3);have F3:=hD (F2.o.trans f3);have HQ:=hD hq;clear h3 f3 hq d0 d4 k0;obtain⟨b,hbb⟩:∃b,((t:Int)==2)=b:=⟨_,rfl⟩;have HBB:=hD hbb;go_wp2_with fail
 refine (C3.o.m.must b x).mono ?_;rintro en w4 ⟨rfl,h4,f4⟩;have E:=hD (show jA G.fs k ex bl x ⟨15,line,0,[],[a,c]⟩ s=((ex a { s with fn:=s.fn.set x k }).bind λr=>if r.1=2 then CkR.good r.2 else .bad 42 x).bind (eG bl [c]) from by
  show ((ex a { s with fn:=s.fn.set x k }).bind λr=>if r.1=2 then eG bl [c] r.2 else .bad 42 x)=_
  cases ex a { s with fn:=s.fn.set x k } with
  | bad e p=>rfl
  | good u=>
    simp only[CkR.aC];split<;>rfl)
 have N4:=hD (show CkN G w4 (((ex a { s with fn:=s.fn.set x k }).bind λr=>if r.1=2 then CkR.good r.2 else .bad 42 x).bind (eG bl ([c].take 0))) zs k from by
  have h9:=h4.toN HM.o;rw[CkR.aC] at h9;have e9:=aNz (q:=ex a { s with fn:=s.fn.set x k }) (x:=x) (b:=b) (P:=λ(n:Nat)=>n=2) (λq hq=>by
    rw[HQ.o q hq,<-HBB.o,Bool.eq_iff_iff];simp only[beq_iff_eq,decide_eq_true_eq];omega)
  rw[e9] at h9;have e6:((ex a { s with fn:=s.fn.set x k }).bind λr=>if r.1=2 then CkR.good r.2 else .bad 42 x).bind (eG bl ([c].take 0))=((ex a { s with fn:=s.fn.set x k }).bind λr=>if r.1=2 then CkR.good r.2 else .bad 42 x):=by cases ((ex a { s with fn:=s.fn.set x k }).bind λr=>if r.1=2 then CkR.good r.2 else .bad 42 x)<;>rfl
  rw[e6];exact h9)
 have B4:=hD (f4.far C3.o.b C3.o.n0 C3.o.n1 C3.o.n2 C3.o.n3 (by decide));have F4:=hD (F3.o.trans f4);have NN:=hD (And.intro (And.intro C3.o.n0 C3.o.n1) (And.intro C3.o.n2 C3.o.n3));clear h4 f4;generalize ((ex a { s with fn:=s.fn.set x k }).bind λr=>if r.1=2 then CkR.good r.2 else .bad 42 x)=R at *;go_wp2
 go_loopw [12] (λi wr=>∃j:Nat,1≤j∧j≤2∧i = .int .i64 j∧Hd (CkN G wr (R.bind (eG bl ([c].take (j - 1)))) zs k)∧Hd (Blk wr C 50 #[.int .i64 15,.int .i64 line,.int .i64 0,.string (bs []),.slice (some ⟨kb,0,none⟩) 2 kc])∧Hd (FrK G w wr)) (λi _=>2 - (intOf i).toNat)
 case atStart=>exact⟨1,by decide,by decide,rfl,N4,B4,F4⟩
 case round=>
  clear N4 B4 F4;obtain⟨j,hj1,hj,rfl,N,B,FR⟩:=hrel;have d4:wr.cell? ⟨C,4,none⟩=some (.slice (some ⟨kb,0,none⟩) 2 kc):=by simpa using B.o.cell 4
  obtain⟨s5,e5,p5,hck,hm⟩:=N.o.open_ HM.o;obtain⟨_,_,-,-,-,-,-,-,-,-,-,c9,-⟩:=hck.cells;have c9:wr.cell? ⟨G.g,9,none⟩=some (.int .i64 (e5:Nat)):=c9;by_cases hgo:j<2∧e5=0
  . obtain⟨hlt,rfl⟩:=hgo
    have hlt2:(j:Int)<2:=by omega
    rcases hm with ⟨_,rfl,hm⟩|⟨h0,_⟩
    case inr=>exact absurd rfl h0
    have NG:=hD (show Ck G wr s5 zs k 0 0 from by have h9:=N.o;rw[hm] at h9;exact h9);obtain⟨y,hy⟩:∃y,[a,c][j]?=some y:=⟨_,gE (by simpa using hlt)⟩;have hy1:[c][j - 1]?=some y:=by
      have e1:[a,c][j - 1+1]?=some y:=by rw[show j - 1+1=j by omega];exact hy
      simpa using e1
    have kj:=(show CkM G wr (.good s5) zs k from NG).kid HK.o.1 HK.o.2 (j:=j) (a:=y) hy;have HS:=hD (show R.bind (eG bl ([c].take (j+1 - 1)))=bl y s5 from by
      have e1:[c].take (j+1 - 1)=[c].take (j - 1)++[y]:=by rw[show j+1 - 1=j - 1+1 by omega,List.take_add_one,hy1];rfl
      rw[e1];cases R with
      | bad e p=>cases hm
      | good u=>
        have hm:eG bl ([c].take (j - 1)) u = .good s5:=hm
        show eG bl ([c].take (j - 1)++[y]) u=_
        rw[iB,hm];rfl)
    have HY:=hD (HB y (List.mem_of_getElem? hy1));have HJ:=hD hlt;have klt:=World.block_lt_of_cell? _ _ kj;clear hck hm hy hy1 hlt;go_wp2_with fail
    refine (HY wr s5 NG).mono ?_;rintro en w6 ⟨rfl,h6,f6⟩;have N6:=hD h6;have F6:=hD (FR.o.trans f6);have B6:=hD (f6.far B NN.o.1.1 NN.o.1.2 NN.o.2.1 NN.o.2.2 (by decide));clear h6 f6 d4 kj c9 klt;go_wp2
    go_roundw
    case rel=>exact⟨j+1,by omega,by have:=HJ.o;omega,by go_num,hD (by rw[HS.o];exact N6),B6,F6⟩
    case measure=>simp[intOf];have:=HJ.o;omega
  . have HF:=hD (show CkN G wr (jA G.fs k ex bl x ⟨15,line,0,[],[a,c]⟩ s) zs k from by
      rw[E.o];by_cases hj9:j<2
      . rcases hm with ⟨h0,_⟩|⟨h0,h99,hm⟩
        . exact absurd ⟨hj9,h0⟩ hgo
        . have e2:R.bind (eG bl [c]) = .bad e5 p5:=by
           cases R with
           | bad e p=>exact hm
           | good u=>
            have hm:eG bl ([c].take (j - 1)) u = .bad e5 p5:=hm;have:=oN ([c].take (j - 1)) ([c].drop (j - 1)) u hm;rwa [List.take_append_drop] at this
          rw[e2];exact⟨h0,h99,s5,hck⟩
      . have h9:=N.o
        rw[show [c].take (j - 1)=[c] from List.take_of_length_le (by simp;omega)] at h9;exact h9)
    by_cases hlt:j<2
    . have hlt2:(j:Int)<2:=by omega
      have he:((e5:Int)==0)=false:=bN.2 (by intro h;exact hgo ⟨hlt,by omega⟩);clear hgo hm hck hlt;go_wp2
      exact fE rfl rfl ⟨rfl,HF,FR⟩
    . have hle:2≤(j:Int):=by omega
      clear hgo hm hck hlt;go_wp2
      exact fE rfl rfl ⟨rfl,HF,FR⟩
theorem aLg (hM:G.M=24){d:Nat} (h:Ck G w s zs k 0 0) (hx:G.ns[x]?=some ⟨15,line,0,[],[a,c,d]⟩) (ha:gW G zs k ex a) (hb:∀y∈[c,d],aIo G zs k bl y):
  Calls prog 146 #[.pointer (some ⟨G.g,0,none⟩),.int .i64 x] w (lM G zs k (jA G.fs k ex bl x ⟨15,line,0,[],[a,c,d]⟩ s) w):=by
 have M0:Hd (CkM G w (.good s) zs k):=h;obtain⟨nb,nc,kv,hnv,hkv,hown,nlt,hx3,c0,x0,x1,x2,x3,x4⟩:=M0.o.node hx;dsimp only at hown x0 x1 x2 x3 x4;have hx4:(G.ns.length:Int)≤300:=by have:=h.geo.few;omega
 have hx5:x<G.ns.length:=by omega
 have glt:=h.jB;have gn:¬G.g=w.heap.size:=by omega
 have nn:¬nb=w.heap.size:=by omega
 obtain⟨kb,kc,rfl,hkc,hcell⟩:=cB hown (by simp);have hkc2:3≤kc:=by simp at hkc;omega
 have HK:=hD (And.intro hx hkv);have HM:=hD hM;have C1:=hD (CkC.new M0 50 #[.int .i64 15,.int .i64 line,.int .i64 0,.string (bs []),.slice (some ⟨kb,0,none⟩) 3 kc] (by decide));have F1:Hd (FrK G w (w.alloc (.cells #[.int .i64 15,.int .i64 line,.int .i64 0,.string (bs []),.slice (some ⟨kb,0,none⟩) 3 kc] 50))):=FrK.no ((fR w).alloc _);have HX5:=hD hx5;clear h hx hkv hown hM hx5 hcell hkc;have HA:=hD ha;have HB:=hD hb;clear ha hb;go_enter func146,ntmps146;go_wp2_with fail
 clear c0 x0 x1 x2 x3 x4 glt gn nlt nn;generalize w.alloc (.cells #[.int .i64 15,.int .i64 line,.int .i64 0,.string (bs []),.slice (some ⟨kb,0,none⟩) 3 kc] 50)=w1 at *;generalize w.heap.size=C at *;have K1:Hd (Ck G w1 s zs k 0 0):=C1.o.m;obtain⟨_,_,-,-,-,-,c4,-,c6,-⟩:=K1.o.cells;obtain⟨⟨u2,bf⟩,zf⟩:=K1.o.fn.gM HX5.o;obtain⟨n1,n2,n3⟩:=K1.o.gne;have D4:=hD c4;have D6:=hD c6;have e4:=hD ((World.cell?_setCell_other w1.drew ⟨G.bf,x,none⟩ ⟨G.g,4,none⟩ (.int .i64 (k:Nat)) (by intro e;injection e with e;exact n3 e.symm)).trans c4);have e6:=hD ((World.cell?_setCell_other w1.drew ⟨G.bf,x,none⟩ ⟨G.g,6,none⟩ (.int .i64 (k:Nat)) (by intro e;injection e with e;exact n3 e.symm)).trans c6);have S2:=hD (K1.o.jS x k);clear n1 n2 n3;go_region_held3 (λwx=>wx.cell? ⟨G.g,4,none⟩=some (.slice (some ⟨G.bf,0,none⟩) G.ns.length G.cf)∧wx.cell? ⟨G.g,6,none⟩=some (.int .i64 (k:Nat))) (first|exact⟨D4,D6⟩|exact⟨e4.o,e6.o⟩) (first|fail)
 clear c4 c6 bf zf D4 D6 e4 e6;have C2:=hD ((C1.o.to (show CkM G _ (.good { s with fn:=s.fn.set x k }) zs k from S2.o.1) S2.o.2).no ((fR _).drew));have F2:=hD ((F1.o.trans S2.o.2).trans (FrK.no ((fR _).drew)));clear S2 K1 C1 F1 HX5;generalize (w1.setCell ⟨G.bf,x,none⟩ (.int .i64 (k:Nat))).drew=w2 at *;have d0:w2.cell? ⟨C,0,none⟩=some (.int .i64 15):=by simpa using C2.o.b.cell 0
 have d4:w2.cell? ⟨C,4,none⟩=some (.slice (some ⟨kb,0,none⟩) 3 kc):=by simpa using C2.o.b.cell 4
 have k0:=C2.o.m.kid HK.o.1 HK.o.2 (j:=0) (a:=a) rfl;go_wp2_with fail
 refine (HA w2 _ C2.o.m).mono ?_;rintro en w3 ⟨t,rfl,h3,f3,hq⟩;have C3:=hD (C2.o.to h3 f3);have F3:=hD (F2.o.trans f3);have HQ:=hD hq;clear h3 f3 hq d0 d4 k0;obtain⟨b,hbb⟩:∃b,((t:Int)==2)=b:=⟨_,rfl⟩;have HBB:=hD hbb;go_wp2_with fail
 refine (C3.o.m.must b x).mono ?_;rintro en w4 ⟨rfl,h4,f4⟩;have E:=hD (show jA G.fs k ex bl x ⟨15,line,0,[],[a,c,d]⟩ s=((ex a { s with fn:=s.fn.set x k }).bind λr=>if r.1=2 then CkR.good r.2 else .bad 42 x).bind (eG bl [c,d]) from by
  show ((ex a { s with fn:=s.fn.set x k }).bind λr=>if r.1=2 then eG bl [c,d] r.2 else .bad 42 x)=_
  cases ex a { s with fn:=s.fn.set x k } with
  | bad e p=>rfl
  | good u=>
    simp only[CkR.aC];split<;>rfl)
 have N4:=hD (show CkN G w4 (((ex a { s with fn:=s.fn.set x k }).bind λr=>if r.1=2 then CkR.good r.2 else .bad 42 x).bind (eG bl ([c,d].take 0))) zs k from by
  have h9:=h4.toN HM.o;rw[CkR.aC] at h9;have e9:=aNz (q:=ex a { s with fn:=s.fn.set x k }) (x:=x) (b:=b) (P:=λ(n:Nat)=>n=2) (λq hq=>by
    rw[HQ.o q hq,<-HBB.o,Bool.eq_iff_iff];simp only[beq_iff_eq,decide_eq_true_eq];omega)
  rw[e9] at h9;have e6:((ex a { s with fn:=s.fn.set x k }).bind λr=>if r.1=2 then CkR.good r.2 else .bad 42 x).bind (eG bl ([c,d].take 0))=((ex a { s with fn:=s.fn.set x k }).bind λr=>if r.1=2 then CkR.good r.2 else .bad 42 x):=by cases ((ex a { s with fn:=s.fn.set x k }).bind λr=>if r.1=2 then CkR.good r.2 else .bad 42 x)<;>rfl
  rw[e6];exact h9)
 have B4:=hD (f4.far C3.o.b C3.o.n0 C3.o.n1 C3.o.n2 C3.o.n3 (by decide));have F4:=hD (F3.o.trans f4);have NN:=hD (And.intro (And.intro C3.o.n0 C3.o.n1) (And.intro C3.o.n2 C3.o.n3));clear h4 f4;generalize ((ex a { s with fn:=s.fn.set x k }).bind λr=>if r.1=2 then CkR.good r.2 else .bad 42 x)=R at *;go_wp2
 go_loopw [12] (λi wr=>∃j:Nat,1≤j∧j≤3∧i = .int .i64 j∧Hd (CkN G wr (R.bind (eG bl ([c,d].take (j - 1)))) zs k)∧Hd (Blk wr C 50 #[.int .i64 15,.int .i64 line,.int .i64 0,.string (bs []),.slice (some ⟨kb,0,none⟩) 3 kc])∧Hd (FrK G w wr)) (λi _=>3 - (intOf i).toNat)
 case atStart=>exact⟨1,by decide,by decide,rfl,N4,B4,F4⟩
 case round=>
  clear N4 B4 F4;obtain⟨j,hj1,hj,rfl,N,B,FR⟩:=hrel;have d4:wr.cell? ⟨C,4,none⟩=some (.slice (some ⟨kb,0,none⟩) 3 kc):=by simpa using B.o.cell 4
  obtain⟨s5,e5,p5,hck,hm⟩:=N.o.open_ HM.o;obtain⟨_,_,-,-,-,-,-,-,-,-,-,c9,-⟩:=hck.cells;have c9:wr.cell? ⟨G.g,9,none⟩=some (.int .i64 (e5:Nat)):=c9;by_cases hgo:j<3∧e5=0
  . obtain⟨hlt,rfl⟩:=hgo
    have hlt2:(j:Int)<3:=by omega
    rcases hm with ⟨_,rfl,hm⟩|⟨h0,_⟩
    case inr=>exact absurd rfl h0
    have NG:=hD (show Ck G wr s5 zs k 0 0 from by have h9:=N.o;rw[hm] at h9;exact h9);obtain⟨y,hy⟩:∃y,[a,c,d][j]?=some y:=⟨_,gE (by simpa using hlt)⟩;have hy1:[c,d][j - 1]?=some y:=by
      have e1:[a,c,d][j - 1+1]?=some y:=by rw[show j - 1+1=j by omega];exact hy
      simpa using e1
    have kj:=(show CkM G wr (.good s5) zs k from NG).kid HK.o.1 HK.o.2 (j:=j) (a:=y) hy;have HS:=hD (show R.bind (eG bl ([c,d].take (j+1 - 1)))=bl y s5 from by
      have e1:[c,d].take (j+1 - 1)=[c,d].take (j - 1)++[y]:=by rw[show j+1 - 1=j - 1+1 by omega,List.take_add_one,hy1];rfl
      rw[e1];cases R with
      | bad e p=>cases hm
      | good u=>
        have hm:eG bl ([c,d].take (j - 1)) u = .good s5:=hm
        show eG bl ([c,d].take (j - 1)++[y]) u=_
        rw[iB,hm];rfl)
    have HY:=hD (HB y (List.mem_of_getElem? hy1));have HJ:=hD hlt;have klt:=World.block_lt_of_cell? _ _ kj;clear hck hm hy hy1 hlt;go_wp2_with fail
    refine (HY wr s5 NG).mono ?_;rintro en w6 ⟨rfl,h6,f6⟩;have N6:=hD h6;have F6:=hD (FR.o.trans f6);have B6:=hD (f6.far B NN.o.1.1 NN.o.1.2 NN.o.2.1 NN.o.2.2 (by decide));clear h6 f6 d4 kj c9 klt;go_wp2
    go_roundw
    case rel=>exact⟨j+1,by omega,by have:=HJ.o;omega,by go_num,hD (by rw[HS.o];exact N6),B6,F6⟩
    case measure=>simp[intOf];have:=HJ.o;omega
  . have HF:=hD (show CkN G wr (jA G.fs k ex bl x ⟨15,line,0,[],[a,c,d]⟩ s) zs k from by
      rw[E.o];by_cases hj9:j<3
      . rcases hm with ⟨h0,_⟩|⟨h0,h99,hm⟩
        . exact absurd ⟨hj9,h0⟩ hgo
        . have e2:R.bind (eG bl [c,d]) = .bad e5 p5:=by
           cases R with
           | bad e p=>exact hm
           | good u=>
            have hm:eG bl ([c,d].take (j - 1)) u = .bad e5 p5:=hm;have:=oN ([c,d].take (j - 1)) ([c,d].drop (j - 1)) u hm;rwa [List.take_append_drop] at this
          rw[e2];exact⟨h0,h99,s5,hck⟩
      . have h9:=N.o
        rw[show [c,d].take (j - 1)=[c,d] from List.take_of_length_le (by simp;omega)] at h9;exact h9)
    by_cases hlt:j<3
    . have hlt2:(j:Int)<3:=by omega
      have he:((e5:Int)==0)=false:=bN.2 (by intro h;exact hgo ⟨hlt,by omega⟩);clear hgo hm hck hlt;go_wp2
      exact fE rfl rfl ⟨rfl,HF,FR⟩
    . have hle:3≤(j:Int):=by omega
      clear hgo hm hck hlt;go_wp2
      exact fE rfl rfl ⟨rfl,HF,FR⟩
theorem aHr (hM:G.M=24) (h:Ck G w s zs k 0 0) (hx:G.ns[x]?=some ⟨16,line,0,[],[a,c]⟩) (ha:gW G zs k ex a) (hb:∀y∈[c],aIo G zs k bl y):
  Calls prog 146 #[.pointer (some ⟨G.g,0,none⟩),.int .i64 x] w (lM G zs k (jA G.fs k ex bl x ⟨16,line,0,[],[a,c]⟩ s) w):=by
 have M0:Hd (CkM G w (.good s) zs k):=h;obtain⟨nb,nc,kv,hnv,hkv,hown,nlt,hx3,c0,x0,x1,x2,x3,x4⟩:=M0.o.node hx;dsimp only at hown x0 x1 x2 x3 x4;have hx4:(G.ns.length:Int)≤300:=by have:=h.geo.few;omega
 have hx5:x<G.ns.length:=by omega
 have glt:=h.jB;have gn:¬G.g=w.heap.size:=by omega
 have nn:¬nb=w.heap.size:=by omega
 obtain⟨kb,kc,rfl,hkc,hcell⟩:=cB hown (by simp);have hkc2:2≤kc:=by simp at hkc;omega
 have HK:=hD (And.intro hx hkv);have HM:=hD hM;have C1:=hD (CkC.new M0 50 #[.int .i64 16,.int .i64 line,.int .i64 0,.string (bs []),.slice (some ⟨kb,0,none⟩) 2 kc] (by decide));have F1:Hd (FrK G w (w.alloc (.cells #[.int .i64 16,.int .i64 line,.int .i64 0,.string (bs []),.slice (some ⟨kb,0,none⟩) 2 kc] 50))):=FrK.no ((fR w).alloc _);have HX5:=hD hx5;clear h hx hkv hown hM hx5 hcell hkc;have HA:=hD ha;have HB:=hD hb;clear ha hb;go_enter func146,ntmps146;go_wp2_with fail
 clear c0 x0 x1 x2 x3 x4 glt gn nlt nn;generalize w.alloc (.cells #[.int .i64 16,.int .i64 line,.int .i64 0,.string (bs []),.slice (some ⟨kb,0,none⟩) 2 kc] 50)=w1 at *;generalize w.heap.size=C at *;have K1:Hd (Ck G w1 s zs k 0 0):=C1.o.m;obtain⟨_,_,-,-,-,-,c4,-,c6,-⟩:=K1.o.cells;obtain⟨⟨u2,bf⟩,zf⟩:=K1.o.fn.gM HX5.o;obtain⟨n1,n2,n3⟩:=K1.o.gne;have D4:=hD c4;have D6:=hD c6;have e4:=hD ((World.cell?_setCell_other w1.drew ⟨G.bf,x,none⟩ ⟨G.g,4,none⟩ (.int .i64 (k:Nat)) (by intro e;injection e with e;exact n3 e.symm)).trans c4);have e6:=hD ((World.cell?_setCell_other w1.drew ⟨G.bf,x,none⟩ ⟨G.g,6,none⟩ (.int .i64 (k:Nat)) (by intro e;injection e with e;exact n3 e.symm)).trans c6);have S2:=hD (K1.o.jS x k);clear n1 n2 n3;go_region_held3 (λwx=>wx.cell? ⟨G.g,4,none⟩=some (.slice (some ⟨G.bf,0,none⟩) G.ns.length G.cf)∧wx.cell? ⟨G.g,6,none⟩=some (.int .i64 (k:Nat))) (first|exact⟨D4,D6⟩|exact⟨e4.o,e6.o⟩) (first|fail)
 clear c4 c6 bf zf D4 D6 e4 e6;have C2:=hD ((C1.o.to (show CkM G _ (.good { s with fn:=s.fn.set x k }) zs k from S2.o.1) S2.o.2).no ((fR _).drew));have F2:=hD ((F1.o.trans S2.o.2).trans (FrK.no ((fR _).drew)));clear S2 K1 C1 F1 HX5;generalize (w1.setCell ⟨G.bf,x,none⟩ (.int .i64 (k:Nat))).drew=w2 at *;have d0:w2.cell? ⟨C,0,none⟩=some (.int .i64 16):=by simpa using C2.o.b.cell 0
 have d4:w2.cell? ⟨C,4,none⟩=some (.slice (some ⟨kb,0,none⟩) 2 kc):=by simpa using C2.o.b.cell 4
 have k0:=C2.o.m.kid HK.o.1 HK.o.2 (j:=0) (a:=a) rfl;go_wp2_with fail
 refine (HA w2 _ C2.o.m).mono ?_;rintro en w3 ⟨t,rfl,h3,f3,hq⟩;have C3:=hD (C2.o.to h3 f3);have F3:=hD (F2.o.trans f3);have HQ:=hD hq;clear h3 f3 hq d0 d4 k0;obtain⟨b,hbb⟩:∃b,((t:Int)==2)=b:=⟨_,rfl⟩;have HBB:=hD hbb;go_wp2_with fail
 refine (C3.o.m.must b x).mono ?_;rintro en w4 ⟨rfl,h4,f4⟩;have E:=hD (show jA G.fs k ex bl x ⟨16,line,0,[],[a,c]⟩ s=((ex a { s with fn:=s.fn.set x k }).bind λr=>if r.1=2 then CkR.good r.2 else .bad 42 x).bind (eG bl [c]) from by
  show ((ex a { s with fn:=s.fn.set x k }).bind λr=>if r.1=2 then eG bl [c] r.2 else .bad 42 x)=_
  cases ex a { s with fn:=s.fn.set x k } with
  | bad e p=>rfl
  | good u=>
    simp only[CkR.aC];split<;>rfl)
 have N4:=hD (show CkN G w4 (((ex a { s with fn:=s.fn.set x k }).bind λr=>if r.1=2 then CkR.good r.2 else .bad 42 x).bind (eG bl ([c].take 0))) zs k from by
  have h9:=h4.toN HM.o;rw[CkR.aC] at h9;have e9:=aNz (q:=ex a { s with fn:=s.fn.set x k }) (x:=x) (b:=b) (P:=λ(n:Nat)=>n=2) (λq hq=>by
    rw[HQ.o q hq,<-HBB.o,Bool.eq_iff_iff];simp only[beq_iff_eq,decide_eq_true_eq];omega)
  rw[e9] at h9;have e6:((ex a { s with fn:=s.fn.set x k }).bind λr=>if r.1=2 then CkR.good r.2 else .bad 42 x).bind (eG bl ([c].take 0))=((ex a { s with fn:=s.fn.set x k }).bind λr=>if r.1=2 then CkR.good r.2 else .bad 42 x):=by cases ((ex a { s with fn:=s.fn.set x k }).bind λr=>if r.1=2 then CkR.good r.2 else .bad 42 x)<;>rfl
  rw[e6];exact h9)
 have B4:=hD (f4.far C3.o.b C3.o.n0 C3.o.n1 C3.o.n2 C3.o.n3 (by decide));have F4:=hD (F3.o.trans f4);have NN:=hD (And.intro (And.intro C3.o.n0 C3.o.n1) (And.intro C3.o.n2 C3.o.n3));clear h4 f4;generalize ((ex a { s with fn:=s.fn.set x k }).bind λr=>if r.1=2 then CkR.good r.2 else .bad 42 x)=R at *;go_wp2
 go_loopw [12] (λi wr=>∃j:Nat,1≤j∧j≤2∧i = .int .i64 j∧Hd (CkN G wr (R.bind (eG bl ([c].take (j - 1)))) zs k)∧Hd (Blk wr C 50 #[.int .i64 16,.int .i64 line,.int .i64 0,.string (bs []),.slice (some ⟨kb,0,none⟩) 2 kc])∧Hd (FrK G w wr)) (λi _=>2 - (intOf i).toNat)
 case atStart=>exact⟨1,by decide,by decide,rfl,N4,B4,F4⟩
 case round=>
  clear N4 B4 F4;obtain⟨j,hj1,hj,rfl,N,B,FR⟩:=hrel;have d4:wr.cell? ⟨C,4,none⟩=some (.slice (some ⟨kb,0,none⟩) 2 kc):=by simpa using B.o.cell 4
  obtain⟨s5,e5,p5,hck,hm⟩:=N.o.open_ HM.o;obtain⟨_,_,-,-,-,-,-,-,-,-,-,c9,-⟩:=hck.cells;have c9:wr.cell? ⟨G.g,9,none⟩=some (.int .i64 (e5:Nat)):=c9;by_cases hgo:j<2∧e5=0
  . obtain⟨hlt,rfl⟩:=hgo
    have hlt2:(j:Int)<2:=by omega
    rcases hm with ⟨_,rfl,hm⟩|⟨h0,_⟩
    case inr=>exact absurd rfl h0
    have NG:=hD (show Ck G wr s5 zs k 0 0 from by have h9:=N.o;rw[hm] at h9;exact h9);obtain⟨y,hy⟩:∃y,[a,c][j]?=some y:=⟨_,gE (by simpa using hlt)⟩;have hy1:[c][j - 1]?=some y:=by
      have e1:[a,c][j - 1+1]?=some y:=by rw[show j - 1+1=j by omega];exact hy
      simpa using e1
    have kj:=(show CkM G wr (.good s5) zs k from NG).kid HK.o.1 HK.o.2 (j:=j) (a:=y) hy;have HS:=hD (show R.bind (eG bl ([c].take (j+1 - 1)))=bl y s5 from by
      have e1:[c].take (j+1 - 1)=[c].take (j - 1)++[y]:=by rw[show j+1 - 1=j - 1+1 by omega,List.take_add_one,hy1];rfl
      rw[e1];cases R with
      | bad e p=>cases hm
      | good u=>
        have hm:eG bl ([c].take (j - 1)) u = .good s5:=hm
        show eG bl ([c].take (j - 1)++[y]) u=_
        rw[iB,hm];rfl)
    have HY:=hD (HB y (List.mem_of_getElem? hy1));have HJ:=hD hlt;have klt:=World.block_lt_of_cell? _ _ kj;clear hck hm hy hy1 hlt;go_wp2_with fail
    refine (HY wr s5 NG).mono ?_;rintro en w6 ⟨rfl,h6,f6⟩;have N6:=hD h6;have F6:=hD (FR.o.trans f6);have B6:=hD (f6.far B NN.o.1.1 NN.o.1.2 NN.o.2.1 NN.o.2.2 (by decide));clear h6 f6 d4 kj c9 klt;go_wp2
    go_roundw
    case rel=>exact⟨j+1,by omega,by have:=HJ.o;omega,by go_num,hD (by rw[HS.o];exact N6),B6,F6⟩
    case measure=>simp[intOf];have:=HJ.o;omega
  . have HF:=hD (show CkN G wr (jA G.fs k ex bl x ⟨16,line,0,[],[a,c]⟩ s) zs k from by
      rw[E.o];by_cases hj9:j<2
      . rcases hm with ⟨h0,_⟩|⟨h0,h99,hm⟩
        . exact absurd ⟨hj9,h0⟩ hgo
        . have e2:R.bind (eG bl [c]) = .bad e5 p5:=by
           cases R with
           | bad e p=>exact hm
           | good u=>
            have hm:eG bl ([c].take (j - 1)) u = .bad e5 p5:=hm;have:=oN ([c].take (j - 1)) ([c].drop (j - 1)) u hm;rwa [List.take_append_drop] at this
          rw[e2];exact⟨h0,h99,s5,hck⟩
      . have h9:=N.o
        rw[show [c].take (j - 1)=[c] from List.take_of_length_le (by simp;omega)] at h9;exact h9)
    by_cases hlt:j<2
    . have hlt2:(j:Int)<2:=by omega
      have he:((e5:Int)==0)=false:=bN.2 (by intro h;exact hgo ⟨hlt,by omega⟩);clear hgo hm hck hlt;go_wp2
      exact fE rfl rfl ⟨rfl,HF,FR⟩
    . have hle:2≤(j:Int):=by omega
      clear hgo hm hck hlt;go_wp2
      exact fE rfl rfl ⟨rfl,HF,FR⟩
end
section
variable {G:Geo}{w w':World}{s:CkS}{r r':CkR CkS}{zs:List Nat}{k e p:Nat}{ex:Nat->CkS->CkR (Nat×CkS)}
theorem Ck.cut (h:Ck G w s zs k e p){VA:Option Addr}{VC:Nat} (hv:w.cell? ⟨G.g,7,none⟩=some (.slice VA s.vars.length VC)) (hm:m≤s.vars.length):
   Ck G (w.setCell ⟨G.g,7,none⟩ (.slice VA m VC)) { s with vars:=s.vars.take m } zs k e p∧FrK G w (w.setCell ⟨G.g,7,none⟩ (.slice VA m VC)):=by
 obtain⟨zv,vv,hb,hz0,hz2,hv0,hv2⟩:=h.ex;have e7:w.cell? ⟨G.g,7,none⟩=some vv:=by rw[hb.cell];rfl
 rw[e7] at hv;injection hv with hv;subst hv;obtain⟨n1,n2,n3⟩:=h.gne;have hB:=h.geo.hg;have hc:=(hv0.cut hm).far (p:=⟨G.g,7,none⟩) ((hv0.cut hm).aD hb (by decide)) (.slice VA m VC);rw[jP] at hc;have hlen:(s.vars.take m).length=m:=by rw[List.length_take];omega
 refine⟨⟨h.geo,h.tree.keep (λb hb=>?_) (by simp),⟨zv,.slice VA m VC,hb.setCell 7 _,hz0.far (p:=⟨G.g,7,none⟩) (hz0.aD hb (by decide)) _,hz2,by rw[hlen];exact hc,λb hb=>hv2 b ?_⟩,
   h.types.far (p:=⟨G.g,7,none⟩) (h.types.aD hb (by decide)) _,h.slots.far (p:=⟨G.g,7,none⟩) (h.slots.aD hb (by decide)) _,h.fn.far (p:=⟨G.g,7,none⟩) (h.fn.aD hb (by decide)) _,h.kk,h.size,h.fine,by show (s.vars.take m).length≤s.size;rw[hlen];have:=h.vars;omega,h.zs,by simpa using h.zle⟩,
   ((Fr.refl (bQ G.g) w).setCell ⟨G.g,7,none⟩ _ (λ_=>rfl)).mono (λk _ e=> .inl e)⟩
 . exact Below.heap_setCell w ⟨G.g,7,none⟩ _ b (by show b≠G.g;omega)
 . cases VA with
   | none=>simp[blk] at hb
   | some a=>simp[blk] at hb ⊢;exact hb
theorem FrK.more (h:FrK G.more w w'):FrK G w w':=h
theorem zA (hM:G.M=24){st:Nat->CkS->CkR CkS}{l:List Nat} (h:Ck G w s zs k 0 0) (hx:G.ns[x]?=some ⟨18,line,0,[],l⟩) (hl:∀y∈l,aQi G zs k st y):
  Calls prog 101 #[.pointer (some ⟨G.g,0,none⟩),.int .i64 x] w (lM G zs k ((eG st l { s with fn:=s.fn.set x k }).map λr=>{ r with vars:=r.vars.take s.vars.length }) w):=by
 have M0:Hd (CkM G w (.good s) zs k):=h;obtain⟨nb,nc,kv,hnv,hkv,hown,nlt,hx3,c0,x0,x1,x2,x3,x4⟩:=M0.o.node hx;dsimp only at hown x0 x1 x2 x3 x4;have hx4:(G.ns.length:Int)≤300:=by have:=h.geo.few;omega
 have hx5:x<G.ns.length:=by omega
 have hl3:l.length≤300:=h.geo.fewk _ (List.mem_of_getElem? hx);have hl4:(l.length:Int)≤300:=by omega
 obtain⟨KA,KC,rfl,-,-⟩:=hown.cap;have HK:=hD (And.intro hx hkv);have HM:=hD hM;have HL:=hD hl;have K1:=hD h;have hvn:s.vars.length≤24:=by have:=h.vars;have:=h.size;omega
 have hvn2:(s.vars.length:Int)≤24:=by omega
 obtain⟨_,_,-,-,-,-,c4,-,c6,-⟩:=K1.o.cells;obtain⟨⟨u2,bf⟩,zf⟩:=K1.o.fn.gM hx5;obtain⟨n1,n2,n3⟩:=K1.o.gne;have D4:=hD c4;have D6:=hD c6;have e4:=hD ((World.cell?_setCell_other w.drew ⟨G.bf,x,none⟩ ⟨G.g,4,none⟩ (.int .i64 (k:Nat)) (by intro e;injection e with e;exact n3 e.symm)).trans c4);have e6:=hD ((World.cell?_setCell_other w.drew ⟨G.bf,x,none⟩ ⟨G.g,6,none⟩ (.int .i64 (k:Nat)) (by intro e;injection e with e;exact n3 e.symm)).trans c6);have S2:=hD (K1.o.jS x k);clear n1 n2 n3 h hx hkv hown hM hl hx5 c0 x0 x1 x2 x3 x4;go_enter func101,ntmps101;go_wp2_with fail
 go_region_held3 (λwx=>wx.cell? ⟨G.g,4,none⟩=some (.slice (some ⟨G.bf,0,none⟩) G.ns.length G.cf)∧wx.cell? ⟨G.g,6,none⟩=some (.int .i64 (k:Nat))) (first|exact⟨D4,D6⟩|exact⟨e4.o,e6.o⟩) (first|fail)
 clear c4 c6 bf zf D4 D6 e4 e6;have S3:=hD (S2.o.1.no ((fR _).drew));have F3:=hD (S2.o.2.trans (FrK.no ((fR _).drew)));clear S2;generalize (w.setCell ⟨G.bf,x,none⟩ (.int .i64 (k:Nat))).drew=w2 at *;obtain⟨nb',nc',kv',hnv',hkv',-,-,-,c0,x0,x1,x2,x3,x4⟩:=(show CkM G w2 (.good _) zs k from S3).node HK.o.1;rw[HK.o.2] at hkv';injection hkv' with hkv';subst hkv';obtain⟨zv,vv,hbl,-,-,hvo,-⟩:=S3.o.ex;obtain⟨VA,VC,rfl,-,-⟩:=hvo.cap;have c7:w2.cell? ⟨G.g,7,none⟩=some (.slice VA s.vars.length VC):=by rw[hbl.cell];rfl
 have N3:Hd (CkN G w2 (eG st (l.take 0) { s with fn:=s.fn.set x k }) zs k):=S3;clear hbl hvo S3 K1;go_wp2
 clear c0 x0 x1 x2 x3 x4 c7;go_loopw [6] (λi wr=>∃j:Nat,j≤l.length∧i = .int .i64 j∧Hd (CkN G wr (eG st (l.take j) ({ s with fn:=s.fn.set x k }:CkS)) zs k)∧Hd (FrK G w wr)) (λi _=>l.length - (intOf i).toNat)
 case atStart=>exact⟨0,Nat.zero_le _,rfl,N3,F3⟩
 case round=>
  clear N3 F3;obtain⟨j,hj,rfl,N,FR⟩:=hrel;obtain⟨s5,e5,p5,hck,hm⟩:=N.o.open_ HM.o;obtain⟨_,_,-,-,-,-,-,-,-,-,-,c9,-⟩:=hck.cells;have c9:wr.cell? ⟨G.g,9,none⟩=some (.int .i64 (e5:Nat)):=c9;by_cases hgo:j<l.length∧e5=0
  . obtain⟨hlt,rfl⟩:=hgo
    have hlt2:(j:Int)<(l.length:Int):=by omega
    rcases hm with ⟨_,rfl,hm⟩|⟨h0,_⟩
    case inr=>exact absurd rfl h0
    have NG:=hD (show Ck G wr s5 zs k 0 0 from by have h9:=N.o;rw[hm] at h9;exact h9);obtain⟨y,hy⟩:∃y,l[j]?=some y:=⟨_,gE hlt⟩;obtain⟨kb,e,kj,-,hkc⟩:=(show CkM G wr (.good s5) zs k from NG).aMd HK.o.1 HK.o.2 (j:=j) (a:=y) hy;subst e;have HS:=hD (show eG st (l.take (j+1)) ({ s with fn:=s.fn.set x k }:CkS)=st y s5 from by
      rw[show l.take (j+1)=l.take j++[y] by rw[List.take_add_one,hy];rfl,iB,hm];rfl)
    have HY:=hD (HL y (List.mem_of_getElem? hy));have HJ:=hD hlt;have klt:=World.block_lt_of_cell? _ _ kj;clear hck hm hy hlt;go_wp2_with fail
    refine dR (HY wr s5 NG) λw6 N6 f6=>?_;have F6:=hD (FR.o.trans f6);clear f6 kj c9 klt;go_wp2
    go_roundw
    case rel=>exact⟨j+1,by have:=HJ.o;omega,by go_num,hD (by rw[HS.o];exact N6),F6⟩
    case measure=>simp[intOf];have:=HJ.o;omega
  . have HF:=hD (show gB (eG st l ({ s with fn:=s.fn.set x k }:CkS)) s5 e5 p5 from by
      by_cases hj9:j<l.length
      . rcases hm with ⟨h0,_⟩|⟨h0,h99,hm⟩
        . exact absurd ⟨hj9,h0⟩ hgo
        . refine .inr ⟨h0,h99,?_⟩
          have:=oN (l.take j) (l.drop j) ({ s with fn:=s.fn.set x k }:CkS) hm;rwa [List.take_append_drop] at this
      . rw[show l.take j=l from List.take_of_length_le (by omega)] at hm
        exact hm)
    obtain⟨zv,vv,hbl,-,-,hvo,-⟩:=hck.ex;obtain⟨VA2,VC2,rfl,hvc,-⟩:=hvo.cap;have hbl2:Blk wr G.g 99 (jI G.more zv (.slice VA2 s5.vars.length VC2) k s5.size e5 p5):=hbl;have c7:wr.cell? ⟨G.g,7,none⟩=some (.slice VA2 s5.vars.length VC2):=by rw[hbl2.cell];rfl
    have f7:wr.frozen? ⟨G.g,7,none⟩=false:=hbl.frozen 7;have glt:G.g<wr.heap.size:=hbl.lt;have HCK:=hD hck
    have hvz : s5.vars.length ≤ 25 := by have := hck.vars; have := hck.size; have : G.more.M = 25 := by show G.M + 1 = 25; rw [HM.o]
                                         omega
    have hvz2:(s5.vars.length:Int)≤25:=by omega
    have HC7:=hD c7;have HVC:=hD hvc;clear hbl hvo hbl2;by_cases hlt:j<l.length
    case' pos=>
     have hlt2:(j:Int)<(l.length:Int):=by omega
     have he:((e5:Int)==0)=false:=bN.2 (by intro h;exact hgo ⟨hlt,by omega⟩)
    case' neg=>
     have hle:(l.length:Int)≤(j:Int):=by omega
    all_goals
     clear hgo hm hck hlt;go_wp2_with fail
     obtain⟨m,hmt⟩:∃m,(min (s.vars.length:Int) (s5.vars.length:Int)).toNat=m:=⟨_,rfl⟩;have hm1:0≤min (s.vars.length:Int) (s5.vars.length:Int):=by omega
     have hm2:min (s.vars.length:Int) (s5.vars.length:Int)≤(VC2:Int):=by have:=HVC.o;omega
     have SC:=hD (HCK.o.cut HC7 (m:=m) (by omega));have HMT:=hD (show m≤s5.vars.length∧s5.vars.take m=s5.vars.take s.vars.length from ⟨by omega,by
       by_cases h:s.vars.length≤s5.vars.length
       . rw[show m=s.vars.length by omega]
       . rw[show m=s5.vars.length by omega,List.take_of_length_le (Nat.le_refl _),List.take_of_length_le (by omega)]⟩)
     have NF:=hD (show CkN G (wr.setCell ⟨G.g,7,none⟩ (.slice VA2 m VC2)) ((eG st l ({ s with fn:=s.fn.set x k }:CkS)).map λr=>{ r with vars:=r.vars.take s.vars.length }) zs k from by
       have h9:=SC.o.1;rw[HMT.o.2] at h9;rcases HF.o with ⟨h1,h2,h3⟩|⟨h1,h2,h3⟩
       . rw[h3];subst h1;subst h2;exact h9.less M0.o.geo HM.o
       . rw[h3];exact⟨h1,h2,_,h9⟩)
     have FF:Hd (FrK G w (wr.setCell ⟨G.g,7,none⟩ (.slice VA2 m VC2))):=FR.o.trans SC.o.2.more;clear SC HF;go_region_law (fail)
     all_goals
       generalize wr.setCell ⟨G.g,7,none⟩ (.slice VA2 m VC2)=w9 at *;go_wp2
       exact fE rfl rfl ⟨rfl,by first|exact NF.o|exact NF.o.no ((fR _).drew),by first|exact FF.o|exact FF.o.trans (FrK.no ((fR _).drew))⟩
theorem tF (hg:gD G) (hM:G.M=24) (hu:(G.fs.map (·.name)).Nodup):∀(f x:Nat) (nd:aG),x<f->G.ns[x]?=some nd->nd.kind=18->aIo G zs k (gI G.ns G.fs k f) x
 | 0,x,nd,h,_,_=>absurd h (Nat.not_lt_zero _)
 | f+1,x,nd,h,hx,h18=>by
  intro w s hck;have hE:∀n,lH n=true->oD n=true:=λn h=>by unfold oD;rw[h];rfl
  have key:∀{cls:Nat->Bool} {a:Nat},(∀n,cls n=true->oD n=true)->Kid G.ns cls a->gW G zs k (fD G.ns G.fs k G.ns.length) a:=λ{cls a} hc hk=>by
   obtain⟨c,hc1,hc2⟩:=hk;exact wP hg hu _ a c (gK hc1) hc1 (hc _ hc2)
  have hC:∀n,aNo n=true->oD n=true:=λn h=>by simp[aNo] at h;subst h;decide
  have hok:=hg.ok.nodes x nd hx;cases hok with
  | block line l hk=>
   have:=zA (st:=λa s=>match G.ns[a]? with
    | none=> .bad 95 0
    | some na=>jA G.fs k (fD G.ns G.fs k G.ns.length) (gI G.ns G.fs k f) a na s) hM hck hx (λy hy=>by
    obtain⟨hlt,c,hc1,hc2⟩:=(hk y hy).take;have hok2:=hg.ok.nodes y c hc1;have kb:∀{b:Nat},Kid (G.ns.take y) xA b->aIo G zs k (gI G.ns G.fs k f) b:=λ{b} hb=>by
     obtain⟨hlt2,d,hd1,hd2⟩:=hb.take;exact tF hg hM hu f b d (by omega) hd1 (by simpa[xA] using hd2)
    intro w2 s2 hck2;simp only[hc1];cases hok2 with
    | let_ line nm a ha=>exact aLf hM hck2 hc1 (key (λ_ h=>h) ha.take.2)
    | set line nm a ha=>exact aLd hM hck2 hc1 (key (λ_ h=>h) ha.take.2)
    | put line nm a b ha hb=>exact aLe hM hck2 hc1 (key hE ha.take.2) (key hE hb.take.2)
    | do_ line a ha=>exact aNn hM hck2 hc1 (key hC ha.take.2)
    | print line a ha=>exact aDh hM hck2 hc1 (key hE ha.take.2)
    | if2 line a b ha hb=>exact aLh hM hck2 hc1 (key hE ha.take.2) (λy hy=>by rw[List.mem_singleton.1 hy];exact kb hb)
    | if3 line a b d ha hb hd=>exact aLg hM hck2 hc1 (key hE ha.take.2) (λy hy=>by
      rcases List.mem_cons.1 hy with e|hy
      . rw[e];exact kb hb
      . rw[List.mem_singleton.1 hy];exact kb hd)
    | loop line a b ha hb=>exact aHr hM hck2 hc1 (key hE ha.take.2) (λy hy=>by rw[List.mem_singleton.1 hy];exact kb hb)
    | ret0 line=>exact aHq hM hck2 hc1
    | ret1 line a ha=>exact aHp hM hck2 hc1 (key hE ha.take.2)
    | _=>simp[aMf] at hc2)
   have e1:gI G.ns G.fs k (f+1) x s=(eG (λa s=>match G.ns[a]? with
    | none=> .bad 95 0
    | some na=>jA G.fs k (fD G.ns G.fs k G.ns.length) (gI G.ns G.fs k f) a na s) l { s with fn:=s.fn.set x k }).map λr=>{ r with vars:=r.vars.take s.vars.length }:=by
    rw[gI,hx];rfl
   rw[e1];exact this
  | _=>simp at h18
end
section
variable {G:Geo}{w w':World}{s:CkS}{zs:List Nat}{k e p:Nat}
theorem Ck.z (h:Ck G w s zs k e p):Ck (G.atZ w.heap.size) w s zs k e p:=by
 obtain⟨zv,vv,hb,hz0,hz2,hv0,hv2⟩:=h.ex;exact⟨h.geo.z h.jB (h.types.aY h.tH) (h.slots.aY h.qV) (h.fn.aY h.tJ),h.tree,⟨zv,vv,hb,hz0,λb hb=>⟨(hz2 b hb).1,(hz2 b hb).2.1,(hz2 b hb).2.2.1,(hz2 b hb).2.2.2.1,hz0.aY hb⟩,hv0,hv2⟩,
  h.types,h.slots,h.fn,h.kk,h.size,h.fine,h.vars,h.zs,Nat.le_refl _⟩
theorem Ck.aKl (h:Ck G.more w s zs k e p) (hg:gD G) (hM:s.size≤G.M):Ck G w s zs k e p:=
 ⟨hg,h.tree,h.ex,h.types,h.slots,h.fn,h.kk,hM,h.fine,h.vars,h.zs,h.zle⟩
theorem Ck.aQb (h:Ck G w s zs k e p):Ck G (w.setCell ⟨G.g,7,none⟩ (.slice none 0 0)) { s with vars:=[] } zs k e p∧FrK G w (w.setCell ⟨G.g,7,none⟩ (.slice none 0 0)):=by
 obtain⟨zv,vv,hb,hz0,hz2,hv0,hv2⟩:=h.ex;have hB:=h.geo.hg;refine⟨⟨h.geo,h.tree.keep (λb hb=>?_) (by simp),⟨zv,.slice none 0 0,hb.setCell 7 _,hz0.far (p:=⟨G.g,7,none⟩) (hz0.aD hb (by decide)) _,hz2,Own.nil _ _ _,λb hb=>by simp[blk] at hb⟩,
  h.types.far (p:=⟨G.g,7,none⟩) (h.types.aD hb (by decide)) _,h.slots.far (p:=⟨G.g,7,none⟩) (h.slots.aD hb (by decide)) _,h.fn.far (p:=⟨G.g,7,none⟩) (h.fn.aD hb (by decide)) _,h.kk,h.size,h.fine,Nat.zero_le _,h.zs,by simpa using h.zle⟩,
  ((Fr.refl (bQ G.g) w).setCell ⟨G.g,7,none⟩ _ (λ_=>rfl)).mono (λk _ e=> .inl e)⟩
 exact Below.heap_setCell w ⟨G.g,7,none⟩ _ b (by show b≠G.g;omega)
theorem Ck.aPo (h:Ck G w s zs k e p){zv:Value} (hzv:w.cell? ⟨G.g,5,none⟩=some zv)
   (ho:Own w' 3 1 (.slice A (zs.length+1) c) (zs.length+1) (ints zs++[.int .i64 (s.size:Nat)]))
   (hf:Fr (obl (blk zv)) (w.alloc o) w') (hv:blk (.slice A (zs.length+1) c)=blk zv∨blk (.slice A (zs.length+1) c)=some (w.alloc o).heap.size) (hzl:zs.length≤900):
   Ck (G.atZ (w'.setCell ⟨G.g,5,none⟩ (.slice A (zs.length+1) c)).heap.size) (w'.setCell ⟨G.g,5,none⟩ (.slice A (zs.length+1) c)) s (zs++[s.size]) k e p ∧
   Fr (λb=>G.B≤b) w (w'.setCell ⟨G.g,5,none⟩ (.slice A (zs.length+1) c)):=by
 obtain⟨zv',vv,hb,hz0,hz2,hv0,hv2⟩:=h.ex;have e5:w.cell? ⟨G.g,5,none⟩=some zv':=by rw[hb.cell];rfl
 rw[e5] at hzv;injection hzv with hzv;subst hzv;have hBg:=h.geo.hg;have hBt:=h.geo.ht;have hBs:=h.geo.hs;have hBf:=h.geo.hf;have hle:G.B≤w.heap.size:=h.tree.le;have gt:=h.types.aY h.tH;have gs:=h.slots.aY h.qV;have gf:=h.fn.aY h.tJ;have gl:=h.jB;have f0:Fr nob w (w.alloc o):=(fR w).alloc o;have hsz:w.heap.size<w'.heap.size:=by have:=hf.size;simp at this;omega
 have hb1:Blk w' G.g 99 (jI G zv' vv k s.size e p):=(hb.fr f0 (λx=>x)).fr hf (λhm=>hz0.aD hb (by decide) hm);have own2:∀{e' n m:Nat} {v:Value} {xs:List Value},Own w e' m v n xs->(∀b,blk v=some b->¬obl (blk zv') b)->blk v≠some G.g->Own (w'.setCell ⟨G.g,5,none⟩ (.slice A (zs.length+1) c)) e' m v n xs:=λho' hne hg=>
   ((ho'.fr f0 (λ_ _ x=>x)).fr hf hne).far (p:=⟨G.g,5,none⟩) hg _
 have keep:∀b,b<G.B->(w'.setCell ⟨G.g,5,none⟩ (.slice A (zs.length+1) c)).heap[b]?=w.heap[b]?:=λb hb'=>by
   rw[Below.heap_setCell _ _ _ _ (by show b≠G.g;omega),hf.block b (by simp;omega) (λhm=>by have:=(hz2 b hm).1;omega)];exact Below.heap_alloc _ _ _ (by omega)
 have nt:∀b,blk (.slice (some ⟨G.bt,0,none⟩) G.ns.length G.ct)=some b->¬obl (blk zv') b:=λb hb' hm=>by
   rw[h.tH] at hb';injection hb' with hb';exact (hz2 b hm).2.1 hb'.symm
 have ns:∀b,blk (.slice (some ⟨G.bs,0,none⟩) G.ns.length G.cs)=some b->¬obl (blk zv') b:=λb hb' hm=>by
   rw[h.qV] at hb';injection hb' with hb';exact (hz2 b hm).2.2.1 hb'.symm
 have nf:∀b,blk (.slice (some ⟨G.bf,0,none⟩) G.ns.length G.cf)=some b->¬obl (blk zv') b:=λb hb' hm=>by
   rw[h.tJ] at hb';injection hb' with hb';exact (hz2 b hm).2.2.2.1 hb'.symm
 have hzn:Own (w'.setCell ⟨G.g,5,none⟩ (.slice A (zs.length+1) c)) 3 1 (.slice A (zs.length+1) c) (zs++[s.size]).length (ints (zs++[s.size])):=by
   rw[List.length_append,show ints (zs++[s.size])=ints zs++[.int .i64 (s.size:Nat)] by simp[ints]];exact ho.far (p:=⟨G.g,5,none⟩) (ho.aD hb1 (by decide)) _
 refine⟨⟨h.geo.z (by simp;omega) (by simp;omega) (by simp;omega) (by simp;omega),h.tree.keep keep (by simp;omega),⟨.slice A (zs.length+1) c,vv,hb1.setCell 5 _,hzn,λb hb'=>?_,own2 hv0 (λb hb' hm=>by
     have h1:blk zv'=some b:=hm;exact hv0.fM hz0 (by decide) h1 hb') (hv0.aD hb (by decide)),hv2⟩,own2 h.types nt (h.types.aD hb (by decide)),own2 h.slots ns (h.slots.aD hb (by decide)),own2 h.fn nf (h.fn.aD hb (by decide)),h.kk,h.size,h.fine,h.vars,?_,Nat.le_refl _⟩,?_⟩
 . show G.B≤b∧b≠G.bt∧b≠G.bs∧b≠G.bf∧b<(w'.setCell ⟨G.g,5,none⟩ (.slice A (zs.length+1) c)).heap.size
   rcases hv with h9|h9
   . rw[h9] at hb'
     obtain⟨a1,a2,a3,a4,a5⟩:=hz2 b hb';have:=hz0.aY hb';exact⟨a1,a2,a3,a4,by simp;omega⟩
   . have hlt:=ho.aY hb'
     rw[hb'] at h9;injection h9 with h9;simp at h9;exact⟨by omega,by omega,by omega,by omega,by simp;exact hlt⟩
 . rw[List.length_append];show zs.length+1≤1000;omega
 . refine Fr.trans (M1:=nob) f0 (M2:=λb=>G.B≤b) ?_ (λ_ _ x=>x.elim) (λ_ _ x=>x)
   exact Fr.trans (M1:=obl (blk zv')) hf ((Fr.refl (bQ G.g) w').setCell ⟨G.g,5,none⟩ _ (λ_=>rfl)) (λb _ hm=>(hz2 b hm).1) (λb _ hm=>by rw[show b=G.g from hm];exact hBg)
end
def hcells (nv fv a b c z vv:Value) (k size e p:Nat):Array Value:=
 #[nv,fv,a,b,c,z,.int .i64 (k:Nat),vv,.int .i64 (size:Nat),.int .i64 (e:Nat),.int .i64 (p:Nat)]
section
variable {w w':World}{g k size e p:Nat}{nv fv a b c z vv:Value}{lvs pvs:List Value}{ns:List aG}{fs:List aH}
theorem tC (hb:Blk w g 99 (hcells nv fv a b c z vv k size e p)) (e' x:Nat) (he':e'≠0):
   Calls prog 99 #[.pointer (some ⟨g,0,none⟩),.int .i64 e',.int .i64 x] w λen w'=>en = .returned (.tuple #[])∧Blk w' g 99 (hcells nv fv a b c z vv k size (if e=0 then e' else e) (if e=0 then x else p))∧Fr (bQ g) w w':=by
 have c9:w.cell? ⟨g,9,none⟩=some (.int .i64 (e:Nat)):=by rw[hb.cell];rfl
 have c10:w.cell? ⟨g,10,none⟩=some (.int .i64 (p:Nat)):=by rw[hb.cell];rfl
 have f9:=hb.frozen 9;have f10:=hb.frozen 10;have hg:=hb.lt;have H:=hD hb;by_cases he:e=0
 . have heb:((e:Int)==0)=true:=by rw[he];rfl
   rw[if_pos he,if_pos he];have S1:=hD (hb.setCell 9 (.int .i64 (e':Nat)));clear hb he;go_enter func99,ntmps99;go_wp2_with fail
   have F1:Hd (Fr (bQ g) w (w.setCell ⟨g,9,none⟩ (.int .i64 (e':Nat)))):=(Fr.refl _ w).setCell _ _ (λ_=>rfl);generalize w.setCell ⟨g,9,none⟩ (.int .i64 (e':Nat))=w1 at *;have S2:=hD (S1.o.setCell 10 (.int .i64 (x:Nat)));have F2:=hD (F1.o.setCell ⟨g,10,none⟩ (.int .i64 (x:Nat)) (λ_=>rfl));have f10':=S1.o.frozen 10;have c10':w1.cell? ⟨g,10,none⟩=some (.int .i64 (p:Nat)):=by rw[S1.o.cell];rfl
   clear c9 c10 f9 f10 heb;go_wp2
   exact fE rfl rfl ⟨rfl,S2,F2⟩
 . have heb:((e:Int)==0)=false:=bN.2 (by omega)
   rw[if_neg he,if_neg he];clear hb he;go_enter func99,ntmps99;go_wp2
   exact fE rfl rfl ⟨rfl,H,Fr.refl _ _⟩
theorem aDp (hb:Blk w g 99 (hcells nv fv a b c z vv k size 0 0)) (ht:bW 0 w nv fv lvs pvs ns fs) (hf6:fs.length≤6) (hp3:∀f∈fs,f.params.length≤3):
  Calls prog 61 #[.pointer (some ⟨g,0,none⟩)] w λen w'=>en = .returned (.tuple #[])∧Fr (bQ g) w w'∧∃e p,Blk w' g 99 (hcells nv fv a b c z vv k size e p)∧((e=0∧p=0∧kD fs = .good ())∨(e≠0∧e≤99∧kD fs = .bad e p)):=by
 obtain⟨FA,FC,rfl,-,-⟩:=ht.fns.cap;have c1:w.cell? ⟨g,1,none⟩=some (.slice FA fs.length FC):=by rw[hb.cell];rfl
 have glt:=hb.lt;have hf7:(fs.length:Int)≤6:=by omega
 have B0:=hD hb;have T0:=hD ht;have HP:=hD hp3;clear hb ht hp3 hf6;go_enter func61,ntmps61;go_wp2
 clear c1 glt;go_loopw [3,4] (λm i wr=>∃j:Nat,j≤fs.length∧i = .int .i64 j∧m = .bool ((fs.take j).any iE)∧Hd (Blk wr g 99 (hcells nv (.slice FA fs.length FC) a b c z vv k size (stE (dN [] (fs.take j))) (stP (dN [] (fs.take j)))))∧Hd (Fr (bQ g) w wr)) (λm i _=>fs.length - (intOf i).toNat)
 case atStart=>exact⟨0,Nat.zero_le _,rfl,rfl,B0,hD (Fr.refl _ w)⟩
 case round=>
  obtain⟨j,hj,rfl,rfl,B,FR⟩:=hrel;by_cases hlt:j<fs.length
  . have hlt2:(j:Int)<(fs.length:Int):=by omega
    have hj6:(j:Int)≤6:=by omega
    obtain⟨f,hf⟩:∃f,fs[j]?=some f:=⟨_,gE hlt⟩;obtain⟨fb,e,-⟩:=T0.o.fns.some (by omega);subst e;have HF:=hD hf;have HJ:=hD hlt;clear hf hlt;go_wp2
    go_loopw [5] (λi wq=>∃t:Nat,t≤j∧i = .int .i64 t∧Hd (Blk wq g 99 (hcells nv (.slice (some ⟨fb,0,none⟩) fs.length FC) a b c z vv k size (stE ((dN [] (fs.take j)).or (if oJ (fs.take t) f.name=true then some f.body else none))) (stP ((dN [] (fs.take j)).or (if oJ (fs.take t) f.name=true then some f.body else none)))))∧Hd (Fr (bQ g) w wq)) (λi _=>j - (intOf i).toNat)
    case atStart=>exact⟨0,Nat.zero_le _,rfl,hD (by simpa[oJ] using B.o),FR⟩
    case round=>
     clear B FR;obtain⟨t,ht,rfl,B,FR⟩:=hrel;have TW:=hD (T0.o.aQc B0 (by decide) (by decide) (by decide) (by decide) FR);by_cases hlt:t<j
     . have hlt3:(t:Int)<(j:Int):=by omega
       have ht2:(t:Int)<(fs.length:Int):=by omega
       obtain⟨f2,hf2⟩:∃f,fs[t]?=some f:=⟨_,gE (by omega)⟩;obtain⟨pv1,-,x0,-,-,-,x4⟩:=TW.o.fn2 HF.o;obtain⟨pv2,-,y0,-,-,-,-⟩:=TW.o.fn2 hf2;have HS:=hD (aBk hf2 f.name);have HL:=hD hlt;clear hf2 hlt;by_cases he:f2.name=f.name
       . have q0:((bs f2.name).toList==(bs f.name).toList)=true:=aDu.2 he
         have HE:=hD he;clear he;go_wp2_with fail
         go_quiet (fail)
         go_wp2_with fail
         refine dR (tC (w:=_) (by first|exact B.o|exact B.o.fr ((fR _).drewN _) (λx=>x)) 41 f.body (by decide)) λw5 B5 f5=>?_;have F5:=hD ((by first|exact FR.o|exact FR.o.drewN _:Fr (bQ g) w _).tr f5);clear f5 x0 x4 y0 q0;go_wp2
         go_roundw
         case rel=>
           refine⟨t+1,by have:=HL.o;omega,by go_num,hD ?_,F5⟩;have h9:=B5.o;rw[HS.o,HE.o,decide_eq_true rfl,Bool.or_true,if_pos rfl];rw[(aOg _ f.body).1,(aOg _ f.body).2] at h9;have e9:∀o:Option Nat,(o.or (if oJ (fs.take t) f.name=true then some f.body else none)).or (some f.body)=o.or (some f.body):=by
             intro o;cases o<;>(try simp)<;>split<;>rfl
           rw[e9] at h9;exact h9
         case measure=>simp[intOf];have:=HL.o;omega
       . have q0:((bs f2.name).toList==(bs f.name).toList)=false:=by
           rw[Bool.eq_false_iff];intro x;exact he (aDu.1 x)
         have HE:=hD he;clear he;go_wp2_with fail
         go_quiet (fail)
         go_wp2
         go_roundw
         case rel=>
           refine⟨t+1,by have:=HL.o;omega,by go_num,hD ?_,hD (by first|exact FR.o|exact FR.o.drewN _)⟩;rw[HS.o,decide_eq_false HE.o,Bool.or_false]
           first|exact B.o|exact B.o.fr ((fR _).drewN _) (λx=>x)
         case measure=>simp[intOf];have:=HL.o;omega
     . have hle:(j:Int)≤(t:Int):=by omega
       have htj:t=j:=by omega
       subst htj;have BN:=hD (show Blk wr g 99 (hcells nv (.slice (some ⟨fb,0,none⟩) fs.length FC) a b c z vv k size (stE (dN [] (fs.take (t+1)))) (stP (dN [] (fs.take (t+1))))) from by
         have h9:=B.o;have e9:dN [] (fs.take (t+1))=(dN [] (fs.take t)).or (if oJ (fs.take t) f.name=true then some f.body else none):=by
           rw[show fs.take (t+1)=fs.take t++[f] by rw[List.take_add_one,HF.o];rfl,lU,aEt];rfl
         rw[e9];exact h9)
       obtain⟨pv1,hpo,x0,-,x2,x3,-⟩:=TW.o.fn2 HF.o;obtain⟨PA,PC,rfl,-,-⟩:=hpo.cap;have HMA:=hD (oG HF);have hpl:(f.params.length:Int)≤3:=by have:=HP.o f (List.mem_of_getElem? HF);omega
       obtain⟨m0,hm0⟩:∃m,(fs.take t).any iE=m:=⟨_,rfl⟩;obtain⟨b1,hb1⟩:∃m,((bs f.name).toList==[109,97,105,110])=m:=⟨_,rfl⟩;obtain⟨b2,hb2⟩:∃m,((f.params.length:Int)==0)=m:=⟨_,rfl⟩;obtain⟨b3,hb3⟩:∃m,((f.ret:Int)==0)=m:=⟨_,rfl⟩;have HN:=hD (show (fs.take (t+1)).any iE=(m0 || (b1 && b2 && b3)) from by
         rw[HMA.o,hm0];congr 1
         unfold iE;rw[<-hb1,<-hb2,<-hb3,qU];congr 1
         . congr 1
           . rw[Bool.eq_iff_iff];simp
           . rw[Bool.eq_iff_iff];simp
         . rw[Bool.eq_iff_iff];simp)
       rw[hm0];clear hpo B hm0;cases m0<;>cases b1<;>cases b2<;>cases b3
       all_goals
         go_wp2
         go_roundw
         case rel=>exact⟨t+1,by have:=HJ.o;omega,by go_num,by rw[HN.o];rfl,BN,FR⟩
         case measure=>simp[intOf];have:=HJ.o;omega
  . have hle:(fs.length:Int)≤(j:Int):=by omega
    rw[List.take_of_length_le (by omega)] at B ⊢;have E:Hd (kD fs=(match dN [] fs with|some b=> .bad 41 b|none=>if fs.any iE then .good () else .bad 44 0)):=rfl;obtain⟨m0,hm0⟩:∃m,fs.any iE=m:=⟨_,rfl⟩;have HM0:=hD hm0;rw[hm0];clear hm0;cases m0 with
    | true=>
     go_wp2
     refine fE rfl rfl ⟨rfl,FR,_,_,B,?_⟩;cases hT:dN [] fs with
     | none=>exact .inl ⟨rfl,rfl,by rw[E.o,hT,HM0.o];rfl⟩
     | some b=>exact .inr ⟨by simp[stE],by simp[stE],by rw[E.o,hT];rfl⟩
    | false=>
     go_wp2_with fail
     refine dR (tC B 44 0 (by decide)) λw5 B5 f5=>?_;have F5:=hD (FR.o.tr f5);clear f5;go_wp2
     refine fE rfl rfl ⟨rfl,F5,_,_,B5,?_⟩;cases hT:dN [] fs with
     | none=>exact .inr ⟨by simp[stE],by simp[stE],by rw[E.o,hT,HM0.o];rfl⟩
     | some b=>exact .inr ⟨by simp[stE],by simp[stE],by rw[E.o,hT];rfl⟩
end
structure A1 (B g TB RB:Nat) (nv fv:Value) (lvs pvs:List Value) (ns:List aG) (fs:List aH) (w:World) (a b c:Nat) (tv sv uv:Value):Prop where
 tree:dG B w nv fv lvs pvs ns fs
 blk_:Blk w g 99 (hcells nv fv tv sv uv (.slice none 0 0) (.slice none 0 0) 0 0 0 0)
 tb:Blk w TB 26 #[nv,fv]
 rb:∃cs,Blk w RB 29 cs∧cs.size=6
 types:Own w 3 1 tv a (ints (List.replicate a 0))
 slots:Own w 3 1 sv b (dK (List.replicate b (-1)))
 fn:Own w 3 1 uv c (ints (List.replicate c 0))
 hg:B≤g
 ht:∀x,blk tv=some x->B≤x
 hs:∀x,blk sv=some x->B≤x
 hf:∀x,blk uv=some x->B≤x
 ts:∀x,blk tv=some x->blk sv≠some x
 tf:∀x,blk tv=some x->blk uv≠some x
 sf:∀x,blk sv=some x->blk uv≠some x
section
variable {B g TB RB:Nat}{nv fv:Value}{lvs pvs:List Value}{ns:List aG}{fs:List aH}{w w':World}{a b c:Nat}{tv sv uv:Value}
theorem A1.aQj (h:A1 B g TB RB nv fv lvs pvs ns fs w a b c tv sv uv):B≤w.heap.size:=h.tree.le
theorem nU {n:Nat}{xs:List Value}{e size:Nat} (hv:Own w e size v n xs) (hu:Own w 3 1 u m ys) (hne:∀x,blk u=some x->blk v≠some x) (hf:Fr (obl (blk u)) (w.alloc o) w'):Own w' e size v n xs:=
 (hv.alloc o).fr hf λx hx hm=>hne x hm hx
theorem iH {k t:Nat}{cs:Array Value} (hb:Blk w k t cs) (hu:Own w 3 1 u m ys) (ht:3≠t) (hf:Fr (obl (blk u)) (w.alloc o) w'):Blk w' k t cs:=
 (hb.alloc o).fr hf λhm=>hu.aD hb ht hm
theorem yM (h:dG B w nv fv lvs pvs ns fs) (hu:∀x,blk u=some x->B≤x) (hf:Fr (obl (blk u)) (w.alloc o) w'):dG B w' nv fv lvs pvs ns fs:=
 h.keep (λx hx=>by
  have:=h.le;rw[hf.block x (by simp;omega) (λhm=>by have:=hu x hm;omega)];exact Below.heap_alloc _ _ _ (by omega)) (by have:=hf.size;simp at this;omega)
theorem aGp {B:Nat} (hB:B≤w.heap.size) (hu:∀x,blk u=some x->B≤x) (hv:blk v=blk u∨blk v=some (w.alloc o).heap.size):∀x,blk v=some x->B≤x:=λx hx=>by
 rcases hv with e|e
 . exact hu x (e ▸ hx)
 . rw[hx] at e;injection e with e;simp at e;omega
theorem new_ne {y:Value}{e size n:Nat} (hy:Own w e size y n ys) (hu:∀x,blk u=some x->blk y≠some x) (hv:blk v=blk u∨blk v=some (w.alloc o).heap.size):∀x,blk v=some x->blk y≠some x:=λx hx hyx=>by
 rcases hv with e|e
 . exact hu x (e ▸ hx) hyx
 . rw[hx] at e;injection e with e;simp at e
   have:=hy.aY hyx;omega
theorem A1.aQu (h:A1 B g TB RB nv fv lvs pvs ns fs w a b c tv sv uv) (ho:Own w' 3 1 (.slice A (a+1) cc) (a+1) (ints (List.replicate a 0)++[.int .i64 0])) (hf:Fr (obl (blk tv)) (w.alloc o) w')
  (hv:blk (.slice A (a+1) cc)=blk tv∨blk (.slice A (a+1) cc)=some (w.alloc o).heap.size):A1 B g TB RB nv fv lvs pvs ns fs (w'.setCell ⟨g,2,none⟩ (.slice A (a+1) cc)) (a+1) b c (.slice A (a+1) cc) sv uv:=by
 have hb:=iH h.blk_ h.types (by decide) hf;have htb:=iH h.tb h.types (by decide) hf;obtain⟨rcs,hrb,hrs⟩:=h.rb;have hrb2:=iH hrb h.types (by decide) hf;have hs:=nU h.slots h.types h.ts hf;have hu:=nU h.fn h.types h.tf hf;have hB:=h.hg;refine⟨(yM h.tree h.ht hf).keep (λx hx=>Below.heap_setCell _ _ _ _ (by show x≠g;omega)) (by simp),hb.setCell 2 _,htb.far (p:=⟨g,2,none⟩) (htb.ne hb (by decide)) _,⟨rcs,hrb2.far (p:=⟨g,2,none⟩) (hrb2.ne hb (by decide)) _,hrs⟩,
  ?_,hs.far (p:=⟨g,2,none⟩) (hs.aD hb (by decide)) _,hu.far (p:=⟨g,2,none⟩) (hu.aD hb (by decide)) _,h.hg,aGp h.aQj h.ht hv,h.hs,h.hf,new_ne h.slots h.ts hv,new_ne h.fn h.tf hv,h.sf⟩
 have e:ints (List.replicate (a+1) 0)=ints (List.replicate a 0)++[.int .i64 0]:=by rw[List.replicate_succ'];simp[ints]
 rw[e];exact ho.far (p:=⟨g,2,none⟩) (ho.aD hb (by decide)) _
theorem A1.aQv (h:A1 B g TB RB nv fv lvs pvs ns fs w a b c tv sv uv) (ho:Own w' 3 1 (.slice A (b+1) cc) (b+1) (dK (List.replicate b (-1))++[.int .i64 (-1)])) (hf:Fr (obl (blk sv)) (w.alloc o) w')
  (hv:blk (.slice A (b+1) cc)=blk sv∨blk (.slice A (b+1) cc)=some (w.alloc o).heap.size):A1 B g TB RB nv fv lvs pvs ns fs (w'.setCell ⟨g,3,none⟩ (.slice A (b+1) cc)) a (b+1) c tv (.slice A (b+1) cc) uv:=by
 have hb:=iH h.blk_ h.slots (by decide) hf;have htb:=iH h.tb h.slots (by decide) hf;obtain⟨rcs,hrb,hrs⟩:=h.rb;have hrb2:=iH hrb h.slots (by decide) hf;have hst:∀x,blk sv=some x->blk tv≠some x:=λx h1 h2=>h.ts x h2 h1
 have ht:=nU h.types h.slots hst hf;have hu:=nU h.fn h.slots h.sf hf;have hB:=h.hg;refine⟨(yM h.tree h.hs hf).keep (λx hx=>Below.heap_setCell _ _ _ _ (by show x≠g;omega)) (by simp),hb.setCell 3 _,htb.far (p:=⟨g,3,none⟩) (htb.ne hb (by decide)) _,⟨rcs,hrb2.far (p:=⟨g,3,none⟩) (hrb2.ne hb (by decide)) _,hrs⟩,
  ht.far (p:=⟨g,3,none⟩) (ht.aD hb (by decide)) _,?_,hu.far (p:=⟨g,3,none⟩) (hu.aD hb (by decide)) _,h.hg,h.ht,aGp h.aQj h.hs hv,h.hf,λx h1 h2=>new_ne h.types hst hv x h2 h1,h.tf,new_ne h.fn h.sf hv⟩
 have e:dK (List.replicate (b+1) (-1))=dK (List.replicate b (-1))++[.int .i64 (-1)]:=by rw[List.replicate_succ'];simp[dK]
 rw[e];exact ho.far (p:=⟨g,3,none⟩) (ho.aD hb (by decide)) _
theorem A1.aQw (h:A1 B g TB RB nv fv lvs pvs ns fs w a b c tv sv uv) (ho:Own w' 3 1 (.slice A (c+1) cc) (c+1) (ints (List.replicate c 0)++[.int .i64 0])) (hf:Fr (obl (blk uv)) (w.alloc o) w')
  (hv:blk (.slice A (c+1) cc)=blk uv∨blk (.slice A (c+1) cc)=some (w.alloc o).heap.size):A1 B g TB RB nv fv lvs pvs ns fs (w'.setCell ⟨g,4,none⟩ (.slice A (c+1) cc)) a b (c+1) tv sv (.slice A (c+1) cc):=by
 have hb:=iH h.blk_ h.fn (by decide) hf;have htb:=iH h.tb h.fn (by decide) hf;obtain⟨rcs,hrb,hrs⟩:=h.rb;have hrb2:=iH hrb h.fn (by decide) hf;have hft:∀x,blk uv=some x->blk tv≠some x:=λx h1 h2=>h.tf x h2 h1
 have hfs:∀x,blk uv=some x->blk sv≠some x:=λx h1 h2=>h.sf x h2 h1
 have ht:=nU h.types h.fn hft hf;have hs:=nU h.slots h.fn hfs hf;have hB:=h.hg;refine⟨(yM h.tree h.hf hf).keep (λx hx=>Below.heap_setCell _ _ _ _ (by show x≠g;omega)) (by simp),hb.setCell 4 _,htb.far (p:=⟨g,4,none⟩) (htb.ne hb (by decide)) _,⟨rcs,hrb2.far (p:=⟨g,4,none⟩) (hrb2.ne hb (by decide)) _,hrs⟩,
  ht.far (p:=⟨g,4,none⟩) (ht.aD hb (by decide)) _,hs.far (p:=⟨g,4,none⟩) (hs.aD hb (by decide)) _,?_,h.hg,h.ht,h.hs,aGp h.aQj h.hf hv,h.ts,λx h1 h2=>new_ne h.types hft hv x h2 h1,λx h1 h2=>new_ne h.slots hfs hv x h2 h1⟩
 have e:ints (List.replicate (c+1) 0)=ints (List.replicate c 0)++[.int .i64 0]:=by rw[List.replicate_succ'];simp[ints]
 rw[e];exact ho.far (p:=⟨g,4,none⟩) (ho.aD hb (by decide)) _
end
end Go.Proofs.YtlbjicjinnnboaaGreatDoor
