/- MvU: laws and walks for CheckVisible. -/
import Derived.Test.YtlbjicjinnnboaaGreatDoorMvT
import Derived.Test.YtlbjicjinnnboaaGreatDoorMvK
import Derived.Test.YtlbjicjinnnboaaGreatDoorMvR
import Derived.Test.YtlbjicjinnnboaaGreatDoorMvH
set_option maxHeartbeats 8000000
set_option maxRecDepth 100000
set_option linter.unusedVariables false
set_option linter.unusedSimpArgs false
namespace Go.Proofs.YtlbjicjinnnboaaGreatDoor
open Go.RowKit Go.Proofs.Tryz
open Pw
variable {o:Obj}{u v:Value}{A:Option Addr}{m cc:Nat}{ys:List Value}
section
variable {G:Geo}{w w':World}{s:CkS}{r r':CkR CkS}{zs:List Nat}{k e p:Nat}{ex:Nat->CkS->CkR (Nat×CkS)}
theorem Ck.cut (h:Ck G w s zs k e p){VA:Option Addr}{VC:Nat} (hv:w.cell? (G.g,7)=some (.slice VA s.vars.length VC)) (hm:m<=s.vars.length):
   Ck G (w.setCell (G.g,U7) (.slice VA m VC)) { s with vars:=s.vars.take m } zs k e p∧FrK G w (w.setCell (G.g,U7) (.slice VA m VC)):=by
 obtain⟨zv,vv,hb,hz0,hz2,hv0,hv2⟩:=h.ex;have e7:w.cell? (G.g,7)=some vv:=by rw[hb.cell];rfl
 rw[e7] at hv;injection hv with hv;subst hv;obtain⟨n1,n2,n3⟩:=h.gne;have hB:=h.geo.hg;have hc:=(hv0.cut hm).far (p:=(G.g,U7)) ((hv0.cut hm).aD hb (by decide)) (.slice VA m VC);rw[kF] at hc;have hlen:(s.vars.take m).length=m:=by rw[List.length_take];omega
 refine⟨⟨h.geo,h.tree.keep (λb hb=>?_) (by simp),⟨zv,.slice VA m VC,hb.setCell 7 _,hz0.far (p:=(G.g,U7)) (hz0.aD hb (by decide)) _,hz2,by rw[hlen];exact hc,λb hb=>hv2 b ?_⟩,
   h.types.far (p:=(G.g,U7)) (h.types.aD hb (by decide)) _,h.slots.far (p:=(G.g,U7)) (h.slots.aD hb (by decide)) _,h.fn.far (p:=(G.g,U7)) (h.fn.aD hb (by decide)) _,h.kk,h.size,h.fine,by show (s.vars.take m).length<=s.size;rw[hlen];have:=h.vars;omega,h.zs,by simpa using h.zle⟩,
   ((Fr.refl (bY G.g) w).setCell (G.g,U7) _ (λ_=>rfl)).mono (λk _ e=> .inl e)⟩
 . exact Below.heap_setCell w (G.g,U7) _ b (by show b≠G.g;omega)
 . cases VA with
   | none=>simp[blk] at hb
   | some a=>simp[blk] at hb ⊢;exact hb
theorem FrK.more (h:FrK G.more w w'):FrK G w w':=h
theorem aBe (hM:G.M=24){st:Nat->CkS->CkR CkS}{x line:Nat}{l:List Nat} (h:Ck G w s zs k 0 0) (hx:G.ns[x]?=some ⟨18,line,0,[],l⟩) (hl:∀y∈l,aSv G zs k st y):
  Calls prog 101 #[(G.g,()),x] w (mU G zs k ((dX st l { s with fn:=s.fn.set x k }).map λr=>{ r with vars:=r.vars.take s.vars.length }) w):=by
 have M0:Hd (CkM G w (.good s) zs k):=h;obtain⟨nb,nc,kv,hnv,hkv,hown,nlt,hx3,c0,x0,x1,x2,x3,x4⟩:=M0.o.node hx;dsimp only at hown x0 x1 x2 x3 x4;have hx4:(G.ns.length:Int)<=300:=by have:=h.geo.few;omega
 have hx5:x<G.ns.length:=by omega
 have hl3:l.length<=300:=h.geo.fewk _ (List.mem_of_getElem? hx);have hl4:(l.length:Int)<=300:=by omega
 obtain⟨KA,KC,rfl,-,-⟩:=hown.cap;have HK:=hD (And.intro hx hkv);have HM:=hD hM;have HL:=hD hl;have K1:=hD h;have hvn:s.vars.length<=24:=by have:=h.vars;have:=h.size;omega
 have hvn2:(s.vars.length:Int)<=24:=by omega
 obtain⟨_,_,-,-,-,-,c4,-,c6,-⟩:=K1.o.cells;obtain⟨⟨u2,bf⟩,zf⟩:=K1.o.fn.gY hx5;obtain⟨n1,n2,n3⟩:=K1.o.gne;have D4:=hD c4;have D6:=hD c6;have e4:=hD ((aA2 w.drew (G.bf,x) (G.g,U4) k (by intro e;injection e with e;exact n3 e.symm)).trans c4);have e6:=hD ((aA2 w.drew (G.bf,x) (G.g,U6) k (by intro e;injection e with e;exact n3 e.symm)).trans c6);have S2:=hD (K1.o.kI x k);clear n1 n2 n3 h hx hkv hown hM hl hx5 c0 x0 x1 x2 x3 x4;go_enter func101,ntmps101;go_wp2_with fail
 go_region_held3 (λwx=>wx.cell? (G.g,4)=(G.bf,G.ns.length,G.cf)∧wx.cell? (G.g,6)=k) (first|exact⟨D4,D6⟩|exact⟨e4.o,e6.o⟩) (first|fail)
 clear c4 c6 bf zf D4 D6 e4 e6;have S3:=hD (S2.o.1.no ((fR _).drew));have F3:=hD (S2.o.2.trans (FrK.no ((fR _).drew)));clear S2;generalize (w.setCell (G.bf,x) k).drew=w2 at *;obtain⟨nb',nc',kv',hnv',hkv',-,-,-,c0,x0,x1,x2,x3,x4⟩:=(show CkM G w2 (.good _) zs k from S3).node HK.o.1;rw[HK.o.2] at hkv';injection hkv' with hkv';subst hkv';obtain⟨zv,vv,hbl,-,-,hvo,-⟩:=S3.o.ex;obtain⟨VA,VC,rfl,-,-⟩:=hvo.cap;have c7:w2.cell? (G.g,7)=some (.slice VA s.vars.length VC):=by rw[hbl.cell];rfl
 have N3:Hd (CkN G w2 (dX st (l.take 0) { s with fn:=s.fn.set x k }) zs k):=S3;clear hbl hvo S3 K1;go_wp2
 clear c0 x0 x1 x2 x3 x4 c7;go_loopw [6] (λi wr=>∃j:Nat,j<=l.length∧i = .int .i64 j∧Hd (CkN G wr (dX st (l.take j) ({ s with fn:=s.fn.set x k }:CkS)) zs k)∧Hd (FrK G w wr)) (λi _=>l.length - (intOf i).toNat)
 case atStart=>exact⟨0,aA4 _,rfl,N3,F3⟩
 case round=>
  clear N3 F3;obtain⟨j,hj,rfl,N,FR⟩:=hrel;obtain⟨s5,e5,p5,hck,hm⟩:=N.o.open_ HM.o;obtain⟨_,_,-,-,-,-,-,-,-,-,-,c9,-⟩:=hck.cells;have c9:wr.cell? (G.g,9)=e5:=c9;by_cases hgo:j<l.length∧e5=0
  . obtain⟨hlt,rfl⟩:=hgo
    have hlt2:(j:Int)<(l.length:Int):=by omega
    rcases hm with ⟨_,rfl,hm⟩|⟨h0,_⟩
    case inr=>exact absurd rfl h0
    have NG:=hD (show Ck G wr s5 zs k 0 0 from by have h9:=N.o;rw[hm] at h9;exact h9);obtain⟨y,hy⟩:∃y,l[j]?=some y:=⟨_,gE hlt⟩;obtain⟨kb,e,kj,-,hkc⟩:=(show CkM G wr (.good s5) zs k from NG).aOj HK.o.1 HK.o.2 (j:=j) (a:=y) hy;subst e;have HS:=hD (show dX st (l.take (j+1)) ({ s with fn:=s.fn.set x k }:CkS)=st y s5 from by
      rw[show l.take (j+1)=l.take j++[y] by rw[List.take_add_one,hy];rfl,iJ,hm];rfl)
    have HY:=hD (HL y (List.mem_of_getElem? hy));have HJ:=hD hlt;have klt:=World.block_lt_of_cell? _ _ kj;clear hck hm hy hlt;go_wp2_with fail
    refine dU (HY wr s5 NG) λw6 N6 f6=>?_;have F6:=hD (FR.o.trans f6);clear f6 kj c9 klt;go_wp2
    go_roundw
    case rel=>exact⟨j+1,by have:=HJ.o;omega,by go_num,hD (by rw[HS.o];exact N6),F6⟩
    case measure=>simp[intOf];have:=HJ.o;omega
  . have HF:=hD (show fO (dX st l ({ s with fn:=s.fn.set x k }:CkS)) s5 e5 p5 from by
      by_cases hj9:j<l.length
      . rcases hm with ⟨h0,_⟩|⟨h0,h99,hm⟩
        . exact absurd ⟨hj9,h0⟩ hgo
        . refine .inr ⟨h0,h99,?_⟩
          have:=qL (l.take j) (l.drop j) ({ s with fn:=s.fn.set x k }:CkS) hm;rwa [List.take_append_drop] at this
      . rw[show l.take j=l from aA5 (by omega)] at hm
        exact hm)
    obtain⟨zv,vv,hbl,-,-,hvo,-⟩:=hck.ex;obtain⟨VA2,VC2,rfl,hvc,-⟩:=hvo.cap;have hbl2:Blk wr G.g 99 (jU G.more zv (.slice VA2 s5.vars.length VC2) k s5.size e5 p5):=hbl;have c7:wr.cell? (G.g,7)=some (.slice VA2 s5.vars.length VC2):=by rw[hbl2.cell];rfl
    have f7:wr.frozen? (G.g,U7)=false:=hbl.frozen 7;have glt:G.g<wr.heap.size:=hbl.lt;have HCK:=hD hck
    have hvz : s5.vars.length ≤ 25 := by have := hck.vars; have := hck.size; have : G.more.M = 25 := by show G.M + 1 = 25; rw [HM.o]
                                         omega
    have hvz2:(s5.vars.length:Int)<=25:=by omega
    have HC7:=hD c7;have HVC:=hD hvc;clear hbl hvo hbl2;by_cases hlt:j<l.length
    case' pos=>
     have hlt2:(j:Int)<(l.length:Int):=by omega
     have he:((e5:Int)==0)=false:=bN.2 (by intro h;exact hgo ⟨hlt,by omega⟩)
    case' neg=>
     have hle:(l.length:Int)<=(j:Int):=by omega
    all_goals
     clear hgo hm hck hlt;go_wp2_with fail
     obtain⟨m,hmt⟩:∃m,(min (s.vars.length:Int) (s5.vars.length:Int)).toNat=m:=⟨_,rfl⟩;have hm1:0<=min (s.vars.length:Int) (s5.vars.length:Int):=by omega
     have hm2:min (s.vars.length:Int) (s5.vars.length:Int)<=(VC2:Int):=by have:=HVC.o;omega
     have SC:=hD (HCK.o.cut HC7 (m:=m) (by omega));have HMT:=hD (show m<=s5.vars.length∧s5.vars.take m=s5.vars.take s.vars.length from ⟨by omega,by
       by_cases h:s.vars.length<=s5.vars.length
       . rw[show m=s.vars.length by omega]
       . rw[show m=s5.vars.length by omega,aA5 (aA1 _),aA5 (by omega)]⟩)
     have NF:=hD (show CkN G (wr.setCell (G.g,U7) (.slice VA2 m VC2)) ((dX st l ({ s with fn:=s.fn.set x k }:CkS)).map λr=>{ r with vars:=r.vars.take s.vars.length }) zs k from by
       have h9:=SC.o.1;rw[HMT.o.2] at h9;rcases HF.o with ⟨h1,h2,h3⟩|⟨h1,h2,h3⟩
       . rw[h3];subst h1;subst h2;exact h9.less M0.o.geo HM.o
       . rw[h3];exact⟨h1,h2,_,h9⟩)
     have FF:Hd (FrK G w (wr.setCell (G.g,U7) (.slice VA2 m VC2))):=FR.o.trans SC.o.2.more;clear SC HF;go_region_law (fail)
     all_goals
       generalize wr.setCell (G.g,U7) (.slice VA2 m VC2)=w9 at *;go_wp2
       exact fK rfl rfl ⟨rfl,by first|exact NF.o|exact NF.o.no ((fR _).drew),by first|exact FF.o|exact FF.o.trans (FrK.no ((fR _).drew))⟩
theorem vJ (hg:gN G) (hM:G.M=24) (hu:(G.fs.map (·.name)).Nodup):∀(f x:Nat) (nd:aF),x<f->G.ns[x]?=some nd->nd.kind=18->aKx G zs k (eT G.ns G.fs k f) x
 | 0,x,nd,h,_,_=>absurd h (Nat.not_lt_zero _)
 | f+1,x,nd,h,hx,h18=>by
  intro w s hck;have hE:∀n,iV n=true->kC n=true:=λn h=>by unfold kC;rw[h];rfl
  have key:∀{cls:Nat->Bool} {a:Nat},(∀n,cls n=true->kC n=true)->Kid G.ns cls a->iF G zs k (eO G.ns G.fs k G.ns.length) a:=λ{cls a} hc hk=>by
   obtain⟨c,hc1,hc2⟩:=hk;exact yX hg hu _ a c (gK hc1) hc1 (hc _ hc2)
  have hC:∀n,aNn n=true->kC n=true:=λn h=>by simp[aNn] at h;subst h;decide
  have hok:=hg.ok.nodes x nd hx;cases hok with
  | block line l hk=>
   have:=aBe (st:=λa s=>match G.ns[a]? with
    | none=> .bad 95 0
    | some na=>fI G.fs k (eO G.ns G.fs k G.ns.length) (eT G.ns G.fs k f) a na s) hM hck hx (λy hy=>by
    obtain⟨hlt,c,hc1,hc2⟩:=(hk y hy).take;have hok2:=hg.ok.nodes y c hc1;have kb:∀{b:Nat},Kid (G.ns.take y) pO b->aKx G zs k (eT G.ns G.fs k f) b:=λ{b} hb=>by
     obtain⟨hlt2,d,hd1,hd2⟩:=hb.take;exact vJ hg hM hu f b d (by omega) hd1 (by simpa[pO] using hd2)
    intro w2 s2 hck2;simp only[hc1];cases hok2 with
    | let_ line nm a ha=>exact aNj hM hck2 hc1 (key (λ_ h=>h) ha.take.2)
    | set line nm a ha=>exact aNh hM hck2 hc1 (key (λ_ h=>h) ha.take.2)
    | put line nm a b ha hb=>exact aNi hM hck2 hc1 (key hE ha.take.2) (key hE hb.take.2)
    | do_ line a ha=>exact aQb hM hck2 hc1 (key hC ha.take.2)
    | print line a ha=>exact aFk hM hck2 hc1 (key hE ha.take.2)
    | if2 line a b ha hb=>exact aNl hM hck2 hc1 (key hE ha.take.2) (λy hy=>by rw[List.mem_singleton.1 hy];exact kb hb)
    | if3 line a b d ha hb hd=>exact aNk hM hck2 hc1 (key hE ha.take.2) (λy hy=>by
      rcases List.mem_cons.1 hy with e|hy
      . rw[e];exact kb hb
      . rw[List.mem_singleton.1 hy];exact kb hd)
    | loop line a b ha hb=>exact aJy hM hck2 hc1 (key hE ha.take.2) (λy hy=>by rw[List.mem_singleton.1 hy];exact kb hb)
    | ret0 line=>exact aJx hM hck2 hc1
    | ret1 line a ha=>exact aJw hM hck2 hc1 (key hE ha.take.2)
    | _=>simp[mM] at hc2)
   have e1:eT G.ns G.fs k (f+1) x s=(dX (λa s=>match G.ns[a]? with
    | none=> .bad 95 0
    | some na=>fI G.fs k (eO G.ns G.fs k G.ns.length) (eT G.ns G.fs k f) a na s) l { s with fn:=s.fn.set x k }).map λr=>{ r with vars:=r.vars.take s.vars.length }:=by
    rw[eT,hx];rfl
   rw[e1];exact this
  | _=>simp at h18
end
section
variable {G:Geo}{w w':World}{s:CkS}{zs:List Nat}{k e p:Nat}
theorem Ck.z (h:Ck G w s zs k e p):Ck (G.atZ w.heap.size) w s zs k e p:=by
 obtain⟨zv,vv,hb,hz0,hz2,hv0,hv2⟩:=h.ex;exact⟨h.geo.z h.jK (h.types.aZ h.vK) (h.slots.aZ h.tF) (h.fn.aZ h.vL),h.tree,⟨zv,vv,hb,hz0,λb hb=>⟨(hz2 b hb).1,(hz2 b hb).2.1,(hz2 b hb).2.2.1,(hz2 b hb).2.2.2.1,hz0.aZ hb⟩,hv0,hv2⟩,
  h.types,h.slots,h.fn,h.kk,h.size,h.fine,h.vars,h.zs,aA1 _⟩
theorem Ck.aPo (h:Ck G.more w s zs k e p) (hg:gN G) (hM:s.size<=G.M):Ck G w s zs k e p:=
 ⟨hg,h.tree,h.ex,h.types,h.slots,h.fn,h.kk,hM,h.fine,h.vars,h.zs,h.zle⟩
theorem Ck.aSn (h:Ck G w s zs k e p):Ck G (w.setCell (G.g,U7) Un) { s with vars:=[] } zs k e p∧FrK G w (w.setCell (G.g,U7) Un):=by
 obtain⟨zv,vv,hb,hz0,hz2,hv0,hv2⟩:=h.ex;have hB:=h.geo.hg;refine⟨⟨h.geo,h.tree.keep (λb hb=>?_) (by simp),⟨zv,Un,hb.setCell 7 _,hz0.far (p:=(G.g,U7)) (hz0.aD hb (by decide)) _,hz2,Own.nil _ _ _,λb hb=>by simp[blk] at hb⟩,
  h.types.far (p:=(G.g,U7)) (h.types.aD hb (by decide)) _,h.slots.far (p:=(G.g,U7)) (h.slots.aD hb (by decide)) _,h.fn.far (p:=(G.g,U7)) (h.fn.aD hb (by decide)) _,h.kk,h.size,h.fine,aA4 _,h.zs,by simpa using h.zle⟩,
  ((Fr.refl (bY G.g) w).setCell (G.g,U7) _ (λ_=>rfl)).mono (λk _ e=> .inl e)⟩
 exact Below.heap_setCell w (G.g,U7) _ b (by show b≠G.g;omega)
theorem Ck.aSe (h:Ck G w s zs k e p){zv:Value} (hzv:w.cell? (G.g,5)=some zv){c:Nat}
   (ho:Own w' 3 1 (.slice A (zs.length+1) c) (zs.length+1) (ints zs++[.int .i64 (s.size:Nat)]))
   (hf:Fr (obl (blk zv)) (w.alloc o) w') (hv:blk (.slice A (zs.length+1) c)=blk zv∨blk (.slice A (zs.length+1) c)=some (w.alloc o).heap.size) (hzl:zs.length<=900):
   Ck (G.atZ (w'.setCell (G.g,U5) (.slice A (zs.length+1) c)).heap.size) (w'.setCell (G.g,U5) (.slice A (zs.length+1) c)) s (zs++[s.size]) k e p ∧
   Fr (λb=>G.B<=b) w (w'.setCell (G.g,U5) (.slice A (zs.length+1) c)):=by
 obtain⟨zv',vv,hb,hz0,hz2,hv0,hv2⟩:=h.ex;have e5:w.cell? (G.g,5)=some zv':=by rw[hb.cell];rfl
 rw[e5] at hzv;injection hzv with hzv;subst hzv;have hBg:=h.geo.hg;have hBt:=h.geo.ht;have hBs:=h.geo.hs;have hBf:=h.geo.hf;have hle:G.B<=w.heap.size:=h.tree.le;have gt:=h.types.aZ h.vK;have gs:=h.slots.aZ h.tF;have gf:=h.fn.aZ h.vL;have gl:=h.jK;have f0:Fr nob w (w.alloc o):=(fR w).alloc o;have hsz:w.heap.size<w'.heap.size:=by have:=hf.size;simp at this;omega
 have hb1:Blk w' G.g 99 (jU G zv' vv k s.size e p):=(hb.fr f0 (λx=>x)).fr hf (λhm=>hz0.aD hb (by decide) hm);have own2:∀{e' n m:Nat} {v:Value} {xs:List Value},Own w e' m v n xs->(∀b,blk v=some b->¬obl (blk zv') b)->blk v≠some G.g->Own (w'.setCell (G.g,U5) (.slice A (zs.length+1) c)) e' m v n xs:=λho' hne hg=>
   ((ho'.fr f0 (λ_ _ x=>x)).fr hf hne).far (p:=(G.g,U5)) hg _
 have keep:∀b,b<G.B->(w'.setCell (G.g,U5) (.slice A (zs.length+1) c)).heap[b]?=w.heap[b]?:=λb hb'=>by
   rw[Below.heap_setCell _ _ _ _ (by show b≠G.g;omega),hf.block b (by simp;omega) (λhm=>by have:=(hz2 b hm).1;omega)];exact Below.heap_alloc _ _ _ (by omega)
 have nt:∀b,blk (G.bt,G.ns.length,G.ct)=some b->¬obl (blk zv') b:=λb hb' hm=>by
   rw[h.vK] at hb';injection hb' with hb';exact (hz2 b hm).2.1 hb'.symm
 have ns:∀b,blk (G.bs,G.ns.length,G.cs)=some b->¬obl (blk zv') b:=λb hb' hm=>by
   rw[h.tF] at hb';injection hb' with hb';exact (hz2 b hm).2.2.1 hb'.symm
 have nf:∀b,blk (G.bf,G.ns.length,G.cf)=some b->¬obl (blk zv') b:=λb hb' hm=>by
   rw[h.vL] at hb';injection hb' with hb';exact (hz2 b hm).2.2.2.1 hb'.symm
 have hzn:Own (w'.setCell (G.g,U5) (.slice A (zs.length+1) c)) 3 1 (.slice A (zs.length+1) c) (zs++[s.size]).length (ints (zs++[s.size])):=by
   rw[aA3,show ints (zs++[s.size])=ints zs++[.int .i64 (s.size:Nat)] by simp[ints]];exact ho.far (p:=(G.g,U5)) (ho.aD hb1 (by decide)) _
 refine⟨⟨h.geo.z (by simp;omega) (by simp;omega) (by simp;omega) (by simp;omega),h.tree.keep keep (by simp;omega),⟨.slice A (zs.length+1) c,vv,hb1.setCell 5 _,hzn,λb hb'=>?_,own2 hv0 (λb hb' hm=>by
     have h1:blk zv'=some b:=hm;exact hv0.fV hz0 (by decide) h1 hb') (hv0.aD hb (by decide)),hv2⟩,own2 h.types nt (h.types.aD hb (by decide)),own2 h.slots ns (h.slots.aD hb (by decide)),own2 h.fn nf (h.fn.aD hb (by decide)),h.kk,h.size,h.fine,h.vars,?_,aA1 _⟩,?_⟩
 . show G.B<=b∧b≠G.bt∧b≠G.bs∧b≠G.bf∧b<(w'.setCell (G.g,U5) (.slice A (zs.length+1) c)).heap.size
   rcases hv with h9|h9
   . rw[h9] at hb'
     obtain⟨a1,a2,a3,a4,a5⟩:=hz2 b hb';have:=hz0.aZ hb';exact⟨a1,a2,a3,a4,by simp;omega⟩
   . have hlt:=ho.aZ hb'
     rw[hb'] at h9;injection h9 with h9;simp at h9;exact⟨by omega,by omega,by omega,by omega,by simp;exact hlt⟩
 . rw[aA3];show zs.length+1<=1000;omega
 . refine Fr.trans (M1:=nob) f0 (M2:=λb=>G.B<=b) ?_ (λ_ _ x=>x.elim) (λ_ _ x=>x)
   exact Fr.trans (M1:=obl (blk zv')) hf ((Fr.refl (bY G.g) w').setCell (G.g,U5) _ (λ_=>rfl)) (λb _ hm=>(hz2 b hm).1) (λb _ hm=>by rw[show b=G.g from hm];exact hBg)
end
def hcells (nv fv a b c z vv:Value) (k size e p:Nat):Array Value:=
 #[nv,fv,a,b,c,z,k,vv,size,e,p]
section
variable {w w':World}{g k size e p:Nat}{nv fv a b c z vv:Value}{lvs pvs:List Value}{ns:List aF}{fs:List aG}
theorem vI (hb:Blk w g 99 (hcells nv fv a b c z vv k size e p)) (e' x:Nat) (he':e'≠0):
   Calls prog 99 #[(g,()),e',x] w λen w'=>en = .returned (.tuple #[])∧Blk w' g 99 (hcells nv fv a b c z vv k size (if e=0 then e' else e) (if e=0 then x else p))∧Fr (bY g) w w':=by
 have c9:w.cell? (g,9)=e:=by rw[hb.cell];rfl
 have c10:w.cell? (g,10)=p:=by rw[hb.cell];rfl
 have f9:=hb.frozen 9;have f10:=hb.frozen 10;have hg:=hb.lt;have H:=hD hb;by_cases he:e=0
 . have heb:((e:Int)==0)=true:=by rw[he];rfl
   rw[if_pos he,if_pos he];have S1:=hD (hb.setCell 9 e');clear hb he;go_enter func99,ntmps99;go_wp2_with fail
   have F1:Hd (Fr (bY g) w (w.setCell ⟨g,9,none⟩ (.int .i64 (e':Nat)))):=(Fr.refl _ w).setCell _ _ (λ_=>rfl);generalize w.setCell ⟨g,9,none⟩ (.int .i64 (e':Nat))=w1 at *;have S2:=hD (S1.o.setCell 10 (.int .i64 (x:Nat)));have F2:=hD (F1.o.setCell ⟨g,10,none⟩ (.int .i64 (x:Nat)) (λ_=>rfl));have f10':=S1.o.frozen 10;have c10':w1.cell? ⟨g,10,none⟩=some (.int .i64 (p:Nat)):=by rw[S1.o.cell];rfl
   clear c9 c10 f9 f10 heb;go_wp2
   exact fK rfl rfl ⟨rfl,S2,F2⟩
 . have heb:((e:Int)==0)=false:=bN.2 (by omega)
   rw[if_neg he,if_neg he];clear hb he;go_enter func99,ntmps99;go_wp2
   exact fK rfl rfl ⟨rfl,H,Fr.refl _ _⟩
theorem aFt (hb:Blk w g 99 (hcells nv fv a b c z vv k size 0 0)) (ht:cZ 0 w nv fv lvs pvs ns fs) (hf6:fs.length<=6) (hp3:∀f∈fs,f.params.length<=3):
  Calls prog 61 #[(g,())] w λen w'=>en = .returned (.tuple #[])∧Fr (bY g) w w'∧∃e p,Blk w' g 99 (hcells nv fv a b c z vv k size e p)∧((e=0∧p=0∧jM fs = .good ())∨(e≠0∧e<=99∧jM fs = .bad e p)):=by
 obtain⟨FA,FC,rfl,-,-⟩:=ht.fns.cap;have c1:w.cell? (g,1)=some (.slice FA fs.length FC):=by rw[hb.cell];rfl
 have glt:=hb.lt;have hf7:(fs.length:Int)<=6:=by omega
 have B0:=hD hb;have T0:=hD ht;have HP:=hD hp3;clear hb ht hp3 hf6;go_enter func61,ntmps61;go_wp2
 clear c1 glt;go_loopw [3,4] (λm i wr=>∃j:Nat,j<=fs.length∧i = .int .i64 j∧m = .bool ((fs.take j).any iM)∧Hd (Blk wr g 99 (hcells nv (.slice FA fs.length FC) a b c z vv k size (stE (dN [] (fs.take j))) (stP (dN [] (fs.take j)))))∧Hd (Fr (bY g) w wr)) (λm i _=>fs.length - (intOf i).toNat)
 case atStart=>exact⟨0,aA4 _,rfl,rfl,B0,hD (Fr.refl _ w)⟩
 case round=>
  obtain⟨j,hj,rfl,rfl,B,FR⟩:=hrel;by_cases hlt:j<fs.length
  . have hlt2:(j:Int)<(fs.length:Int):=by omega
    have hj6:(j:Int)<=6:=by omega
    obtain⟨f,hf⟩:∃f,fs[j]?=some f:=⟨_,gE hlt⟩;obtain⟨fb,e,-⟩:=T0.o.fns.some (by omega);subst e;have HF:=hD hf;have HJ:=hD hlt;clear hf hlt;go_wp2
    go_loopw [5] (λi wq=>∃t:Nat,t<=j∧i = .int .i64 t∧Hd (Blk wq g 99 (hcells nv (fb,fs.length,FC) a b c z vv k size (stE ((dN [] (fs.take j)).or (if qG (fs.take t) f.name=true then some f.body else none))) (stP ((dN [] (fs.take j)).or (if qG (fs.take t) f.name=true then some f.body else none)))))∧Hd (Fr (bY g) w wq)) (λi _=>j - (intOf i).toNat)
    case atStart=>exact⟨0,aA4 _,rfl,hD (by simpa[qG] using B.o),FR⟩
    case round=>
     clear B FR;obtain⟨t,ht,rfl,B,FR⟩:=hrel;have TW:=hD (T0.o.aSo B0 (by decide) (by decide) (by decide) (by decide) FR);by_cases hlt:t<j
     . have hlt3:(t:Int)<(j:Int):=by omega
       have ht2:(t:Int)<(fs.length:Int):=by omega
       obtain⟨f2,hf2⟩:∃f,fs[t]?=some f:=⟨_,gE (by omega)⟩;obtain⟨pv1,-,x0,-,-,-,x4⟩:=TW.o.fn2 HF.o;obtain⟨pv2,-,y0,-,-,-,-⟩:=TW.o.fn2 hf2;have HS:=hD (aDn hf2 f.name);have HL:=hD hlt;clear hf2 hlt;by_cases he:f2.name=f.name
       . have q0:((bs f2.name).toList==(bs f.name).toList)=true:=aBg.2 he
         have HE:=hD he;clear he;go_wp2_with fail
         go_quiet (fail)
         go_wp2_with fail
         refine dU (vI (w:=_) (by first|exact B.o|exact B.o.fr ((fR _).drewN _) (λx=>x)) 41 f.body (by decide)) λw5 B5 f5=>?_;have F5:=hD ((by first|exact FR.o|exact FR.o.drewN _:Fr (bY g) w _).tr f5);clear f5 x0 x4 y0 q0;go_wp2
         go_roundw
         case rel=>
           refine⟨t+1,by have:=HL.o;omega,by go_num,hD ?_,F5⟩;have h9:=B5.o;rw[HS.o,HE.o,decide_eq_true rfl,Bool.or_true,if_pos rfl];rw[(aQs _ f.body).1,(aQs _ f.body).2] at h9;have e9:∀o:Option Nat,(o.or (if qG (fs.take t) f.name=true then some f.body else none)).or (some f.body)=o.or (some f.body):=by
             intro o;cases o<;>(try simp)<;>split<;>rfl
           rw[e9] at h9;exact h9
         case measure=>simp[intOf];have:=HL.o;omega
       . have q0:((bs f2.name).toList==(bs f.name).toList)=false:=by
           rw[Bool.eq_false_iff];intro x;exact he (aBg.1 x)
         have HE:=hD he;clear he;go_wp2_with fail
         go_quiet (fail)
         go_wp2
         go_roundw
         case rel=>
           refine⟨t+1,by have:=HL.o;omega,by go_num,hD ?_,hD (by first|exact FR.o|exact FR.o.drewN _)⟩;rw[HS.o,decide_eq_false HE.o,Bool.or_false]
           first|exact B.o|exact B.o.fr ((fR _).drewN _) (λx=>x)
         case measure=>simp[intOf];have:=HL.o;omega
     . have hle:(j:Int)<=(t:Int):=by omega
       have htj:t=j:=by omega
       subst htj;have BN:=hD (show Blk wr g 99 (hcells nv (fb,fs.length,FC) a b c z vv k size (stE (dN [] (fs.take (t+1)))) (stP (dN [] (fs.take (t+1))))) from by
         have h9:=B.o;have e9:dN [] (fs.take (t+1))=(dN [] (fs.take t)).or (if qG (fs.take t) f.name=true then some f.body else none):=by
           rw[show fs.take (t+1)=fs.take t++[f] by rw[List.take_add_one,HF.o];rfl,nE,aHc];rfl
         rw[e9];exact h9)
       obtain⟨pv1,hpo,x0,-,x2,x3,-⟩:=TW.o.fn2 HF.o;obtain⟨PA,PC,rfl,-,-⟩:=hpo.cap;have HMA:=hD (qD HF);have hpl:(f.params.length:Int)<=3:=by have:=HP.o f (List.mem_of_getElem? HF);omega
       obtain⟨m0,hm0⟩:∃m,(fs.take t).any iM=m:=⟨_,rfl⟩;obtain⟨b1,hb1⟩:∃m,((bs f.name).toList==[109,97,105,110])=m:=⟨_,rfl⟩;obtain⟨b2,hb2⟩:∃m,((f.params.length:Int)==0)=m:=⟨_,rfl⟩;obtain⟨b3,hb3⟩:∃m,((f.ret:Int)==0)=m:=⟨_,rfl⟩;have HN:=hD (show (fs.take (t+1)).any iM=(m0 || (b1 && b2 && b3)) from by
         rw[HMA.o,hm0];congr 1
         unfold iM;rw[<-hb1,<-hb2,<-hb3,tC];congr 1
         . congr 1
           . rw[Bool.eq_iff_iff];simp
           . rw[Bool.eq_iff_iff];simp
         . rw[Bool.eq_iff_iff];simp)
       rw[hm0];clear hpo B hm0;cases m0<;>cases b1<;>cases b2<;>cases b3
       all_goals
         go_wp2
         go_roundw
         case rel=>exact⟨t+1,by have:=HJ.o;omega,by go_num,by rw[HN.o];rfl,BN,FR⟩
         case measure=>simp[intOf];have:=HJ.o;omega
  . have hle:(fs.length:Int)<=(j:Int):=by omega
    rw[aA5 (by omega)] at B ⊢;have E:Hd (jM fs=(match dN [] fs with|some b=> .bad 41 b|none=>if fs.any iM then .good () else .bad 44 0)):=rfl;obtain⟨m0,hm0⟩:∃m,fs.any iM=m:=⟨_,rfl⟩;have HM0:=hD hm0;rw[hm0];clear hm0;cases m0 with
    | true=>
     go_wp2
     refine fK rfl rfl ⟨rfl,FR,_,_,B,?_⟩;cases hT:dN [] fs with
     | none=>exact .inl ⟨rfl,rfl,by rw[E.o,hT,HM0.o];rfl⟩
     | some b=>exact .inr ⟨by simp[stE],by simp[stE],by rw[E.o,hT];rfl⟩
    | false=>
     go_wp2_with fail
     refine dU (vI B 44 0 (by decide)) λw5 B5 f5=>?_;have F5:=hD (FR.o.tr f5);clear f5;go_wp2
     refine fK rfl rfl ⟨rfl,F5,_,_,B5,?_⟩;cases hT:dN [] fs with
     | none=>exact .inr ⟨by simp[stE],by simp[stE],by rw[E.o,hT,HM0.o];rfl⟩
     | some b=>exact .inr ⟨by simp[stE],by simp[stE],by rw[E.o,hT];rfl⟩
end
structure A1 (B g TB RB:Nat) (nv fv:Value) (lvs pvs:List Value) (ns:List aF) (fs:List aG) (w:World) (a b c:Nat) (tv sv uv:Value):Prop where
 tree:dJ B w nv fv lvs pvs ns fs
 blk_:Blk w g 99 (hcells nv fv tv sv uv Un Un 0 0 0 0)
 tb:Blk w TB 26 #[nv,fv]
 rb:∃cs,Blk w RB 29 cs∧cs.size=6
 types:Own w 3 1 tv a (ints (List.replicate a 0))
 slots:Own w 3 1 sv b (eH (List.replicate b (-1)))
 fn:Own w 3 1 uv c (ints (List.replicate c 0))
 hg:B<=g
 ht:∀x,blk tv=some x->B<=x
 hs:∀x,blk sv=some x->B<=x
 hf:∀x,blk uv=some x->B<=x
 ts:∀x,blk tv=some x->blk sv≠some x
 tf:∀x,blk tv=some x->blk uv≠some x
 sf:∀x,blk sv=some x->blk uv≠some x
section
variable {B g TB RB:Nat}{nv fv:Value}{lvs pvs:List Value}{ns:List aF}{fs:List aG}{w w':World}{a b c:Nat}{tv sv uv:Value}
theorem A1.aSw (h:A1 B g TB RB nv fv lvs pvs ns fs w a b c tv sv uv):B<=w.heap.size:=h.tree.le
theorem pV {n:Nat}{xs:List Value}{e size:Nat} (hv:Own w e size v n xs) (hu:Own w 3 1 u m ys) (hne:∀x,blk u=some x->blk v≠some x) (hf:Fr (obl (blk u)) (w.alloc o) w'):Own w' e size v n xs:=
 (hv.alloc o).fr hf λx hx hm=>hne x hm hx
theorem iO {k t:Nat}{cs:Array Value} (hb:Blk w k t cs) (hu:Own w 3 1 u m ys) (ht:3≠t) (hf:Fr (obl (blk u)) (w.alloc o) w'):Blk w' k t cs:=
 (hb.alloc o).fr hf λhm=>hu.aD hb ht hm
theorem aAp (h:dJ B w nv fv lvs pvs ns fs) (hu:∀x,blk u=some x->B<=x) (hf:Fr (obl (blk u)) (w.alloc o) w'):dJ B w' nv fv lvs pvs ns fs:=
 h.keep (λx hx=>by
  have:=h.le;rw[hf.block x (by simp;omega) (λhm=>by have:=hu x hm;omega)];exact Below.heap_alloc _ _ _ (by omega)) (by have:=hf.size;simp at this;omega)
theorem aIv {B:Nat} (hB:B<=w.heap.size) (hu:∀x,blk u=some x->B<=x) (hv:blk v=blk u∨blk v=some (w.alloc o).heap.size):∀x,blk v=some x->B<=x:=λx hx=>by
 rcases hv with e|e
 . exact hu x (e ▸ hx)
 . rw[hx] at e;injection e with e;simp at e;omega
theorem new_ne {y:Value}{e size n:Nat} (hy:Own w e size y n ys) (hu:∀x,blk u=some x->blk y≠some x) (hv:blk v=blk u∨blk v=some (w.alloc o).heap.size):∀x,blk v=some x->blk y≠some x:=λx hx hyx=>by
 rcases hv with e|e
 . exact hu x (e ▸ hx) hyx
 . rw[hx] at e;injection e with e;simp at e
   have:=hy.aZ hyx;omega
theorem A1.aTi (h:A1 B g TB RB nv fv lvs pvs ns fs w a b c tv sv uv) (ho:Own w' 3 1 (.slice A (a+1) cc) (a+1) (ints (List.replicate a 0)++[.int .i64 0])) (hf:Fr (obl (blk tv)) (w.alloc o) w')
  (hv:blk (.slice A (a+1) cc)=blk tv∨blk (.slice A (a+1) cc)=some (w.alloc o).heap.size):A1 B g TB RB nv fv lvs pvs ns fs (w'.setCell (g,U2) (.slice A (a+1) cc)) (a+1) b c (.slice A (a+1) cc) sv uv:=by
 have hb:=iO h.blk_ h.types (by decide) hf;have htb:=iO h.tb h.types (by decide) hf;obtain⟨rcs,hrb,hrs⟩:=h.rb;have hrb2:=iO hrb h.types (by decide) hf;have hs:=pV h.slots h.types h.ts hf;have hu:=pV h.fn h.types h.tf hf;have hB:=h.hg;refine⟨(aAp h.tree h.ht hf).keep (λx hx=>Below.heap_setCell _ _ _ _ (by show x≠g;omega)) (by simp),hb.setCell 2 _,htb.far (p:=(g,U2)) (htb.ne hb (by decide)) _,⟨rcs,hrb2.far (p:=(g,U2)) (hrb2.ne hb (by decide)) _,hrs⟩,
  ?_,hs.far (p:=(g,U2)) (hs.aD hb (by decide)) _,hu.far (p:=(g,U2)) (hu.aD hb (by decide)) _,h.hg,aIv h.aSw h.ht hv,h.hs,h.hf,new_ne h.slots h.ts hv,new_ne h.fn h.tf hv,h.sf⟩
 have e:ints (List.replicate (a+1) 0)=ints (List.replicate a 0)++[.int .i64 0]:=by rw[List.replicate_succ'];simp[ints]
 rw[e];exact ho.far (p:=(g,U2)) (ho.aD hb (by decide)) _
theorem A1.aTj (h:A1 B g TB RB nv fv lvs pvs ns fs w a b c tv sv uv) (ho:Own w' 3 1 (.slice A (b+1) cc) (b+1) (eH (List.replicate b (-1))++[.int .i64 (-1)])) (hf:Fr (obl (blk sv)) (w.alloc o) w')
  (hv:blk (.slice A (b+1) cc)=blk sv∨blk (.slice A (b+1) cc)=some (w.alloc o).heap.size):A1 B g TB RB nv fv lvs pvs ns fs (w'.setCell (g,U3) (.slice A (b+1) cc)) a (b+1) c tv (.slice A (b+1) cc) uv:=by
 have hb:=iO h.blk_ h.slots (by decide) hf;have htb:=iO h.tb h.slots (by decide) hf;obtain⟨rcs,hrb,hrs⟩:=h.rb;have hrb2:=iO hrb h.slots (by decide) hf;have hst:∀x,blk sv=some x->blk tv≠some x:=λx h1 h2=>h.ts x h2 h1
 have ht:=pV h.types h.slots hst hf;have hu:=pV h.fn h.slots h.sf hf;have hB:=h.hg;refine⟨(aAp h.tree h.hs hf).keep (λx hx=>Below.heap_setCell _ _ _ _ (by show x≠g;omega)) (by simp),hb.setCell 3 _,htb.far (p:=(g,U3)) (htb.ne hb (by decide)) _,⟨rcs,hrb2.far (p:=(g,U3)) (hrb2.ne hb (by decide)) _,hrs⟩,
  ht.far (p:=(g,U3)) (ht.aD hb (by decide)) _,?_,hu.far (p:=(g,U3)) (hu.aD hb (by decide)) _,h.hg,h.ht,aIv h.aSw h.hs hv,h.hf,λx h1 h2=>new_ne h.types hst hv x h2 h1,h.tf,new_ne h.fn h.sf hv⟩
 have e:eH (List.replicate (b+1) (-1))=eH (List.replicate b (-1))++[.int .i64 (-1)]:=by rw[List.replicate_succ'];simp[eH]
 rw[e];exact ho.far (p:=(g,U3)) (ho.aD hb (by decide)) _
theorem A1.aTk (h:A1 B g TB RB nv fv lvs pvs ns fs w a b c tv sv uv) (ho:Own w' 3 1 (.slice A (c+1) cc) (c+1) (ints (List.replicate c 0)++[.int .i64 0])) (hf:Fr (obl (blk uv)) (w.alloc o) w')
  (hv:blk (.slice A (c+1) cc)=blk uv∨blk (.slice A (c+1) cc)=some (w.alloc o).heap.size):A1 B g TB RB nv fv lvs pvs ns fs (w'.setCell (g,U4) (.slice A (c+1) cc)) a b (c+1) tv sv (.slice A (c+1) cc):=by
 have hb:=iO h.blk_ h.fn (by decide) hf;have htb:=iO h.tb h.fn (by decide) hf;obtain⟨rcs,hrb,hrs⟩:=h.rb;have hrb2:=iO hrb h.fn (by decide) hf;have hft:∀x,blk uv=some x->blk tv≠some x:=λx h1 h2=>h.tf x h2 h1
 have hfs:∀x,blk uv=some x->blk sv≠some x:=λx h1 h2=>h.sf x h2 h1
 have ht:=pV h.types h.fn hft hf;have hs:=pV h.slots h.fn hfs hf;have hB:=h.hg;refine⟨(aAp h.tree h.hf hf).keep (λx hx=>Below.heap_setCell _ _ _ _ (by show x≠g;omega)) (by simp),hb.setCell 4 _,htb.far (p:=(g,U4)) (htb.ne hb (by decide)) _,⟨rcs,hrb2.far (p:=(g,U4)) (hrb2.ne hb (by decide)) _,hrs⟩,
  ht.far (p:=(g,U4)) (ht.aD hb (by decide)) _,hs.far (p:=(g,U4)) (hs.aD hb (by decide)) _,?_,h.hg,h.ht,h.hs,aIv h.aSw h.hf hv,h.ts,λx h1 h2=>new_ne h.types hft hv x h2 h1,λx h1 h2=>new_ne h.slots hfs hv x h2 h1⟩
 have e:ints (List.replicate (c+1) 0)=ints (List.replicate c 0)++[.int .i64 0]:=by rw[List.replicate_succ'];simp[ints]
 rw[e];exact ho.far (p:=(g,U4)) (ho.aD hb (by decide)) _
end
def aQn (G:Geo) (zs:List Nat) (k:Nat) (r:CkR CkS) (w:World):Prop:=match r with
 | .good s=>∃Z,Ck (G.atZ Z) w s (zs++[s.size]) k 0 0
 | .bad e p=>e≠0∧e<=99∧∃Z s' zs',Ck (G.atZ Z).more w s' zs' k e p
section
variable {G:Geo}{w w':World}{s:CkS}{zs:List Nat}{k k0:Nat}
theorem aQn.no {r:CkR CkS} (h:aQn G zs k r w) (f:Fr nob w w'):aQn G zs k r w':=by
 cases r with
 | good s=>obtain⟨Z,h⟩:=h;exact⟨Z,h.no f⟩
 | bad e p=>obtain⟨h1,h2,Z,s',zs',h⟩:=h;exact⟨h1,h2,Z,s',zs',h.no f⟩
theorem wT (hM:G.M=24) (hu:(G.fs.map (·.name)).Nodup) (h:Ck G w s zs k0 0 0){f:aG} (hf:G.fs[k]?=some f) (hz:zs.length<=900) (hbody:f.body<G.ns.length) (h18:∀nd,G.ns[f.body]?=some nd->nd.kind=18):
  Calls prog 62 #[.pointer (some ⟨G.g,0,none⟩),.int .i64 k] w λen w'=>en = .returned (.tuple #[])∧aQn G zs k (gV G.ns G.fs k f s) w'∧Fr (λb=>G.B<=b) w w':=by
 have M0:Hd (CkM G w (.good s) zs k0):=h;obtain⟨fb,fc,pv,hfv,flt,c1,hpv,hpo,y0,y1,y2,y3,y4⟩:=M0.o.fnc hf;have hkl:=(gK hf);have hk3:(k:Int)<(G.fs.length:Int):=by omega
 have hk4:(G.fs.length:Int)<=6:=by have:=h.geo.fewf;omega
 have glt:=h.jK;have gn:¬G.g=w.heap.size:=by omega
 have fn:¬fb=w.heap.size:=by omega
 obtain⟨PA,PC,rfl,-,-⟩:=hpo.cap;have hpl:f.params.length<=3:=h.geo.fewp f (List.mem_of_getElem? hf);have hpl2:(f.params.length:Int)<=3:=by omega
 have hpl4:(f.params.length:Int)<=9223372036854775807:=by omega
 have HQ:=hD (And.intro hf hpv);have HM:=hD hM;have HG:=hD h.geo;have HZ:=hD hz;have HBL:=hD (λ(zs:List Nat)=>vJ (zs:=zs) (k:=k) h.geo hM hu G.ns.length f.body _ hbody (gE hbody) (h18 _ (gE hbody)));obtain⟨_,vv,-,-,-,-,-,-,c6,c7,c8,-,-,hfz,-⟩:=h.cells;have f6:=hfz 6;have f7:=hfz 7;have f8:=hfz 8;have A1:=hD (h.aLs 6 (.int .i64 (k:Nat)) (s':=s) (k':=k) (e':=0) (p':=0) (λ_ _=>rfl) rfl rfl rfl rfl hkl h.size h.fine h.vars);have A2:=hD A1.o.1.aSn;have A3:=hD (A2.o.1.aLs 8 (.int .i64 ((0:Nat):Int)) (s':={ s with vars:=[],size:=0 }) (k':=k) (e':=0) (p':=0) (λ_ _=>rfl) rfl rfl rfl rfl hkl (aA4 _) (λ_=>aA4 _) (aA1 _));have hsz:((((w.setCell ⟨G.g,6,none⟩ (.int .i64 (k:Nat))).setCell ⟨G.g,7,none⟩ (.slice none 0 0)).setCell ⟨G.g,8,none⟩ (.int .i64 0))).heap.size=w.heap.size:=by simp
 have C3:=hD (show CkC G ((((w.setCell ⟨G.g,6,none⟩ (.int .i64 (k:Nat))).setCell ⟨G.g,7,none⟩ (.slice none 0 0)).setCell ⟨G.g,8,none⟩ (.int .i64 0)).alloc (.cells #[.string (bs f.name),.int .i64 f.line,.slice PA f.params.length PC,.int .i64 f.ret,.int .i64 f.body] 48)) (.good { s with vars:=[],size:=0 }) zs k w.heap.size 48 #[.string (bs f.name),.int .i64 f.line,.slice PA f.params.length PC,.int .i64 f.ret,.int .i64 f.body] from by
  have:=CkC.new (show CkM G (((w.setCell ⟨G.g,6,none⟩ (.int .i64 (k:Nat))).setCell ⟨G.g,7,none⟩ (.slice none 0 0)).setCell ⟨G.g,8,none⟩ (.int .i64 0)) (.good { s with vars:=[],size:=0 }) zs k from A3.o.1) 48 #[.string (bs f.name),.int .i64 f.line,.slice PA f.params.length PC,.int .i64 f.ret,.int .i64 f.body] (by decide);rw[hsz] at this;exact this)
 have F3:Hd (FrK G w ((((w.setCell ⟨G.g,6,none⟩ (.int .i64 (k:Nat))).setCell ⟨G.g,7,none⟩ (.slice none 0 0)).setCell ⟨G.g,8,none⟩ (.int .i64 0)).alloc (.cells #[.string (bs f.name),.int .i64 f.line,.slice PA f.params.length PC,.int .i64 f.ret,.int .i64 f.body] 48))):=((A1.o.2.trans A2.o.2).trans A3.o.2).trans (FrK.no ((fR _).alloc _));clear h hf hpv hpo hM hkl hu hz hbody h18 hfz A1 A2 A3 hsz;go_enter func62,ntmps62;go_wp2_with fail
 clear c1 y0 y1 y2 y3 y4 c6 c7 c8 f6 f7 f8 gn fn flt glt hfv hk3 hk4;generalize (((w.setCell ⟨G.g,6,none⟩ (.int .i64 (k:Nat))).setCell ⟨G.g,7,none⟩ (.slice none 0 0)).setCell ⟨G.g,8,none⟩ (.int .i64 0)).alloc (.cells #[.string (bs f.name),.int .i64 f.line,.slice PA f.params.length PC,.int .i64 f.ret,.int .i64 f.body] 48)=w3 at *;generalize w.heap.size=D at *;go_loopw [5] (λi wr=>∃j:Nat,j<=f.params.length∧i = .int .i64 j∧∃(s':CkS) (e p:Nat),Hd (Ck G wr s' zs k e p)∧Hd (s'.size=j∧s'.vars.length=j)∧Hd ((e=0∧p=0∧iL f.body (f.params.take j) [] = .good s'.vars∧s'.types=s.types∧s'.slots=s.slots∧s'.fn=s.fn)∨(e≠0∧e<=99∧iL f.body (f.params.take j) [] = .bad e p))∧Hd (Blk wr D 48 #[.string (bs f.name),.int .i64 f.line,.slice PA f.params.length PC,.int .i64 f.ret,.int .i64 f.body])∧Hd (FrK G w wr)) (λi _=>f.params.length - (intOf i).toNat)
 case atStart=>exact⟨0,aA4 _,rfl,_,0,0,C3.o.m,hD ⟨rfl,rfl⟩,hD (.inl ⟨rfl,rfl,rfl,rfl,rfl,rfl⟩),C3.o.b,F3⟩
 case round=>
  obtain⟨j,hj,rfl,s',e,p,K,SZ,MO,B,FR⟩:=hrel;have NN:=hD (And.intro (And.intro C3.o.n0 C3.o.n1) (And.intro C3.o.n2 C3.o.n3));clear C3 F3;have d2:wr.cell? ⟨D,2,none⟩=some (.slice PA f.params.length PC):=by simpa using B.o.cell 2
  have d4:wr.cell? ⟨D,4,none⟩=some (.int .i64 f.body):=by simpa using B.o.cell 4
  by_cases hlt:j<f.params.length
  . have hlt2:(j:Int)<(f.params.length:Int):=by omega
    obtain⟨q,hq⟩:∃q,f.params[j]?=some q:=⟨_,gE hlt⟩;have hML:∀{e' p':Nat} {w':World},Ck G w' s' zs k e' p'->CkM G w' (if e'=0 then .good s' else .bad e' p') zs k->True:=λ_ _=>trivial
    have HT:=hD (show f.params.take (j+1)=f.params.take j++[q] from by rw[List.take_add_one,hq];rfl);obtain⟨pb,e1,p0,p1⟩:∃pb,PA=some ⟨pb,0,none⟩∧wr.cell? ⟨pb,j*2,none⟩=some (.string (bs q.1))∧wr.cell? ⟨pb,j*2+1,none⟩=some (.int .i64 (q.2:Nat)):=by
      have ho:Own wr 101 2 (.slice PA f.params.length PC) f.params.length (aN f.params):=K.o.tree.tree.pars.get HQ.o.1 HQ.o.2;obtain⟨pb,e,hc⟩:=ho.some (by omega);exact⟨pb,e,hc _ _ (aP hq).1,hc _ _ (aP hq).2⟩
    subst e1;have HQQ:=hD hq;have hj3:(j:Int)<=3:=by omega
    have HFI:=hD (oG K q.1);clear hq hlt hML;cases hp:iK s'.vars q.1
    case' none=>
     rw[hp] at HFI;have HP:=hD hp;have HFI2:Hd (Calls prog 100 #[.pointer (some ⟨G.g,0,none⟩),.string (bs q.1)] wr (λen w'=>en = .returned (.int .i64 (-1))∧Fr nob wr w')):=HFI;clear HFI hp;go_wp2_with fail
     refine HFI2.o.mono ?_;rintro en wv ⟨rfl,hf⟩;have KV1:=hD (K.o.no hf);have FV:=hD (FR.o.trans (FrK.no hf));have BV:=hD (B.o.fr hf (λx=>x));clear hf d2 d4 p0 p1;have PK:∃ev pv',Hd (Ck G wv s' zs k ev pv')∧Hd ((ev=0∧pv'=0∧iL f.body (f.params.take (j+1)) [] = .good (s'.vars++[⟨q.1,q.2,j⟩])∧s'.types=s.types∧s'.slots=s.slots∧s'.fn=s.fn)∨(ev≠0∧ev<=99∧iL f.body (f.params.take (j+1)) [] = .bad ev pv')):=⟨e,p,KV1,hD (by
      rcases MO.o with ⟨h1,h2,h3,h4⟩|⟨h1,h2,h3⟩
      . refine .inl ⟨h1,h2,?_,h4⟩
        rw[HT.o,iY,h3,CkR.aC,jD,HP.o];simp only[Option.bind_none,Option.isSome_none,Bool.false_eq_true,if_false];rw[SZ.o.2]
      . exact .inr ⟨h1,h2,by rw[HT.o,iY,h3];rfl⟩)⟩
     clear KV1
    case' some i=>
     rw[hp] at HFI;have HP:=hD (And.intro hp (rV hp));have HFI2:Hd (Calls prog 100 #[.pointer (some ⟨G.g,0,none⟩),.string (bs q.1)] wr (λen w'=>en = .returned (.int .i64 (i:Nat))∧Fr nob wr w')):=HFI;have hi0:(0:Int)<=(i:Int):=by omega
     clear HFI hp;go_wp2_with fail
     refine HFI2.o.mono ?_;rintro en w4 ⟨rfl,hf⟩;have KV0:=hD (K.o.no hf);have FV0:=hD (FR.o.trans (FrK.no hf));have BV0:=hD (B.o.fr hf (λx=>x));clear hf d2 d4 p0 p1;have d4:w4.cell? ⟨D,4,none⟩=some (.int .i64 f.body):=by simpa using BV0.o.cell 4
     go_wp2_with fail
     refine (kD KV0 41 f.body (by decide)).mono ?_;rintro en wv ⟨rfl,h5,f5⟩;have FV:=hD (FV0.o.trans f5);have BV:=hD (f5.far BV0 NN.o.1.1 NN.o.1.2 NN.o.2.1 NN.o.2.2 (by decide));have PK:∃ev pv',Hd (Ck G wv s' zs k ev pv')∧Hd ((ev=0∧pv'=0∧iL f.body (f.params.take (j+1)) [] = .good (s'.vars++[⟨q.1,q.2,j⟩])∧s'.types=s.types∧s'.slots=s.slots∧s'.fn=s.fn)∨(ev≠0∧ev<=99∧iL f.body (f.params.take (j+1)) [] = .bad ev pv')):=⟨_,_,h5,hD (by
      rcases MO.o with ⟨h1,h2,h3,h4⟩|⟨h1,h2,h3⟩
      . refine .inr ⟨by rw[h1];decide,by rw[h1];decide,?_⟩
        rw[HT.o,iY,h3,CkR.aC,jD,HP.o.1,h1];simp only[Option.bind_some,gE HP.o.2,Option.isSome_some,if_true]
      . rw[if_neg h1,if_neg h1]
        exact .inr ⟨h1,h2,by rw[HT.o,iY,h3];rfl⟩)⟩
     clear h5 f5 d4
    all_goals
     obtain⟨ev,pv',KV,HFIN⟩:=PK;have HS9:=hD (show ev=0->s'.size<=23 from λ_=>by rw[SZ.o.1];omega);obtain⟨zv,vv,hbl,-,-,hvo,-⟩:=KV.o.ex;rw[SZ.o.2] at hvo;obtain⟨VA,VC,rfl,-,-⟩:=hvo.cap;have c7:wv.cell? ⟨G.g,7,none⟩=some (.slice VA j VC):=by rw[hbl.cell];rfl
     have d2:wv.cell? ⟨D,2,none⟩=some (.slice (some ⟨pb,0,none⟩) f.params.length PC):=by simpa using BV.o.cell 2
     obtain⟨p0,p1⟩:wv.cell? ⟨pb,j*2,none⟩=some (.string (bs q.1))∧wv.cell? ⟨pb,j*2+1,none⟩=some (.int .i64 (q.2:Nat)):=by
      have ho:Own wv 101 2 (.slice (some ⟨pb,0,none⟩) f.params.length PC) f.params.length (aN f.params):=KV.o.tree.tree.pars.get HQ.o.1 HQ.o.2;obtain⟨pb',e,hc⟩:=ho.some (by omega);injection e with e;injection e with e;subst e;exact⟨hc _ _ (aP HQQ).1,hc _ _ (aP HQQ).2⟩
     have hvn:j<=24:=by omega
     have HV:=hD ((hvo.alloc (.cells #[.string (bs q.1),.int .i64 (q.2:Nat),.int .i64 (j:Nat)] 62)).fr ((fR _).drew) (λ_ _ x=>x));have HR:=hD (Rd.eZ (n:=1) (size:=3) (cs:=[.string (bs q.1),.int .i64 (q.2:Nat),.int .i64 (j:Nat)]) ((Blk.new wv 62 [.string (bs q.1),.int .i64 (q.2:Nat),.int .i64 (j:Nat)].toArray).fr ((fR _).drew) (λx=>x)) rfl (by decide));have HB:=hD ((hbl.alloc (.cells #[.string (bs q.1),.int .i64 (q.2:Nat),.int .i64 (j:Nat)] 62)).fr ((fR _).drew) (λx=>x));have BA:=hD ((BV.o.alloc (.cells #[.string (bs q.1),.int .i64 (q.2:Nat),.int .i64 (j:Nat)] 62)).fr ((fR _).drew) (λx=>x));have C7:=hD c7;have glt:=hbl.lt;have dlt:=BV.o.lt;have plt:=World.block_lt_of_cell? _ _ p0;have plt:pb<wv.heap.size:=plt;have gn:¬G.g=wv.heap.size:=by omega
     have dn:¬D=wv.heap.size:=by omega
     have pn:¬pb=wv.heap.size:=by omega
     clear hbl hvo;have HARM:=hD (show ∀(A6:Option Addr) (c6:Nat) (w6:World),Own w6 62 3 (.slice A6 (j+1) c6) (j+1) (aH s'.vars++[.string (bs q.1),.int .i64 (q.2:Nat),.int .i64 (j:Nat)])->Fr (obl (blk (.slice VA j VC))) (wv.alloc (.cells #[.string (bs q.1),.int .i64 (q.2:Nat),.int .i64 (j:Nat)] 62)).drew w6->(blk (.slice A6 (j+1) c6)=blk (.slice VA j VC)∨blk (.slice A6 (j+1) c6)=some (wv.alloc (.cells #[.string (bs q.1),.int .i64 (q.2:Nat),.int .i64 (j:Nat)] 62)).drew.heap.size) ->
        w6.frozen? ⟨G.g,7,none⟩=false∧w6.cell? ⟨G.g,7,none⟩=some (.slice VA j VC)∧G.g<w6.heap.size∧Hd ((w6.setCell ⟨G.g,7,none⟩ (.slice A6 (j+1) c6)).cell? ⟨G.g,8,none⟩=some (.int .i64 (j:Nat))∧(w6.setCell ⟨G.g,7,none⟩ (.slice A6 (j+1) c6)).frozen? ⟨G.g,8,none⟩=false∧Ck G ((w6.setCell ⟨G.g,7,none⟩ (.slice A6 (j+1) c6)).setCell ⟨G.g,8,none⟩ (.int .i64 ((j:Int)+1))) { s' with vars:=s'.vars++[⟨q.1,q.2,j⟩],size:=j+1 } zs k ev pv'∧FrK G w ((w6.setCell ⟨G.g,7,none⟩ (.slice A6 (j+1) c6)).setCell ⟨G.g,8,none⟩ (.int .i64 ((j:Int)+1)))∧Blk ((w6.setCell ⟨G.g,7,none⟩ (.slice A6 (j+1) c6)).setCell ⟨G.g,8,none⟩ (.int .i64 ((j:Int)+1))) D 48 #[.string (bs f.name),.int .i64 f.line,.slice (some ⟨pb,0,none⟩) f.params.length PC,.int .i64 f.ret,.int .i64 f.body]) from by
      intro A6 c6 w6 ho6 hf6 hv6;have h9:=KV.o.aRn (nm:=q.1) (t:=q.2) (o:= .cells #[.string (bs q.1),.int .i64 (q.2:Nat),.int .i64 (j:Nat)] 62) C7 (by rw[SZ.o.1,SZ.o.2];exact ho6) (Fr.trans (M1:=nob) ((fR _).drew) hf6 (λ_ _ x=>x.elim) (λ_ _ x=>x)) (by rw[SZ.o.2];simpa using hv6) (by have:=HM.o;omega) HS9.o;rw[SZ.o.1,SZ.o.2] at h9;have HB6:=HB.o.fr hf6 (λhm=>HV.o.aD HB (by decide) hm);have B6:=BA.o.fr hf6 (λhm=>HV.o.aD BA (by decide) hm);exact⟨HB6.frozen 7,by rw[HB6.cell];rfl,HB6.lt,h9.1,h9.2.1 8,h9.2.2.1.aPo HG (by show j+1<=G.M;have:=HM.o;omega),FV.o.trans h9.2.2.2,(B6.far (p:=⟨G.g,7,none⟩) NN.o.1.1 (.slice A6 (j+1) c6)).far (p:=⟨G.g,8,none⟩) NN.o.1.1 (.int .i64 ((j:Int)+1))⟩)
     clear HB BA;go_wp2_with fail
     go_region_law (first|(refine step_append (v:= .slice VA j VC) (n:=j) (m:=1) (xs:=aH s'.vars) (news:=[.string (bs q.1),.int .i64 (q.2:Nat),.int .i64 (j:Nat)]) (by rfl) _ _ (by rfl) qJ (by rfl) (by rfl) HV HR (by simp[Value.oneCell']) (by omega) (by unfold maxLen;omega) ?_;intro A6 c6 w6 ho6 hf6 hv6;have X:=HARM.o A6 c6 w6 ho6 hf6 hv6;obtain⟨f7,c7',gl6,AV⟩:=X;clear ho6 hf6 hv6))
     all_goals
      clear c7 d2 p0 p1 C7 glt dlt plt gn dn pn f7 c7' gl6 HARM HV HR;have c8:=AV.o.1;have f8:=AV.o.2.1;have gl:=World.block_lt_of_cell? _ _ c8;have N:=hD AV.o.2.2.1;have FF:=hD AV.o.2.2.2.1;have BB:=hD AV.o.2.2.2.2;clear AV;generalize w6.setCell ⟨G.g,7,none⟩ (.slice A6 (j+1) c6)=w10 at *;go_wp2
      go_roundw
      case rel=>exact⟨j+1,by omega,by go_num,_,ev,pv',hD (by first|exact N.o|exact N.o.no ((fR _).drew)),hD ⟨rfl,by rw[aA3,SZ.o.2];rfl⟩,HFIN,hD (by first|exact BB.o|exact BB.o.fr ((fR _).drew) (λx=>x)),hD (by first|exact FF.o|exact FF.o.trans (FrK.no ((fR _).drew)))⟩
      case measure=>simp[intOf];omega
  . have hle:(f.params.length:Int)<=(j:Int):=by omega
    have MO2:=hD (show ((e=0∧p=0∧iL f.body f.params [] = .good s'.vars∧s'.types=s.types∧s'.slots=s.slots∧s'.fn=s.fn)∨(e≠0∧e<=99∧iL f.body f.params [] = .bad e p)) from by
      have h9:=MO.o;rw[aA5 (by omega)] at h9;exact h9)
    obtain⟨_,_,-,-,-,-,-,-,-,-,-,c9,-⟩:=K.o.cells;clear MO;by_cases he:e=0
    case' pos=>
     have heb:((e:Int)==0)=true:=by rw[he];rfl
     have KG:=hD (show Ck G wr s' zs k 0 0 from by
      rcases MO2.o with ⟨h1,h2,_⟩|⟨h1,_⟩
      . have h9:=K.o;rw[h1,h2] at h9;exact h9
      . exact absurd he h1)
     have EQ:=hD (show gV G.ns G.fs k f s=eT G.ns G.fs k G.ns.length f.body s' from by
      rcases MO2.o with ⟨h1,h2,h3,h4,h5,h6⟩|⟨h1,_⟩
      . unfold gV
        rw[h3,CkR.aC];congr 1
        obtain⟨ty,sl,fn,va,sz⟩:=s';have h7:=SZ.o;dsimp only at h4 h5 h6 h7 ⊢;rw[h4,h5,h6,h7.1,h7.2]
      . exact absurd he h1)
     clear he;go_wp2_with fail
     refine (HBL zs wr s' KG).mono ?_;rintro en wv ⟨rfl,h6,f6⟩;obtain⟨s9,e9,p9,hk9,hm9⟩:=h6.open_ HM.o;have KV:=hD hk9;have MK:=hD (show fO (gV G.ns G.fs k f s) s9 e9 p9 from by rw[EQ.o];exact hm9);have FV:=hD (FR.o.trans f6);clear h6 f6 hk9 hm9 c9 d4 d2;go_wp2_with fail
     obtain⟨zv,vv,hbl,hzo,-,-,-⟩:=KV.o.ex;obtain⟨VA,VC,rfl,-,-⟩:=hzo.cap;have hbl2:Blk wv G.g 99 (jU G.more (.slice VA zs.length VC) vv k s9.size e9 p9):=hbl;have c5:wv.cell? ⟨G.g,5,none⟩=some (.slice VA zs.length VC):=by rw[hbl2.cell];rfl
     have c8:wv.cell? ⟨G.g,8,none⟩=some (.int .i64 (s9.size:Nat)):=by rw[hbl2.cell];rfl
     have HV:=hD ((hzo.alloc (.cells #[.int .i64 (s9.size:Nat)] 3)).fr ((fR _).drew) (λ_ _ x=>x));have HR:=hD (Rd.eZ (n:=1) (size:=1) (cs:=[.int .i64 (s9.size:Nat)]) ((Blk.new wv 3 [.int .i64 (s9.size:Nat)].toArray).fr ((fR _).drew) (λx=>x)) rfl (by decide));have HB:=hD ((hbl2.alloc (.cells #[.int .i64 (s9.size:Nat)] 3)).fr ((fR _).drew) (λx=>x));have C5:=hD c5;have glt:=hbl2.lt;have gn:¬G.g=wv.heap.size:=by omega
     have hzl:zs.length<=900:=HZ.o;clear hbl hbl2 hzo;have HARM:=hD (show ∀(A6:Option Addr) (c6:Nat) (w6:World),Own w6 3 1 (.slice A6 (zs.length+1) c6) (zs.length+1) (ints zs++[.int .i64 (s9.size:Nat)])->Fr (obl (blk (.slice VA zs.length VC))) (wv.alloc (.cells #[.int .i64 (s9.size:Nat)] 3)).drew w6->(blk (.slice A6 (zs.length+1) c6)=blk (.slice VA zs.length VC)∨blk (.slice A6 (zs.length+1) c6)=some (wv.alloc (.cells #[.int .i64 (s9.size:Nat)] 3)).drew.heap.size) ->
        w6.frozen? ⟨G.g,5,none⟩=false∧w6.cell? ⟨G.g,5,none⟩=some (.slice VA zs.length VC)∧G.g<w6.heap.size∧Hd (aQn G zs k (gV G.ns G.fs k f s) (w6.setCell ⟨G.g,5,none⟩ (.slice A6 (zs.length+1) c6))∧Fr (λb=>G.B<=b) w (w6.setCell ⟨G.g,5,none⟩ (.slice A6 (zs.length+1) c6))) from by
      intro A6 c6 w6 ho6 hf6 hv6;have h9:=KV.o.aSe (o:= .cells #[.int .i64 (s9.size:Nat)] 3) C5 ho6 (Fr.trans (M1:=nob) ((fR _).drew) hf6 (λ_ _ x=>x.elim) (λ_ _ x=>x)) (by simpa using hv6) HZ.o;have HB6:=HB.o.fr hf6 (λhm=>HV.o.aD HB (by decide) hm);refine⟨HB6.frozen 5,by rw[HB6.cell];rfl,HB6.lt,?_,(FV.o.toB HG).tr h9.2⟩;rcases MK.o with ⟨h1,h2,h3⟩|⟨h1,h2,h3⟩
      . rw[h3]
        refine⟨(w6.setCell ⟨G.g,5,none⟩ (.slice A6 (zs.length+1) c6)).heap.size,?_⟩;have h8:=h9.1;subst h1;subst h2;exact⟨gN.z HG h8.geo.lg h8.geo.lt h8.geo.ls h8.geo.lf,h8.tree,h8.ex,h8.types,h8.slots,h8.fn,h8.kk,by have:=h8.fine rfl;have:=HM.o;show s9.size<=G.M;omega,h8.fine,h8.vars,h8.zs,h8.zle⟩
      . rw[h3]
        exact⟨h1,h2,(w6.setCell ⟨G.g,5,none⟩ (.slice A6 (zs.length+1) c6)).heap.size,s9,zs++[s9.size],h9.1⟩)
     clear HB;go_wp2_with fail
     go_region_law (first|(refine step_append (v:= .slice VA zs.length VC) (n:=zs.length) (m:=1) (xs:=ints zs) (news:=[.int .i64 (s9.size:Nat)]) (by rfl) _ _ (by rfl) gW (by rfl) (by rfl) HV HR (by simp[Value.oneCell']) (by omega) (by unfold maxLen;omega) ?_;intro A6 c6 w6 ho6 hf6 hv6;have X:=HARM.o A6 c6 w6 ho6 hf6 hv6;obtain⟨f5,c5',gl6,AV⟩:=X;clear ho6 hf6 hv6))
    case' neg=>
     have heb:((e:Int)==0)=false:=bN.2 (by omega)
     have KV:=hD (K.o.more (by have:=HM.o;omega));have MK:=hD (show fO (gV G.ns G.fs k f s) s' e p from by
      rcases MO2.o with ⟨h1,_⟩|⟨h1,h2,h3⟩
      . exact absurd h1 he
      . exact .inr ⟨h1,h2,by unfold gV;rw[h3];rfl⟩)
     have FV:=FR;clear he;go_wp2_with fail
     clear c9 d4 d2;generalize wr=wv at *;generalize s'=s9 at *;generalize e=e9 at *;generalize p=p9 at *;obtain⟨zv,vv,hbl,hzo,-,-,-⟩:=KV.o.ex;obtain⟨VA,VC,rfl,-,-⟩:=hzo.cap;have hbl2:Blk wv G.g 99 (jU G.more (.slice VA zs.length VC) vv k s9.size e9 p9):=hbl;have c5:wv.cell? ⟨G.g,5,none⟩=some (.slice VA zs.length VC):=by rw[hbl2.cell];rfl
     have c8:wv.cell? ⟨G.g,8,none⟩=some (.int .i64 (s9.size:Nat)):=by rw[hbl2.cell];rfl
     have HV:=hD ((hzo.alloc (.cells #[.int .i64 (s9.size:Nat)] 3)).fr ((fR _).drew) (λ_ _ x=>x));have HR:=hD (Rd.eZ (n:=1) (size:=1) (cs:=[.int .i64 (s9.size:Nat)]) ((Blk.new wv 3 [.int .i64 (s9.size:Nat)].toArray).fr ((fR _).drew) (λx=>x)) rfl (by decide));have HB:=hD ((hbl2.alloc (.cells #[.int .i64 (s9.size:Nat)] 3)).fr ((fR _).drew) (λx=>x));have C5:=hD c5;have glt:=hbl2.lt;have gn:¬G.g=wv.heap.size:=by omega
     have hzl:zs.length<=900:=HZ.o;clear hbl hbl2 hzo;have HARM:=hD (show ∀(A6:Option Addr) (c6:Nat) (w6:World),Own w6 3 1 (.slice A6 (zs.length+1) c6) (zs.length+1) (ints zs++[.int .i64 (s9.size:Nat)])->Fr (obl (blk (.slice VA zs.length VC))) (wv.alloc (.cells #[.int .i64 (s9.size:Nat)] 3)).drew w6->(blk (.slice A6 (zs.length+1) c6)=blk (.slice VA zs.length VC)∨blk (.slice A6 (zs.length+1) c6)=some (wv.alloc (.cells #[.int .i64 (s9.size:Nat)] 3)).drew.heap.size) ->
        w6.frozen? ⟨G.g,5,none⟩=false∧w6.cell? ⟨G.g,5,none⟩=some (.slice VA zs.length VC)∧G.g<w6.heap.size∧Hd (aQn G zs k (gV G.ns G.fs k f s) (w6.setCell ⟨G.g,5,none⟩ (.slice A6 (zs.length+1) c6))∧Fr (λb=>G.B<=b) w (w6.setCell ⟨G.g,5,none⟩ (.slice A6 (zs.length+1) c6))) from by
      intro A6 c6 w6 ho6 hf6 hv6;have h9:=KV.o.aSe (o:= .cells #[.int .i64 (s9.size:Nat)] 3) C5 ho6 (Fr.trans (M1:=nob) ((fR _).drew) hf6 (λ_ _ x=>x.elim) (λ_ _ x=>x)) (by simpa using hv6) HZ.o;have HB6:=HB.o.fr hf6 (λhm=>HV.o.aD HB (by decide) hm);refine⟨HB6.frozen 5,by rw[HB6.cell];rfl,HB6.lt,?_,(FV.o.toB HG).tr h9.2⟩;rcases MK.o with ⟨h1,h2,h3⟩|⟨h1,h2,h3⟩
      . rw[h3]
        refine⟨(w6.setCell ⟨G.g,5,none⟩ (.slice A6 (zs.length+1) c6)).heap.size,?_⟩;have h8:=h9.1;subst h1;subst h2;exact⟨gN.z HG h8.geo.lg h8.geo.lt h8.geo.ls h8.geo.lf,h8.tree,h8.ex,h8.types,h8.slots,h8.fn,h8.kk,by have:=h8.fine rfl;have:=HM.o;show s9.size<=G.M;omega,h8.fine,h8.vars,h8.zs,h8.zle⟩
      . rw[h3]
        exact⟨h1,h2,(w6.setCell ⟨G.g,5,none⟩ (.slice A6 (zs.length+1) c6)).heap.size,s9,zs++[s9.size],h9.1⟩)
     clear HB;go_wp2_with fail
     go_region_law (first|(refine step_append (v:= .slice VA zs.length VC) (n:=zs.length) (m:=1) (xs:=ints zs) (news:=[.int .i64 (s9.size:Nat)]) (by rfl) _ _ (by rfl) gW (by rfl) (by rfl) HV HR (by simp[Value.oneCell']) (by omega) (by unfold maxLen;omega) ?_;intro A6 c6 w6 ho6 hf6 hv6;have X:=HARM.o A6 c6 w6 ho6 hf6 hv6;obtain⟨f5,c5',gl6,AV⟩:=X;clear ho6 hf6 hv6))
    all_goals
     clear c5 c8 C5 glt gn f5 c5' gl6 HARM HV HR;generalize w6.setCell ⟨G.g,5,none⟩ (.slice A6 (zs.length+1) c6)=w10 at *;go_wp2
     exact fK rfl rfl ⟨rfl,by first|exact AV.o.1|exact AV.o.1.no ((fR _).drew),by first|exact AV.o.2|exact AV.o.2.drew⟩
end
theorem Blk.aOh (w:World) (p:Addr) (v:Value) (t:TypeId) (cs:Array Value):Blk ((w.setCell p v).alloc (.cells cs t)) w.heap.size t cs:=by
 have:=Blk.new (w.setCell p v) t cs;rwa [show (w.setCell p v).heap.size=w.heap.size by simp] at this
theorem aJl {B0 B g:Nat}{w0 w w':World} (h0:B0<=B) (f:Fr (λb=>B0<=b) w0 w) (hu:∀x,blk u=some x->B<=x) (hf:Fr (obl (blk u)) (w.alloc o) w') (hg:B<=g) (i:Nat):Fr (λb=>B0<=b) w0 (w'.setCell (g,i) v):=
 ((f.alloc o).trans hf (λ_ _ x=>x) (λb _ hm=>Nat.le_trans h0 (hu b hm))).setCell (g,i) v (λ_=>Nat.le_trans h0 hg)
section
variable (ns:List aF) (fs:List aG)
end
section
variable {B g TB RB:Nat}{nv fv:Value}{lvs pvs:List Value}{ns:List aF}{fs:List aG}{w w':World}{n:Nat}
theorem A1.aTd {A1' A2 A3:Option Addr}{c1 c2 c3:Nat} (h:A1 B g TB RB nv fv lvs pvs ns fs w ns.length ns.length ns.length (.slice A1' ns.length c1) (.slice A2 ns.length c2) (.slice A3 ns.length c3)) (hok:nA ns fs) (hk:∀nd∈ns,nd.l.length<=300) (hn:0<ns.length) (hf:0<fs.length):
  ∃bt bs bf,Ck (aMy B w.heap.size g bt bs bf c1 c2 c3 nv fv lvs pvs ns fs) w (jV ns) [] 0 0 0:=by
 obtain⟨bt,rfl,-⟩:=h.types.some hn;obtain⟨bs,rfl,-⟩:=h.slots.some hn;obtain⟨bf,rfl,-⟩:=h.fn.some hn;have q1:=aQ (b:=bt) hn h.types.oH.1;have q2:=aQ (b:=bs) hn h.slots.oH.1;have q3:=aQ (b:=bf) hn h.fn.oH.1;refine⟨bt,bs,bf,⟨⟨(by decide:24<=1000),h.hg,h.ht _ q1,h.hs _ q2,h.hf _ q3,h.blk_.lt,h.types.aZ q1,h.slots.aZ q2,h.fn.aZ q3,λe=>h.ts _ q1 (q2.trans (congrArg some (Eq.symm e))),λe=>h.tf _ q1 (q3.trans (congrArg some (Eq.symm e))),λe=>h.sf _ q2 (q3.trans (congrArg some (Eq.symm e))),hn,hok.few,hok.fewf,hok.pars,hk,hok⟩,
  h.tree,⟨Un,Un,h.blk_,Own.nil _ _ _,λb hb=>by simp[blk] at hb,Own.nil _ _ _,λb hb=>by simp[blk] at hb⟩,h.types,h.slots,h.fn,hf,aA4 _,λ_=>aA4 _,aA1 _,aA4 _,aA1 _⟩⟩
def L2 (g:Nat) (nv fv:Value) (lvs pvs:List Value) (ns:List aF) (fs:List aG) (i:Nat) (w:World) (e p:Nat):Prop:=
 w.cell? (g,9)=e∧w.cell? (g,10)=p∧g<w.heap.size ∧
 ((e=0∧p=0∧jM fs = .good ()∧0<fs.length∧∃G zs s k,Ck G w s zs k 0 0∧G.B=g∧G.g=g∧G.M=24∧G.nv=nv∧G.fv=fv∧G.lvs=lvs∧G.pvs=pvs∧G.ns=ns∧G.fs=fs∧zs.length=i∧iR ns fs 0 (fs.take i) [] (jV ns) = .good (zs,s))∨(e≠0∧e<=99∧eD ns fs = .bad e p))
end
section
variable {w:World}{lvs pvs:List Value}{ns:List aF}{fs:List aG}
theorem aNu {NA FA:Option Addr}{NC FC:Nat} (ht:cZ 0 w (.slice NA ns.length NC) (.slice FA fs.length FC) lvs pvs ns fs):A1 (w.heap.size+1+1) (w.heap.size+1+1) w.heap.size (w.heap.size+1) (.slice NA ns.length NC) (.slice FA fs.length FC) lvs pvs ns fs (((w.alloc (.cells #[.slice NA ns.length NC,.slice FA fs.length FC] 26)).alloc (.cells #[Un,Un,Un,Un,Un,Un] 29)).alloc (.cells #[.slice NA ns.length NC,.slice FA fs.length FC,Un,Un,Un,Un,U0,Un,U0,U0,U0] 99)) 0 0 0 Un Un Un:=by
 have hb:=Blk.new ((w.alloc (.cells #[.slice NA ns.length NC,.slice FA fs.length FC] 26)).alloc (.cells #[Un,Un,Un,Un,Un,Un] 29)) 99 #[.slice NA ns.length NC,.slice FA fs.length FC,Un,Un,Un,Un,U0,Un,U0,U0,U0];have h1:=((Blk.new w 26 #[.slice NA ns.length NC,.slice FA fs.length FC]).alloc (.cells #[Un,Un,Un,Un,Un,Un] 29)).alloc (.cells #[.slice NA ns.length NC,.slice FA fs.length FC,Un,Un,Un,Un,U0,Un,U0,U0,U0] 99);have h2:=(Blk.new (w.alloc (.cells #[.slice NA ns.length NC,.slice FA fs.length FC] 26)) 29 #[Un,Un,Un,Un,Un,Un]).alloc (.cells #[.slice NA ns.length NC,.slice FA fs.length FC,Un,Un,Un,Un,U0,Un,U0,U0,U0] 99);simp only[World.size_alloc] at hb h2;have hl:=(dJ.of ht).keep (w':=(((w.alloc (.cells #[.slice NA ns.length NC,.slice FA fs.length FC] 26)).alloc (.cells #[Un,Un,Un,Un,Un,Un] 29)).alloc (.cells #[.slice NA ns.length NC,.slice FA fs.length FC,Un,Un,Un,Un,U0,Un,U0,U0,U0] 99))) (λb hb=>by rw[Below.heap_alloc _ _ _ (by simp;omega),Below.heap_alloc _ _ _ (by simp;omega),Below.heap_alloc _ _ _ hb]) (by simp;omega)
 exact⟨hl.up (by omega) (by simp),hb,h1,⟨_,h2,rfl⟩,Own.nil _ _ _,Own.nil _ _ _,Own.nil _ _ _,aA1 _,λx hx=>by simp[blk] at hx,λx hx=>by simp[blk] at hx,λx hx=>by simp[blk] at hx,λx hx=>by simp[blk] at hx,λx hx=>by simp[blk] at hx,λx hx=>by simp[blk] at hx⟩
theorem yV {NA FA:Option Addr}{NC FC:Nat} (ht:cZ 0 w (.slice NA ns.length NC) (.slice FA fs.length FC) lvs pvs ns fs) (hok:nA ns fs) (hk:∀nd∈ns,nd.l.length<=300):
  Calls prog 32 #[.agg #[.slice NA ns.length NC,.slice FA fs.length FC]] w λen w'=>CheckAt w' en (.slice NA ns.length NC) (.slice FA fs.length FC) lvs pvs (eD ns fs)∧Fr nob w w':=by
 have hns:=hok.few;have hfs:=hok.fewf;have hn3:(ns.length:Int)<=300:=by omega
 have hf3:(fs.length:Int)<=6:=by omega
 have HO:=hD hok;have HKD:=hD hk;have SA:=hD (aNu ht);have FA0:Hd (Fr (λb=>w.heap.size<=b) w (((w.alloc (.cells #[.slice NA ns.length NC,.slice FA fs.length FC] 26)).alloc (.cells #[Un,Un,Un,Un,Un,Un] 29)).alloc (.cells #[.slice NA ns.length NC,.slice FA fs.length FC,Un,Un,Un,Un,U0,Un,U0,U0,U0] 99))):=(((Fr.refl _ w).alloc _).alloc _).alloc _;clear ht hok hk;go_enter func32,ntmps32;go_wp2_with fail
 generalize ((w.alloc (.cells #[.slice NA ns.length NC,.slice FA fs.length FC] 26)).alloc (.cells #[Un,Un,Un,Un,Un,Un] 29)).alloc (.cells #[.slice NA ns.length NC,.slice FA fs.length FC,Un,Un,Un,Un,U0,Un,U0,U0,U0] 99)=w1 at *;generalize hG:w.heap.size+1+1=G at *;generalize hR:w.heap.size+1=RB at *;generalize hB:w.heap.size=TB at *;have HB:=hD (show TB<=G∧TB<G∧RB<G∧TB<=RB∧w.heap.size=TB from ⟨by omega,by omega,by omega,by omega,hB⟩);clear hG hR hB;go_loopw [6] (λi wr=>∃(j:Nat) (A1' A2 A3:Option Addr) (c1 c2 c3:Nat),j<=ns.length∧i = .int .i64 j∧Hd (A1 G G TB RB (.slice NA ns.length NC) (.slice FA fs.length FC) lvs pvs ns fs wr j j j (.slice A1' j c1) (.slice A2 j c2) (.slice A3 j c3))∧Hd (Fr (λb=>TB<=b) w wr)) (λi _=>ns.length - (intOf i).toNat)
 case atStart=>exact⟨0,none,none,none,0,0,0,aA4 _,rfl,SA,FA0⟩
 case round=>
  clear SA FA0;obtain⟨j,A1,A2,A3,c1,c2,c3,hj,rfl,S0,FR⟩:=hrel;have t0:wr.cell? (TB,0)=some (.slice NA ns.length NC):=(S0.o.tb.cell 0).trans rfl;have t1:wr.cell? (TB,1)=some (.slice FA fs.length FC):=(S0.o.tb.cell 1).trans rfl;by_cases hlt:j<ns.length
  . have hlt2:(j:Int)<(ns.length:Int):=by omega
    have hj6:(j:Int)<=300:=by omega
    have e2:wr.cell? (G,2)=some (.slice A1 j c1):=(S0.o.blk_.cell 2).trans rfl;have glt:=S0.o.blk_.lt;have gn:¬G=wr.heap.size:=by omega
    go_wp2_with (first|(at_builtin;(refine aL (v:= .slice A1 j c1) (n:=j) (m:=1) (xs:=ints (List.replicate j 0)) (news:=[U0]) rfl _ _ rfl gW rfl rfl (S0.o.types.alloc _) (Rd.eZ (n:=1) (cs:=[U0]) (Blk.new _ _ _) rfl (by decide)) (by simp[Value.oneCell']) (by omega) (by unfold maxLen;omega) ?_);go_loud (intro A6 d6 w6 ho6 hf6 hv6);go_loud (have S1:=hD (S0.o.aTi ho6 hf6 hv6));go_loud (have b6:=iO S0.o.blk_ S0.o.types (by decide) hf6);go_loud (have f6:=b6.frozen 2);go_loud (have e6:w6.cell? (G,2)=some (.slice A1 j c1):=(b6.cell 2).trans rfl);go_loud (have k6:w6.cell? (G,3)=some (.slice A2 j c2):=(b6.cell 3).trans rfl);go_loud (have gl6:=b6.lt);go_loud (have gn6:¬G=w6.heap.size:=by omega);go_loud (have F6:=hD (aJl HB.o.1 FR S0.o.ht hf6 S0.o.hg 2 (v:= .slice A6 (j+1) d6)));go_loud (clear ho6 hf6 hv6 b6))|(at_builtin;(refine aL (v:= .slice A2 j c2) (n:=j) (m:=1) (xs:=eH (List.replicate j (-1))) (news:=[(-1:Int)]) rfl _ _ rfl gW rfl rfl (S1.o.slots.alloc _) (Rd.eZ (n:=1) (cs:=[(-1:Int)]) (Blk.aOh _ _ _ _ _) rfl (by decide)) (by simp[Value.oneCell']) (by omega) (by unfold maxLen;omega) ?_);go_loud (intro A7 d7 w7 ho7 hf7 hv7);go_loud (have S2:=hD (S1.o.aTj ho7 hf7 hv7));go_loud (have b7:=iO S1.o.blk_ S1.o.slots (by decide) hf7);go_loud (have f7:=b7.frozen 3);go_loud (have e7:w7.cell? (G,3)=some (.slice A2 j c2):=(b7.cell 3).trans rfl);go_loud (have k7:w7.cell? (G,4)=some (.slice A3 j c3):=(b7.cell 4).trans rfl);go_loud (have gl7:=b7.lt);go_loud (have gn7:¬G=w7.heap.size:=by omega);go_loud (have F7:=hD (aJl HB.o.1 F6 S1.o.hs hf7 S1.o.hg 3 (v:= .slice A7 (j+1) d7)));go_loud (clear ho7 hf7 hv7 b7))|(at_builtin;(refine aL (v:= .slice A3 j c3) (n:=j) (m:=1) (xs:=ints (List.replicate j 0)) (news:=[U0]) rfl _ _ rfl gW rfl rfl (S2.o.fn.alloc _) (Rd.eZ (n:=1) (cs:=[U0]) (Blk.aOh _ _ _ _ _) rfl (by decide)) (by simp[Value.oneCell']) (by omega) (by unfold maxLen;omega) ?_);go_loud (intro A8 d8 w8 ho8 hf8 hv8);go_loud (have S3:=hD (S2.o.aTk ho8 hf8 hv8));go_loud (have b8:=iO S2.o.blk_ S2.o.fn (by decide) hf8);go_loud (have f8:=b8.frozen 4);go_loud (have e8:w8.cell? (G,4)=some (.slice A3 j c3):=(b8.cell 4).trans rfl);go_loud (have gl8:=b8.lt);go_loud (have gn8:¬G=w8.heap.size:=by omega);go_loud (have F8:=hD (aJl HB.o.1 F7 S2.o.hf hf8 S2.o.hg 4 (v:= .slice A8 (j+1) d8)));go_loud (clear ho8 hf8 hv8 b8)))
    go_roundw
    case rel=>exact⟨j+1,_,_,_,_,_,_,by omega,by go_num,S3,F8⟩
    case measure=>simp[intOf];omega
  . have hle:(ns.length:Int)<=(j:Int):=by omega
    have hje:j=ns.length:=by omega
    subst hje;clear hlt;go_wp2_with fail
    refine (aFt S0.o.blk_ S0.o.tree.tree hfs HO.o.pars).mono ?_;rintro en w2 ⟨rfl,f2,e,p,hb2,hm⟩;have FRH:=hD (show Fr (λb=>TB<=b) w w2 from FR.o.trans f2 (λ_ _ x=>x) (λb _ hb=>by rw[show b=G from hb];exact HB.o.1));have T2:Hd (Blk w2 TB 26 #[.slice NA ns.length NC,.slice FA fs.length FC]):=S0.o.tb.fr f2 (λhb=>by have h1:TB=G:=hb;have:=HB.o.2.1;omega);have R2:=hD (show ∃cs,Blk w2 RB 29 cs∧cs.size=6 from by
     obtain⟨cs,h1,h2⟩:=S0.o.rb;exact⟨cs,h1.fr f2 (λhb=>by have h1:RB=G:=hb;have:=HB.o.2.2.1;omega),h2⟩)
    have LL:=hD (show L2 G (.slice NA ns.length NC) (.slice FA fs.length FC) lvs pvs ns fs 0 w2 e p from by
     refine⟨(hb2.cell 9).trans rfl,(hb2.cell 10).trans rfl,hb2.lt,?_⟩;rcases hm with ⟨rfl,rfl,h3⟩|⟨h1,h2,h3⟩
     . have hne:0<fs.length:=by
         cases hfs':fs with
         | nil=>rw[hfs'] at h3;cases h3
         | cons a l=>simp
       have hnn:0<ns.length:=by
         obtain⟨c,hc,_⟩:=HO.o.bodies _ (List.getElem_mem hne);have:=(gK hc);omega
       obtain⟨bt,bs,bf,hck⟩:=S0.o.aTd HO HKD hnn hne;refine .inl ⟨rfl,rfl,h3,hne,aMy G wr.heap.size G bt bs bf c1 c2 c3 (.slice NA ns.length NC) (.slice FA fs.length FC) lvs pvs ns fs,[],jV ns,0,?_,rfl,rfl,rfl,rfl,rfl,rfl,rfl,rfl,rfl,rfl,by rw[List.take_zero];rfl⟩;have hneg:=hck.gne;refine hck.keep f2.size λb hbl hbb=>?_
       by_cases hbg:b=G
       . subst hbg
         have e1:w2.heap[b]?=some (.cells (hcells (.slice NA ns.length NC) (.slice FA fs.length FC) (.slice A1 ns.length c1) (.slice A2 ns.length c2) (.slice A3 ns.length c3) Un Un 0 0 0 0) 99 (0,0)):=hb2;have e3:wr.heap[b]?=some (.cells (hcells (.slice NA ns.length NC) (.slice FA fs.length FC) (.slice A1 ns.length c1) (.slice A2 ns.length c2) (.slice A3 ns.length c3) Un Un 0 0 0 0) 99 (0,0)):=S0.o.blk_;rw[e1,e3]
       . exact f2.block b hbl hbg
     . refine .inr ⟨h1,h2,?_⟩
       unfold eD;rw[h3];rfl)
    clear S0 FR f2 hb2 hm t0 t1 hle hj;go_wp2
    go_loopw [7] (λi wq=>∃(j e p:Nat),j<=fs.length∧i = .int .i64 j∧Hd (L2 G (.slice NA ns.length NC) (.slice FA fs.length FC) lvs pvs ns fs j wq e p)∧Hd (Blk wq TB 26 #[.slice NA ns.length NC,.slice FA fs.length FC])∧Hd (∃cs,Blk wq RB 29 cs∧cs.size=6)∧Hd (Fr (λb=>TB<=b) w wq)) (λi _=>fs.length - (intOf i).toNat)
    case atStart=>exact⟨0,e,p,aA4 _,rfl,LL,T2,R2,FRH⟩
    case round=>
     clear LL T2 R2 FRH;obtain⟨j,e,p,hj,rfl,LL,T2,R2,FR⟩:=hrel;have t0:wr.cell? (TB,0)=some (.slice NA ns.length NC):=(T2.o.cell 0).trans rfl;have t1:wr.cell? (TB,1)=some (.slice FA fs.length FC):=(T2.o.cell 1).trans rfl;have c9:=LL.o.1;have glt:=LL.o.2.2.1;by_cases hgo:j<fs.length∧e=0
     . obtain⟨hlt,rfl⟩:=hgo
       have hlt2:(j:Int)<(fs.length:Int):=by omega
       rcases LL.o.2.2.2 with ⟨_,rfl,hh,hf0,GG,zs,s,k,hck,g1,g2,g3,g4,g5,g6,g7,g8,g9,hzl,hfu⟩|⟨h0,_⟩
       case inr=>exact absurd rfl h0
       obtain⟨f,hf⟩:∃f,fs[j]?=some f:=⟨_,gE hlt⟩;have hbd:=HO.o.bodies f (List.mem_of_getElem? hf);have HC:=hD (wT (k:=j) g3 (by rw[g9];exact aEx hh) hck (by rw[g9];exact hf) (by omega) (by obtain⟨c,hc,_⟩:=hbd;rw[g8];exact (gK hc)) (λnd hnd=>by
         obtain⟨c,hc,hcb⟩:=hbd;rw[g8,hc] at hnd;injection hnd with hnd;subst hnd;simpa[pO] using hcb))
       have HJ:=hD hlt;have HX:=hD (And.intro hh (And.intro hf0 (And.intro hf (And.intro hzl hfu))));have HG:=hD (And.intro g1 (And.intro g2 (And.intro g3 (And.intro g4 (And.intro g5 (And.intro g6 (And.intro g7 (And.intro g8 g9))))))));rw[g2] at HC;clear hck g1 g2 g3 g4 g5 g6 g7 g8 g9 hh hf0 hzl hfu hf hbd hlt;go_wp2_with fail
       refine HC.o.mono ?_;rintro en w5 ⟨rfl,hk5,f5⟩;obtain⟨g1,g2,g3,g4,g5,g6,g7,g8,g9⟩:=HG.o;rw[g1] at f5;rw[g8,g9] at hk5;have F5:Hd (Fr (λb=>TB<=b) w w5):=FR.o.trans f5 (λ_ _ x=>x) (λb _ hb=>Nat.le_trans HB.o.1 hb);have T5:Hd (Blk w5 TB 26 #[.slice NA ns.length NC,.slice FA fs.length FC]):=T2.o.fr f5 (λhb=>by have h1:G<=TB:=hb;have:=HB.o.2.1;omega);have R5:=hD (show ∃cs,Blk w5 RB 29 cs∧cs.size=6 from by
         obtain⟨cs,h1,h2⟩:=R2.o;exact⟨cs,h1.fr f5 (λhb=>by have h1:G<=RB:=hb;have:=HB.o.2.2.1;omega),h2⟩)
       have L5:=hD (show ∃e p,L2 G (.slice NA ns.length NC) (.slice FA fs.length FC) lvs pvs ns fs (j+1) w5 e p from by
         obtain⟨hh,hf0,hf,hzl,hfu⟩:=HX.o;have hT:fs.take (j+1)=fs.take j++[f]:=by rw[List.take_add_one,hf];rfl
         have hlj:(fs.take j).length=j:=by rw[List.length_take];omega
         cases hfn:gV ns fs j f s with
         | good s'=>
           rw[hfn] at hk5;obtain⟨Z,hc5⟩:=hk5;obtain⟨_,_,-,-,-,-,-,-,-,-,-,c9,c10,-⟩:=hc5.cells;have hgl:=hc5.jK;have g2':(GG.atZ Z).g=G:=g2;rw[g2'] at c9 c10 hgl;refine⟨0,0,c9,c10,hgl,.inl ⟨rfl,rfl,hh,hf0,GG.atZ Z,zs++[s'.size],s',j,hc5,g1,g2,g3,g4,g5,g6,g7,g8,g9,by rw[aA3,hzl];rfl,?_⟩⟩;rw[hT,iC,hfu,CkR.aC,hlj,Nat.zero_add,hfn];rfl
         | bad e' p'=>
           rw[hfn] at hk5;obtain⟨h1,h2,Z,s',zs',hc5⟩:=hk5;obtain⟨_,_,-,-,-,-,-,-,-,-,-,c9,c10,-⟩:=hc5.cells;have hgl:=hc5.jK;have g2':(GG.atZ Z).more.g=G:=g2;rw[g2'] at c9 c10 hgl;refine⟨e',p',c9,c10,hgl,.inr ⟨h1,h2,?_⟩⟩;unfold eD;rw[hh,CkR.aC];have hb:iR ns fs 0 (fs.take (j+1)) [] (jV ns) = .bad e' p':=by
            rw[hT,iC,hfu,CkR.aC,hlj,Nat.zero_add,hfn];rfl
           have:=vD ns fs (fs.take (j+1)) (fs.drop (j+1)) 0 [] (jV ns) hb;rw[List.take_append_drop] at this;rw[this];rfl)
       clear hk5 f5 g1 g2 g3 g4 g5 g6 g7 g8 g9 HC HX HG LL T2 R2 FR t0 t1 c9 glt;obtain⟨e',p',L6⟩:=L5.o;have L7:=hD L6;clear L6 L5;go_wp2
       go_roundw
       case rel=>exact⟨j+1,e',p',by have:=HJ.o;omega,by go_num,L7,T5,R5,F5⟩
       case measure=>simp[intOf];have:=HJ.o;omega
     . have c10:=LL.o.2.1
       obtain⟨cs,hrb,hsz⟩:=R2.o;obtain⟨a0,a1,a2,a3,a4,a5,rfl⟩:=aGw hsz;have HRB:=hD HB.o.2.2.2.1;have r0:wr.cell? (RB,0)=some a0:=(hrb.cell 0).trans rfl;have r1:wr.cell? (RB,1)=some a1:=(hrb.cell 1).trans rfl;have r2:wr.cell? (RB,2)=some a2:=(hrb.cell 2).trans rfl;have r3:wr.cell? (RB,3)=some a3:=(hrb.cell 3).trans rfl;have r4:wr.cell? (RB,4)=some a4:=(hrb.cell 4).trans rfl;have r5:wr.cell? (RB,5)=some a5:=(hrb.cell 5).trans rfl;have z0:=hrb.frozen 0;have z1:=hrb.frozen 1;have z2:=hrb.frozen 2;have z3:=hrb.frozen 3;have z4:=hrb.frozen 4;have z5:=hrb.frozen 5;have rlt:=hrb.lt;have gnr:¬G=RB:=by have:=HB.o.2.2.1;omega
       have HRBL:=hD hrb;clear hsz hrb;by_cases he:e=0
       . have hje:¬j<fs.length:=λh=>hgo ⟨h,he⟩
         have hje2:j=fs.length:=by omega
         subst hje2;rcases LL.o.2.2.2 with ⟨-,hp0,hh,hf0,GG,zs,s,k,hck,g1,g2,g3,g4,g5,g6,g7,g8,g9,hzl,hfu⟩|⟨h0,_⟩
         case inr=>exact absurd he h0
         rw[aA5 (by omega)] at hfu;have CA:=hD (show eD ns fs = .good (⟨ns,fs,s.types,s.slots,s.fn,zs⟩:gB) from by unfold eD;rw[hh,CkR.aC,hfu];rfl);obtain⟨M,B,Z,gg,bt,bq,bf,ct,cq,cf,nv,fv,lv,pv,nn,ff⟩:=GG;dsimp only at g1 g2 g3 g4 g5 g6 g7 g8 g9;have g1':=g1.symm;subst g1';have g2':=g2.symm;subst g2';have g4':=g4.symm;subst g4';have g5':=g5.symm;subst g5';have g6':=g6.symm;subst g6';have g7':=g7.symm;subst g7';have g8':=g8.symm;subst g8';have g9':=g9.symm;subst g9';obtain⟨zv,vv,hb,hz,-⟩:=hck.ex;obtain⟨ZA,ZC,rfl,-,-⟩:=hz.cap;have c0:wr.cell? (G,0)=some (.slice NA ns.length NC):=(hb.cell 0).trans rfl;have c1:wr.cell? (G,1)=some (.slice FA fs.length FC):=(hb.cell 1).trans rfl;have c2:wr.cell? (G,2)=(bt,ns.length,ct):=(hb.cell 2).trans rfl;have c3:wr.cell? (G,3)=(bq,ns.length,cq):=(hb.cell 3).trans rfl;have c4:wr.cell? (G,4)=(bf,ns.length,cf):=(hb.cell 4).trans rfl;have c5:wr.cell? (G,5)=some (.slice ZA zs.length ZC):=(hb.cell 5).trans rfl;have HPR:=hD (show kT wr (.slice NA ns.length NC) (.slice FA fs.length FC) (bt,ns.length,ct) (bq,ns.length,cq) (bf,ns.length,cf) (.slice ZA zs.length ZC) lvs pvs (⟨ns,fs,s.types,s.slots,s.fn,zs⟩:gB) from
           ⟨hck.tree.tree,by have h9:=hck.types;have h8:=h9.len;simp[ints] at h8;rw[show s.types.length=ns.length from h8];exact h9,by have h9:=hck.slots;have h8:=h9.len;simp[eH] at h8;rw[show s.slots.length=ns.length from h8];exact h9,by have h9:=hck.fn;have h8:=h9.len;simp[ints] at h8;rw[show s.fn.length=ns.length from h8];exact h9,hz⟩)
         have hne:((e:Int) != 0)=false:=by rw[he];rfl
         have heb:((e:Int)==0)=true:=by rw[he];rfl
         clear hck hb hz hh hf0 hzl hfu hp0 g1 g2 g3 g4 g5 g6 g7 g8 g9;have BE:Hd (Blk ((((((wr.setCell (RB,()) (.slice NA ns.length NC)).setCell (RB,U1) (.slice FA fs.length FC)).setCell (RB,U2) (bt,ns.length,ct)).setCell (RB,U3) (bq,ns.length,cq)).setCell (RB,U4) (bf,ns.length,cf)).setCell (RB,U5) (.slice ZA zs.length ZC)) RB 29 #[.slice NA ns.length NC,.slice FA fs.length FC,(bt,ns.length,ct),(bq,ns.length,cq),(bf,ns.length,cf),.slice ZA zs.length ZC]):=(((((HRBL.o.setCell 0 (.slice NA ns.length NC)).setCell 1 (.slice FA fs.length FC)).setCell 2 (bt,ns.length,ct)).setCell 3 (bq,ns.length,cq)).setCell 4 (bf,ns.length,cf)).setCell 5 (.slice ZA zs.length ZC);have FE:=hD (show Fr nob w ((((((wr.setCell (RB,()) (.slice NA ns.length NC)).setCell (RB,U1) (.slice FA fs.length FC)).setCell (RB,U2) (bt,ns.length,ct)).setCell (RB,U3) (bq,ns.length,cq)).setCell (RB,U4) (bf,ns.length,cf)).setCell (RB,U5) (.slice ZA zs.length ZC)) from (FR.o.trans (M:=λb=>TB<=b) (Fr.six wr RB (.slice NA ns.length NC) (.slice FA fs.length FC) (bt,ns.length,ct) (bq,ns.length,cq) (bf,ns.length,cf) (.slice ZA zs.length ZC)) (λ_ _ x=>x) (λb _ hb=>by rw[show b=RB from hb];exact HRB)).mono (λb hb hm=>by have h9:=HB.o.2.2.2.2;have hm:TB<=b:=hm;omega))
         have PE:=hD (HPR.o.aSc HRBL (show Fr (bY RB) wr ((((((wr.setCell (RB,()) (.slice NA ns.length NC)).setCell (RB,U1) (.slice FA fs.length FC)).setCell (RB,U2) (bt,ns.length,ct)).setCell (RB,U3) (bq,ns.length,cq)).setCell (RB,U4) (bf,ns.length,cf)).setCell (RB,U5) (.slice ZA zs.length ZC)) from Fr.six wr RB (.slice NA ns.length NC) (.slice FA fs.length FC) (bt,ns.length,ct) (bq,ns.length,cq) (bf,ns.length,cf) (.slice ZA zs.length ZC)));clear he hgo hje;go_wp2_with fail
         all_goals
           clear r0 r1 r2 r3 r4 r5 z0 z1 z2 z3 z4 z5;generalize (((((wr.setCell (RB,()) (.slice NA ns.length NC)).setCell (RB,U1) (.slice FA fs.length FC)).setCell (RB,U2) (bt,ns.length,ct)).setCell (RB,U3) (bq,ns.length,cq)).setCell (RB,U4) (bf,ns.length,cf)).setCell (RB,U5) (.slice ZA zs.length ZC)=wz at *;have z0:wz.cell? (RB,0)=some (.slice NA ns.length NC):=(BE.o.cell 0).trans rfl;have z1:wz.cell? (RB,1)=some (.slice FA fs.length FC):=(BE.o.cell 1).trans rfl;have z2:wz.cell? (RB,2)=(bt,ns.length,ct):=(BE.o.cell 2).trans rfl;have z3:wz.cell? (RB,3)=(bq,ns.length,cq):=(BE.o.cell 3).trans rfl;have z4:wz.cell? (RB,4)=(bf,ns.length,cf):=(BE.o.cell 4).trans rfl;have z5:wz.cell? (RB,5)=some (.slice ZA zs.length ZC):=(BE.o.cell 5).trans rfl;go_wp2
           refine bodyPost_ret (v:= .tuple #[.agg #[.slice NA ns.length NC,.slice FA fs.length FC,(bt,ns.length,ct),(bq,ns.length,cq),(bf,ns.length,cf),.slice ZA zs.length ZC],U0,U0]) (by simp[results,results32,go_sem,z0,z1,z2,z3,z4,z5]) rfl ⟨by rw[CA.o];exact⟨_,_,_,_,rfl,by first|exact PE.o|exact PE.o.no ((fR _).drew)⟩,by first|exact FE.o|exact FE.o.drew⟩
       . by_cases hlt:j<fs.length
         case' pos=>
          have hlt2:(j:Int)<(fs.length:Int):=by omega
          have heb:((e:Int)==0)=false:=bN.2 (by omega);have hne:((e:Int) != 0)=true:=by rw[bne,bN.2 (by omega)];rfl
          have CA:=hD (show eD ns fs = .bad e p∧e≠0∧e<=99 from by
           rcases LL.o.2.2.2 with ⟨h1,_⟩|⟨h1,h2,h3⟩
           . exact absurd h1 he
           . exact⟨h3,h1,h2⟩)
          have BE:Hd (Blk ((((((wr.setCell (RB,()) Un).setCell (RB,U1) Un).setCell (RB,U2) Un).setCell (RB,U3) Un).setCell (RB,U4) Un).setCell (RB,U5) Un) RB 29 #[Un,Un,Un,Un,Un,Un]):=(((((HRBL.o.setCell 0 Un).setCell 1 Un).setCell 2 Un).setCell 3 Un).setCell 4 Un).setCell 5 Un;have FE:=hD (show Fr nob w ((((((wr.setCell (RB,()) Un).setCell (RB,U1) Un).setCell (RB,U2) Un).setCell (RB,U3) Un).setCell (RB,U4) Un).setCell (RB,U5) Un) from (FR.o.trans (M:=λb=>TB<=b) (Fr.six wr RB Un Un Un Un Un Un) (λ_ _ x=>x) (λb _ hb=>by rw[show b=RB from hb];exact HRB)).mono (λb hb hm=>by have h9:=HB.o.2.2.2.2;have hm:TB<=b:=hm;omega));clear he hlt hgo;go_wp2_with fail
          go_region_law (fail)
         case' neg=>
          have hje2:j=fs.length:=by omega
          subst hje2;have heb:((e:Int)==0)=false:=bN.2 (by omega);have hne:((e:Int) != 0)=true:=by rw[bne,bN.2 (by omega)];rfl
          have CA:=hD (show eD ns fs = .bad e p∧e≠0∧e<=99 from by
           rcases LL.o.2.2.2 with ⟨h1,_⟩|⟨h1,h2,h3⟩
           . exact absurd h1 he
           . exact⟨h3,h1,h2⟩)
          have BE:Hd (Blk ((((((wr.setCell (RB,()) Un).setCell (RB,U1) Un).setCell (RB,U2) Un).setCell (RB,U3) Un).setCell (RB,U4) Un).setCell (RB,U5) Un) RB 29 #[Un,Un,Un,Un,Un,Un]):=(((((HRBL.o.setCell 0 Un).setCell 1 Un).setCell 2 Un).setCell 3 Un).setCell 4 Un).setCell 5 Un;have FE:=hD (show Fr nob w ((((((wr.setCell (RB,()) Un).setCell (RB,U1) Un).setCell (RB,U2) Un).setCell (RB,U3) Un).setCell (RB,U4) Un).setCell (RB,U5) Un) from (FR.o.trans (M:=λb=>TB<=b) (Fr.six wr RB Un Un Un Un Un Un) (λ_ _ x=>x) (λb _ hb=>by rw[show b=RB from hb];exact HRB)).mono (λb hb hm=>by have h9:=HB.o.2.2.2.2;have hm:TB<=b:=hm;omega));clear he hlt hgo;go_wp2_with fail
          go_region_law (fail)
         all_goals
          clear r0 r1 r2 r3 r4 r5 z0 z1 z2 z3 z4 z5;generalize (((((wr.setCell (RB,()) Un).setCell (RB,U1) Un).setCell (RB,U2) Un).setCell (RB,U3) Un).setCell (RB,U4) Un).setCell (RB,U5) Un=wz at *;have z0:wz.cell? (RB,0)=Un:=(BE.o.cell 0).trans rfl;have z1:wz.cell? (RB,1)=Un:=(BE.o.cell 1).trans rfl;have z2:wz.cell? (RB,2)=Un:=(BE.o.cell 2).trans rfl;have z3:wz.cell? (RB,3)=Un:=(BE.o.cell 3).trans rfl;have z4:wz.cell? (RB,4)=Un:=(BE.o.cell 4).trans rfl;have z5:wz.cell? (RB,5)=Un:=(BE.o.cell 5).trans rfl;go_wp2
          refine bodyPost_ret (v:= .tuple #[.agg #[Un,Un,Un,Un,Un,Un],p,e]) (by simp[results,results32,go_sem,z0,z1,z2,z3,z4,z5]) rfl ⟨by rw[CA.o.1];exact⟨rfl,CA.o.2⟩,by first|exact FE.o|exact FE.o.drew⟩
end
end Go.Proofs.YtlbjicjinnnboaaGreatDoor
