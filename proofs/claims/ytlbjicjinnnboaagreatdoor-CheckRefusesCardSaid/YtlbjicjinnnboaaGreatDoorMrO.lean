/- MrO: QAllB, QShown, TSrc, KqSrc, CpModel, CsA, CsB, CsC, CsD, CpMem. -/
import Derived.Test.YtlbjicjinnnboaaGreatDoorMrN
import Derived.Test.YtlbjicjinnnboaaGreatDoorMrF
import Derived.Test.YtlbjicjinnnboaaGreatDoorMrG
import Derived.Test.YtlbjicjinnnboaaGreatDoorMrJ
import Derived.Test.YtlbjicjinnnboaaGreatDoorMrK
set_option maxHeartbeats 8000000
set_option maxRecDepth 100000
set_option linter.unusedVariables false
set_option linter.unusedSimpArgs false
/- The program's own parser: All. Printed by wip/tools/mkqallb.py. -/
namespace Go.Proofs.YtlbjicjinnnboaaGreatDoor
open Go.RowKit Go.Proofs.Tryz
variable {w:World}{t:Nat}
theorem aKv (src:ByteArray) (w:World) (hs:src.size≤281474976710656) (hv:aAc w){r:xO} (hr:parseM src.data.toList=some r):
  Calls prog 25 #[src] w λe w'=>aJj w.heap.size w' e r∧Fr nob w w':=by
 have FT0:Hd (Fr nob w (w.alloc (.cells #[Un,Un] 26))):=(fR w).alloc _;have V0:=hD hv;have HL:=hD (Lx.aPg src (w.alloc (.cells #[Un,Un] 26)) hs (hv.lex.fr FT0));have HS:=hD hs;unfold parseM at hr;cases hl:nP src.data.toList with
 | bad p er=>
  rw[hl] at hr HL;simp only[Option.some.injEq] at hr;subst hr;have hne:((er:Int)==0)=false:=by
   have:=vE hl;exact bN.2 (by omega)
  clear hl hs hv;go_enter func25,ntmps25;go_wp2_with fail
  refine HL.o.mono ?_;rintro e w1 ⟨rfl,hf⟩;have F1:=hD hf;have hB:=(Blk.new w 26 #[Un,Un]).fr hf (λx=>x);have t0:=hB.frozen 0;have t1:=hB.frozen 1;have u0:=hB.cell 0;have u1:=hB.cell 1;have ul:=hB.lt;simp at u0 u1
  clear hf hB;go_wp2_with fail
  have F2:=hD (show Fr nob w ((w1.setCell (w.heap.size,()) Un).setCell (w.heap.size,U1) Un) from
   ((((fR w).alloc _).tr F1).setCell _ _ (λh=>absurd h (Nat.lt_irrefl _))).setCell _ _ (λh=>absurd h (Nat.lt_irrefl _)))
  have hB2:=((((Blk.new w 26 #[Un,Un]).fr F1 (λx=>x)).setCell 0 Un).setCell 1 Un);clear t0 t1 u0 u1 ul;generalize (w1.setCell (w.heap.size,()) Un).setCell (w.heap.size,U1) Un=w2 at *;have z0:=hB2.cell 0;have z1:=hB2.cell 1;simp at z0 z1
  refine bodyPost_ret (v:= .tuple #[.agg #[Un,Un],p,er]) (by simp[results,results25,go_sem,z0,z1]) rfl ⟨rfl,F2⟩
 | good ts=>
  rw[hl] at hr HL;have TK:=hD (gJ hl);have SG:Hd (aJg ts):=aDj hl;have hfew:=aAu hl;simp only[mF,mS] at hr;obtain⟨q,hq,hRR⟩:=hr;have HRR:=hD hRR;have HQ:=hD hq;have HN:=hD (aMa (gJ hl) hq);have hfu:eY ts≤30000:=by unfold eY;omega
  have HFU:=hD hfu;clear hl hs hfu hfew hq hRR hv;generalize eY ts=n0 at *;go_enter func25,ntmps25;go_wp2_with fail
  refine HL.o.mono ?_;rintro e w1 ⟨⟨v,rfl,htk⟩,hf⟩;obtain⟨A,tc,rfl,hc1,hc2⟩:=htk.slice;obtain⟨tb,rfl,_,_,_⟩:=htk.some TK.o.pos;have F1:=hD hf;have TA:=hD htk;have hsz:=F1.o.size;simp at hsz
  have HG:=hD (show w.heap.size<w1.heap.size by omega);clear hf htk hc1 hc2 hsz;go_wp2_with fail
  have AS:=hD (show QA src tb tc ts w1.heap.size w1 w.heap.size (w1.heap.size+1) ((w1.alloc (.cells #[src,(tb,ts.length,tc),U0,U0,U0,Un] 82)).alloc (.cells #[Un,Un] 26)) ⟨0,[],0,0,0⟩ ⟨10*n0+1,0⟩ Un [] [] from by
   have hS:=aKs TA TK HS (show Most w1 w1 from ⟨by have:=HG.o;omega,V0.o.most.imp λm hm=>(hm.fr FT0 (λx=>x)).fr F1 (λx=>x)⟩);have hB:=(((Blk.new w 26 #[Un,Un]).fr F1 (λx=>x)).alloc (.cells #[src,(tb,ts.length,tc),U0,U0,U0,Un] 82)).alloc (.cells #[Un,Un] 26);have h9:=Blk.new (w1.alloc (.cells #[src,(tb,ts.length,tc),U0,U0,U0,Un] 82)) 26 #[Un,Un];rw[show (w1.alloc (.cells #[src,(tb,ts.length,tc),U0,U0,U0,Un] 82)).heap.size=w1.heap.size+1 by simp] at h9;exact⟨(hS.alloc _).zero rfl _,hB,h9,Nat.le_succ _,by have:=HG.o;omega,Own.nil _ _ _,trivial,rfl,λk hk=>by simp[blk] at hk⟩)
  clear TA;go_loopg [] n0 (λk wr=>∃(fns fns':List aD) (pvs:List Value) (s':PS) (fv:Value),Hd (fns.length+k≤n0)∧Hd (QA src tb tc ts w1.heap.size w1 w.heap.size (w1.heap.size+1) wr s' ⟨10*n0+1,0⟩ fv fns' pvs)∧Hd (bA src.data.toList ts k fns s'=some q)∧Hd (s'.e=0->fns'=fns))
  case atStart=>exact⟨[],[],[],_,_,hD (by simp),AS,HQ,hD (λ_=>rfl)⟩
  case round=>
   obtain⟨fns,fns',pvs,s',fv,HK,S,HR,HFF⟩:=hrel;clear AS HQ HL;generalize w1.heap.size+1=T9 at *;generalize w1.heap.size=g at *;have hr:=HR.o;cases gk with
   | zero=>simp[bA] at hr
   | succ k=>
     simp only[bA] at hr;by_cases h0:s'.e=0
     case neg=>
       rw[if_pos h0] at hr;simp only[Option.some.injEq] at hr;subst hr;have HR2:=hD (show r = .bad s'.place s'.e by rw[<-HRR.o,if_pos h0]);have he:((s'.e:Int)==0)=false:=bN.2 (by omega);have he2:((s'.e:Int) != 0)=true:=by rw[bne,he];rfl
       obtain⟨hg,c5,c6⟩:=S.o.q.aIp;have t0:=S.o.bt.frozen 0;have t1:=S.o.bt.frozen 1;have u0:=S.o.bt.cell 0;have u1:=S.o.bt.cell 1;have hTl:=S.o.bt.lt;have HGT:=hD (show w.heap.size≠g by have:=HG.o;omega);simp at u0 u1
       go_wp2_with fail
       have m5:((w.heap.size,()):Addr)≠(g,U3):=by intro e;injection e with e;exact HGT e
       have m6:((w.heap.size,()):Addr)≠(g,U4):=by intro e;injection e with e;exact HGT e
       have p5:((w.heap.size,U1):Addr)≠(g,U3):=by intro e;injection e with e;exact HGT e
       have p6:((w.heap.size,U1):Addr)≠(g,U4):=by intro e;injection e with e;exact HGT e
       have D5:=hD c5;have D6:=hD c6;have E5:=hD ((World.cell?_setCell_other (wr.drew.setCell (w.heap.size,()) Un) (w.heap.size,U1) (g,U3) Un p5).trans ((World.cell?_setCell_other wr.drew (w.heap.size,()) (g,U3) Un m5).trans c5));have E6:=hD ((World.cell?_setCell_other (wr.drew.setCell (w.heap.size,()) Un) (w.heap.size,U1) (g,U4) Un p6).trans ((World.cell?_setCell_other wr.drew (w.heap.size,()) (g,U4) Un m6).trans c6));clear m5 m6 p5 p6;go_region_held3 (λwx=>wx.cell? (g,3)=s'.e∧wx.cell? (g,4)=s'.place) (first|exact⟨D5,D6⟩|exact⟨E5,E6⟩) (first|fail)
       clear D5 D6 E5 E6 hg c5 c6 t0 t1 u0 u1 hTl he he2;go_wp2_with fail
       have FE:=hD (aAz F1 S.o.q.fr (Nat.le_of_lt HG));have hB2:=((S.o.bt.setCell 0 Un).setCell 1 Un);have F2:Hd (Fr nob w (((wr.setCell (w.heap.size,()) Un).setCell (w.heap.size,U1) Un).drew)):=((FE.o.setCell (w.heap.size,()) Un (λh=>absurd h (Nat.lt_irrefl _))).setCell (w.heap.size,U1) Un (λh=>absurd h (Nat.lt_irrefl _))).drew;have hB3:Blk (((wr.setCell (w.heap.size,()) Un).setCell (w.heap.size,U1) Un).drew) w.heap.size 26 #[Un,Un]:=hB2;clear hB2;generalize ((wr.setCell (w.heap.size,()) Un).setCell (w.heap.size,U1) Un).drew=we at *;have z0:=hB3.cell 0;have z1:=hB3.cell 1;simp at z0 z1
       clear hB3;refine bodyPost_ret (v:= .tuple #[.agg #[Un,Un],s'.place,s'.e]) (by simp[results,results25,go_sem,z0,z1]) rfl ⟨by rw[HR2.o];rfl,F2⟩
     case pos=>
       rw[if_neg (by omega)] at hr;have hff:=HFF.o h0;subst hff;have he:((s'.e:Int)==0)=true:=by rw[h0];rfl
       have he2:((s'.e:Int) != 0)=false:=by rw[bne,he];rfl
       obtain⟨hg,c5,c6⟩:=S.o.q.aIp;by_cases hk:bB ts 0 s'=true
       . rw[if_pos hk] at hr
         simp only[Option.some.injEq] at hr;subst hr;have HKI:=hD hk;have HRR2:=hD (show r=if 300<s'.nodes.length∨6<fns'.length∨fns'.any (λf=>decide (3<f.params.length))=true then .bad 0 4 else .good s'.nodes fns' by rw[<-HRR.o,if_neg (λh=>h h0)]);have H0:=hD h0;clear HRR HR hk h0;go_wp2_with fail
         refine stepM (S.o.q.here.kind 0 HKI) λw4 h4=>?_;have S4:=hD (S.o.to h4);clear h4 hg c5 c6;obtain⟨hg,c5,c6⟩:=S4.o.q.aIp;obtain⟨nv,lvs,cn,hon,hbel,hsame,hnew⟩:=S4.o.q.aPw H0.o;obtain⟨NA,NC,rfl,_,_⟩:=hon.cap;obtain⟨FA,FC,rfl,hf1,hf2⟩:=S4.o.own.cap;have TR:=hD (show dL w.heap.size w4 (.slice NA s'.nodes.length NC) (.slice FA fns'.length FC) lvs pvs s'.nodes fns' from
          ⟨hon,hbel,hsame,S4.o.own,S4.o.pars,S4.o.same,λk hk=>by have:=hnew k hk;have:=HG.o;omega,λk hk=>by have:=S4.o.newf k hk;have:=F1.o.size;simp at this;omega⟩)
         have u0:=S4.o.b9.cell 0;have u1:=S4.o.b9.cell 1;have t0:=S4.o.b9.frozen 0;have h9l:=S4.o.b9.lt;simp at u0 u1
         have FE:=hD (aAz F1 S4.o.q.fr (Nat.le_of_lt HG));have hfL:(fns'.length:Int)≤9223372036854775807:=by have:=Nat.le_trans hf1 hf2;unfold maxLen at this;omega
         have hnL:(s'.nodes.length:Int)≤1000000:=by have:=HN.o;have e:(fns',s').2.nodes.length=s'.nodes.length:=rfl;omega
         have FB:Hd (Blk (w4.setCell (T9,()) (.slice NA s'.nodes.length NC)) T9 26 #[.slice NA s'.nodes.length NC,.slice FA fns'.length FC]):=S4.o.b9.setCell 0 _;have TB:Hd (Blk (w4.setCell (T9,()) (.slice NA s'.nodes.length NC)) w.heap.size 26 #[Un,Un]):=S4.o.bt.far (p:=(T9,())) S4.o.ne _;have TR2:=hD (TR.o.far (M:=dG T9) ((Fr.refl _ w4).setCell (T9,()) (.slice NA s'.nodes.length NC) (λ_=>rfl)) (λk hk=>by rw[show k=T9 from hk];exact⟨_,S4.o.b9⟩));have FE2:Hd (Fr nob w (w4.setCell (T9,()) (.slice NA s'.nodes.length NC))):=FE.o.setCell (T9,()) _ (λh=>by have h':T9<w.heap.size:=h;have:=S4.o.h9;have h3:=F1.o.size;simp at h3;omega);have HMY:=hD (aLf TR2.o.fns TR2.o.pars TR2.o.samef);obtain⟨b,hb⟩:∃b,fns'.any wT=b:=⟨_,rfl⟩;rw[hb] at HMY;have l3:(300:Int)<(s'.nodes.length:Int)∨(s'.nodes.length:Int)≤300:=by omega
         have l6:(6:Int)<(fns'.length:Int)∨(fns'.length:Int)≤6:=by omega
         have HRB:=hD (show r=if 300<s'.nodes.length∨6<fns'.length∨b=true then .bad 0 4 else .good s'.nodes fns' from by rw[HRR2.o,<-hb];rfl);clear hon hbel hsame hnew hf1 hf2 TR HRR2 hb FE;generalize s'.nodes.length=nl at *;generalize fns'.length=fl at *;go_wp2_with fail
         refine HMY.o.mono ?_;rintro e w5 ⟨rfl,hf5⟩;have FB5:=hD (FB.o.fr hf5 (λx=>x));have TB5:=hD (TB.o.fr hf5 (λx=>x));have TR5:=hD (TR2.o.far hf5 (λk hk=>hk.elim));have FE5:=hD (FE2.o.tr hf5);clear hf5 t0 u0 u1 hg c5 c6 cn h9l he he2 TR2 FB TB FE2;have a0:=FB5.o.cell 0;have a1:=FB5.o.cell 1;have t0:=TB5.o.frozen 0;have t1:=TB5.o.frozen 1;have u0:=TB5.o.cell 0;have u1:=TB5.o.cell 1;have hTl:=TB5.o.lt;simp at a0 a1 u0 u1
         cases b with
         | true=>
          have HR2:=hD (show r = .bad 0 4 by rw[HRB.o,if_pos (.inr (.inr rfl))]);go_wp2_with fail
          clear t0 t1 u0 u1 hTl a0 a1;have hB2:=((TB5.o.setCell 0 Un).setCell 1 Un);have F2:Hd (Fr nob w (((w5.setCell (w.heap.size,()) Un).setCell (w.heap.size,U1) Un))):=((FE5.o.setCell (w.heap.size,()) Un (λh=>absurd h (Nat.lt_irrefl _))).setCell (w.heap.size,U1) Un (λh=>absurd h (Nat.lt_irrefl _)));have hB3:Blk (((w5.setCell (w.heap.size,()) Un).setCell (w.heap.size,U1) Un)) w.heap.size 26 #[Un,Un]:=hB2;clear hB2;generalize ((w5.setCell (w.heap.size,()) Un).setCell (w.heap.size,U1) Un)=we at *;have z0:=hB3.cell 0;have z1:=hB3.cell 1;simp at z0 z1
          clear hB3;refine bodyPost_ret (v:= .tuple #[.agg #[Un,Un],U0,U4]) (by simp[results,results25,go_sem,z0,z1]) rfl ⟨by rw[HR2.o];rfl,F2⟩
         | false=>
          rcases l3 with l3|l3
          . clear l6
            have HR2:=hD (show r = .bad 0 4 by rw[HRB.o,if_pos (.inl (by omega))]);go_wp2_with fail
            clear t0 t1 u0 u1 hTl a0 a1;have hB2:=((TB5.o.setCell 0 Un).setCell 1 Un);have F2:Hd (Fr nob w (((w5.setCell (w.heap.size,()) Un).setCell (w.heap.size,U1) Un))):=((FE5.o.setCell (w.heap.size,()) Un (λh=>absurd h (Nat.lt_irrefl _))).setCell (w.heap.size,U1) Un (λh=>absurd h (Nat.lt_irrefl _)));have hB3:Blk (((w5.setCell (w.heap.size,()) Un).setCell (w.heap.size,U1) Un)) w.heap.size 26 #[Un,Un]:=hB2;clear hB2;generalize ((w5.setCell (w.heap.size,()) Un).setCell (w.heap.size,U1) Un)=we at *;have z0:=hB3.cell 0;have z1:=hB3.cell 1;simp at z0 z1
            clear hB3;refine bodyPost_ret (v:= .tuple #[.agg #[Un,Un],U0,U4]) (by simp[results,results25,go_sem,z0,z1]) rfl ⟨by rw[HR2.o];rfl,F2⟩
          . rcases l6 with l6|l6
            . skip
              have HR2:=hD (show r = .bad 0 4 by rw[HRB.o,if_pos (.inr (.inl (by omega)))]);go_wp2_with fail
              clear t0 t1 u0 u1 hTl a0 a1;have hB2:=((TB5.o.setCell 0 Un).setCell 1 Un);have F2:Hd (Fr nob w (((w5.setCell (w.heap.size,()) Un).setCell (w.heap.size,U1) Un))):=((FE5.o.setCell (w.heap.size,()) Un (λh=>absurd h (Nat.lt_irrefl _))).setCell (w.heap.size,U1) Un (λh=>absurd h (Nat.lt_irrefl _)));have hB3:Blk (((w5.setCell (w.heap.size,()) Un).setCell (w.heap.size,U1) Un)) w.heap.size 26 #[Un,Un]:=hB2;clear hB2;generalize ((w5.setCell (w.heap.size,()) Un).setCell (w.heap.size,U1) Un)=we at *;have z0:=hB3.cell 0;have z1:=hB3.cell 1;simp at z0 z1
              clear hB3;refine bodyPost_ret (v:= .tuple #[.agg #[Un,Un],U0,U4]) (by simp[results,results25,go_sem,z0,z1]) rfl ⟨by rw[HR2.o];rfl,F2⟩
            . skip
              have HR2:=hD (show r = .good s'.nodes fns' by rw[HRB.o,if_neg (λh=>h.elim (λh=>by omega) (λh=>h.elim (λh=>by omega) (λh=>by cases h)))]);go_wp2_with fail
              clear t0 t1 u0 u1 hTl a0 a1;have hB2:=((TB5.o.setCell 0 (.slice NA nl NC)).setCell 1 (.slice FA fl FC));have F2:Hd (Fr nob w ((w5.setCell (w.heap.size,()) (.slice NA nl NC)).setCell (w.heap.size,U1) (.slice FA fl FC))):=((FE5.o.setCell (w.heap.size,()) _ (λh=>absurd h (Nat.lt_irrefl _))).setCell (w.heap.size,U1) _ (λh=>absurd h (Nat.lt_irrefl _)));have hone:Fr (dG w.heap.size) w5 ((w5.setCell (w.heap.size,()) (.slice NA nl NC)).setCell (w.heap.size,U1) (.slice FA fl FC)):=by
               have h1:Fr (dG w.heap.size) w5 (w5.setCell (w.heap.size,()) (.slice NA nl NC)):=(Fr.refl _ _).setCell _ _ (λ_=>rfl);exact h1.setCell (w.heap.size,U1) _ (λ_=>rfl)
              have TR3:=hD (TR5.o.far hone (λk hk=>by rw[show k=w.heap.size from hk];exact⟨_,TB5⟩));have hB3:Blk ((w5.setCell (w.heap.size,()) (.slice NA nl NC)).setCell (w.heap.size,U1) (.slice FA fl FC)) w.heap.size 26 #[.slice NA nl NC,.slice FA fl FC]:=hB2;clear hB2 hone;generalize (w5.setCell (w.heap.size,()) (.slice NA nl NC)).setCell (w.heap.size,U1) (.slice FA fl FC)=we at *;have z0:=hB3.cell 0;have z1:=hB3.cell 1;simp at z0 z1
              clear hB3;refine bodyPost_ret (v:= .tuple #[.agg #[.slice NA nl NC,.slice FA fl FC],U0,U0]) (by simp[results,results25,go_sem,z0,z1]) rfl ⟨by rw[HR2.o];exact⟨_,_,lvs,pvs,rfl,TR3⟩,F2⟩
       . rw[if_neg hk] at hr
         simp only[bS] at hr;obtain⟨fs,hfs,hr⟩:=hr;have hle:=aW (kQ _ _ _ _ hr);have HN2:=hD (show fs.2.nodes.length+20*k+40≤1000000 by have:=HN.o;have:=HFU.o;have:=HK.o;omega);have HKI:=hD (show bB ts 0 s'=false by simpa using hk);have HFS:=hD hfs;have HR2:=hD hr;have HB2:=hD (show fns'.length≤40000 by have:=HK.o;have:=HFU.o;omega);have H0:=hD h0;clear hr hk h0 hfs HR hle;go_wp2_with fail
         refine stepM (S.o.q.here.kind 0 HKI) λw4 h4=>?_;have S4:=hD (S.o.to h4);clear h4 hg c5 c6 S he he2;have HFN:=aGj SG (S4.o.q.here.no (fR w4).drew) H0 HFS HN2.o;have HFN:=hD HFN;obtain⟨FA,FC,rfl,hf1,hf2⟩:=S4.o.own.cap;obtain⟨m,hm⟩:∃m,fns'.length=m:=⟨_,rfl⟩;rw[hm] at S4 HB2;have HMM:=hD hm;have CK:=hD (show ∀wx:World,∀v:Value,Blk wx T9 26 #[Un,v]->wx.cell? (T9,1)=some v from λwx v h1=>by rw[h1.cell 1];rfl);have k0:=CK.o _ _ S4.o.b9;have HK2:=hD (show 10*k+1≤10*n0+1 by have:=HK.o;omega);clear hf1 hf2 hm;go_wp2_with fail
         go_region_law (first
          | (go_simp;go_at_call 51;go_loud (refine HFN.o.mono ?_);go_loud (rintro e w5 ⟨pv,x,rfl,hx,h5,hpo,hpn⟩);go_loud (obtain⟨PA,PC,rfl,_,_⟩:=hpo.cap);go_loud (have HX5:=hD hx);go_loud (have HPO:=hD hpo);go_loud (have S5:=hD (S4.o.to (h5.more HK2)));go_loud (have K5:=hD (CK _ _ S5.o.b9));go_loud (have K6:=hD (CK _ _ (S5.o.b9.alloc (.cells #[bs fs.1.name,fs.1.line,.slice PA fs.1.params.length PC,fs.1.ret,x] 48))));have k2:=K5.o;have k3:=K6.o;clear hx h5 hpo hpn)
          | (refine step_append (v:= .slice FA m FC) (n:=m) (m:=1) (xs:=dK fns' pvs) (news:=[bs fs.1.name,fs.1.line,.slice PA fs.1.params.length PC,fs.1.ret,x]) (by rfl) _ _ (by rfl) aSl (by rfl) (by rfl) (by have h9:=S5.o.own;rw[HMM.o] at h9;exact h9.alloc _) (Rd.gG (n:=1) (cs:=[bs fs.1.name,fs.1.line,.slice PA fs.1.params.length PC,fs.1.ret,x]) (Blk.new _ _ _) rfl (by decide)) (by simp[Value.oneCell']) (by have h9:=HB2.o;omega) (by have h9:=HB2.o;unfold maxLen;omega) ?_;intro A6 c6 w6 ho6 hf6 hv6;go_loud (have S6:=hD (S5.o.app (f:=⟨fs.1.name,fs.1.line,fs.1.params,fs.1.ret,x⟩) HPO (by rw[HMM.o];exact ho6) hf6 hv6));go_loud (have D6:=hD ((S5.o.b9.alloc (.cells #[bs fs.1.name,fs.1.line,.slice PA fs.1.params.length PC,fs.1.ret,x] 48)).fr hf6 (λhm=>(S5.o.own.alloc (.cells #[bs fs.1.name,fs.1.line,.slice PA fs.1.params.length PC,fs.1.ret,x] 48)).aG (S5.o.b9.alloc (.cells #[bs fs.1.name,fs.1.line,.slice PA fs.1.params.length PC,fs.1.ret,x] 48)) (by decide) hm)));have z0:=CK.o _ _ D6.o;have z1:=D6.o.frozen 1;have z2:=D6.o.lt;clear ho6 hf6 hv6))
         all_goals
          go_wp2
          go_roundg k
          case measure=>omega
          case rel=>exact⟨fns'++[fs.1],_,_,fs.2,_,hD (by have:=HK.o;rw[List.length_append];simp;omega),S6,HR2,hD (λe=>by rw[HX5.o e])⟩
theorem aAc.no {w':World} (h:aAc w) (f:Fr nob w w'):aAc w':=⟨h.lex.fr f,h.most.imp λm hm=>hm.fr f (λx=>x)⟩
open Pw
def jB (w:World) (en:Ending):fD->Prop
 | .bad p e=>en = .returned (.tuple #[zD,.int .i64 (p:Nat),.int .i64 (e:Nat)])∧e≠0
 | .good p=>∃nv fv tv sv uv zv lvs pvs,en = .returned (.tuple #[.agg #[nv,fv,tv,sv,uv,zv],.int .i64 0,.int .i64 0])∧iV w nv fv tv sv uv zv lvs pvs p
theorem jB.no {w':World}{en:Ending}{r:fD} (h:jB w en r) (f:Fr nob w w'):jB w' en r:=by
 cases r with
 | bad p e=>exact h
 | good p=>
  obtain⟨nv,fv,tv,sv,uv,zv,lvs,pvs,he,hp⟩:=h;exact⟨nv,fv,tv,sv,uv,zv,lvs,pvs,he,hp.no f⟩
theorem Blk.sixth {T:Nat}{a b c d e f:Value} (h:Blk w T t #[a,b,c,d,e,f]):
  w.cell? (T,0)=some a∧w.cell? (T,1)=some b∧w.cell? (T,2)=some c∧w.cell? (T,3)=some d∧w.cell? (T,4)=some e∧w.cell? (T,5)=some f ∧
  w.frozen? (T,())=false∧w.frozen? (T,U1)=false∧w.frozen? (T,U2)=false∧w.frozen? (T,U3)=false∧w.frozen? (T,U4)=false∧w.frozen? (T,U5)=false:=
 ⟨(h.cell 0).trans rfl,(h.cell 1).trans rfl,(h.cell 2).trans rfl,(h.cell 3).trans rfl,(h.cell 4).trans rfl,(h.cell 5).trans rfl,h.frozen 0,h.frozen 1,h.frozen 2,h.frozen 3,h.frozen 4,h.frozen 5⟩
theorem Blk.sQ {T:Nat}{a b c d e f a' b' c' d' e' f':Value} (h:Blk w T t #[a,b,c,d,e,f]):
   Blk ((((((w.setCell (T,()) a').setCell (T,U1) b').setCell (T,U2) c').setCell (T,U3) d').setCell (T,U4) e').setCell (T,U5) f') T t #[a',b',c',d',e',f']:=
 (((((h.setCell 0 a').setCell 1 b').setCell 2 c').setCell 3 d').setCell 4 e').setCell 5 f'
def aNn:Prop:=∀(src:ByteArray) (w:World) (hs:src.size≤281474976710656){r:fD} (hr:dJ src.data.toList=some r),
 Calls prog 14 #[src] w λen w'=>jB w' en r∧Fr nob w w'
theorem yM (src:ByteArray) (w:World) (hv:aAc w) (hs:src.size≤281474976710656){r:fD} (hr:dJ src.data.toList=some r):
  Calls prog 28 #[src] w λen w'=>jB w' en r∧Fr nob w w':=by
 unfold dJ at hr;rw[mS] at hr;obtain⟨r0,hr0,hr⟩:=hr;have HP:=hD (λw' (f:Fr nob w w')=>aKv src w' hs (hv.no f) hr0);have B0:=hD (Blk.new w 29 #[Un,Un,Un,Un,Un,Un]);have F0:Hd (Fr nob w (w.alloc (.cells #[Un,Un,Un,Un,Un,Un] 29))):=(Fr.refl _ w).alloc _;clear hs hv;cases r0 with
 | bad p er=>
  have he:er≠0:=by have:=tK hr0;omega
  have hr:fD.bad p er=r:=hr;subst hr;have heb:((er:Int)==0)=false:=bN.2 (by omega);have hne:((er:Int) != 0)=true:=by rw[bne,heb];rfl
  have HE:=hD he;clear hr0 he;go_enter func28,ntmps28;go_wp2_with fail
  generalize w.alloc (.cells #[Un,Un,Un,Un,Un,Un] 29)=w1 at *;generalize hT:w.heap.size=T at *;have HT:=hD hT;clear hT;refine (HP w1 F0).mono ?_;rintro en w2 ⟨hpa,hf⟩;have hpa:en = .returned (.tuple #[.agg #[Un,Un],p,er]):=hpa;subst hpa;have B2:=hD (B0.o.fr hf (λx=>x));have F2:=hD (F0.o.tr hf);clear hf;have B3:=hD ((B2.o.alloc (.cells #[Un,Un] 26)));have F3:=hD (F2.o.alloc (.cells #[Un,Un] 26));obtain⟨r0,r1,r2,r3,r4,r5,f0,f1,f2,f3,f4,f5⟩:=B3.o.sixth;have tn:¬T=w2.heap.size:=by have:=B2.o.lt;omega
  have B4:=hD (B3.o.sQ (a':= Un) (b':= Un) (c':= Un) (d':= Un) (e':= Un) (f':= Un));have F4:=hD (sP (Nat.le_of_eq HT) F3 Un Un Un Un Un Un);go_wp2_with fail
  all_goals
   clear r0 r1 r2 r3 r4 r5 f0 f1 f2 f3 f4 f5;generalize ((((((w2.alloc (.cells #[Un,Un] 26)).setCell (T,()) Un).setCell (T,U1) Un).setCell (T,U2) Un).setCell (T,U3) Un).setCell (T,U4) Un).setCell (T,U5) Un=wz at *
  obtain⟨z0,z1,z2,z3,z4,z5,_⟩:=B4.o.sixth;go_wp2
  refine bodyPost_ret (v:= .tuple #[.agg #[Un,Un,Un,Un,Un,Un],p,er]) (by simp[results,results28,go_sem,z0,z1,z2,z3,z4,z5]) rfl ⟨⟨rfl,HE⟩,by first|exact F4.o|exact F4.o.drew⟩
 | good ns fs=>
  have TI:=uX hr0;have HR:=hD hr;have HC:=hD (λ(w':World) (NA FA:Option Addr) (NC FC:Nat) (lvs pvs:List Value) (ht:dL 0 w' (.slice NA ns.length NC) (.slice FA fs.length FC) lvs pvs ns fs)=>aDe ht TI.ok TI.rows);have HLT:=hD (λe p (h:dV ns fs = .bad e p)=>aBe TI.ok h);have hn3:(ns.length:Int)≤300:=by have:=TI.ok.few;omega
  clear hr0 hr TI;go_enter func28,ntmps28;go_wp2_with fail
  generalize w.alloc (.cells #[Un,Un,Un,Un,Un,Un] 29)=w1 at *;generalize hT:w.heap.size=T at *;have HT:=hD hT;clear hT;refine (HP w1 F0).mono ?_;rintro en w2 ⟨⟨nv,fv,lvs,pvs,rfl,ht⟩,hf⟩;obtain⟨NA,NC,rfl,-,-⟩:=ht.nodes.cap;obtain⟨FA,FC,rfl,-,-⟩:=ht.fns.cap;have TT:=hD (ht.zero.no ((fR w2).alloc (.cells #[.slice NA ns.length NC,.slice FA fs.length FC] 26)));have B2:=hD ((B0.o.fr hf (λx=>x)).alloc (.cells #[.slice NA ns.length NC,.slice FA fs.length FC] 26));have F2:=hD ((F0.o.tr hf).alloc (.cells #[.slice NA ns.length NC,.slice FA fs.length FC] 26));have X2:=hD (Blk.new w2 26 #[.slice NA ns.length NC,.slice FA fs.length FC]);have tn:Hd (T<w2.heap.size):=(B0.o.fr hf (λx=>x)).lt;clear hf ht;go_wp2_with fail
  generalize w2.alloc (.cells #[.slice NA ns.length NC,.slice FA fs.length FC] 26)=w3 at *;generalize w2.heap.size=X at *;refine (HC w3 NA FA NC FC lvs pvs TT).mono ?_;rintro en w4 ⟨hck,hf⟩;have B4:=hD (B2.o.fr hf (λx=>x));have X4:=hD (X2.o.fr hf (λx=>x));have F4:=hD (F2.o.tr hf);have T4:=hD (TT.o.no hf);clear hf B2 X2 F2 TT;cases hc:dV ns fs with
  | bad e x=>
   rw[hc] at hck;obtain⟨he,he0,he9⟩:=hck;have he:en = .returned (.tuple #[.agg #[Un,Un,Un,Un,Un,Un],x,e]):=he;subst he;have B5:=hD (B4.o.alloc (.cells #[Un,Un,Un,Un,Un,Un] 29));have X5:=hD (X4.o.alloc (.cells #[Un,Un,Un,Un,Un,Un] 29));have F5:=hD (F4.o.alloc (.cells #[Un,Un,Un,Un,Un,Un] 29));have T5:=hD (T4.o.no ((fR w4).alloc (.cells #[Un,Un,Un,Un,Un,Un] 29)));have heb:((e:Int)==0)=false:=bN.2 (by omega);have hne:((e:Int) != 0)=true:=by rw[bne,heb];rfl
   have n1:¬T=w4.heap.size:=by have:=B4.o.lt;omega
   have n2:¬X=w4.heap.size:=by have:=X4.o.lt;omega
   have n3:¬T=X:=by have:=tn.o;omega
   have HE:=hD he0;obtain⟨r0,r1,r2,r3,r4,r5,f0,f1,f2,f3,f4,f5⟩:=B5.o.sixth;have B6:=hD (B5.o.sQ (a':= Un) (b':= Un) (c':= Un) (d':= Un) (e':= Un) (f':= Un));have F6:=hD (sP (Nat.le_of_eq HT) F5 Un Un Un Un Un Un);by_cases h44:e=44
   . subst h44
     have HS:=hD (show fD.bad 0 44=r from by have:=HR.o;simp only[hc] at this;exact this);clear hc he0 he9 heb hne;go_wp2_with fail
     all_goals
      clear r0 r1 r2 r3 r4 r5 f0 f1 f2 f3 f4 f5;generalize ((((((w4.alloc (.cells #[Un,Un,Un,Un,Un,Un] 29)).setCell (T,()) Un).setCell (T,U1) Un).setCell (T,U2) Un).setCell (T,U3) Un).setCell (T,U4) Un).setCell (T,U5) Un=wz at *
     obtain⟨z0,z1,z2,z3,z4,z5,_⟩:=B6.o.sixth;go_wp2
     refine bodyPost_ret (v:= .tuple #[.agg #[Un,Un,Un,Un,Un,Un],U0,(44:Int)]) (by simp[results,results28,go_sem,z0,z1,z2,z3,z4,z5]) rfl ⟨by rw[<-HS.o];exact⟨rfl,by decide⟩,by first|exact F6.o|exact F6.o.drew⟩
   . have hx:=HLT.o e x hc h44
     obtain⟨nd,hnd⟩:∃nd,ns[x]?=some nd:=⟨_,gE hx⟩;have HS:=hD (show fD.bad nd.line e=r from by have:=HR.o;simp only[hc,if_neg h44,hnd] at this;exact this);have hx2:(x:Int)<(ns.length:Int):=by omega
     have h4b:((e:Int)==44)=false:=bN.2 (by omega);obtain⟨nb,nc,lv,e',-,-,-,y1,-⟩:=T5.o.node hnd;injection e' with e1 e2 e3;subst e1;have n4:¬nb=T:=λe=>by
      have h1:=T5.o.nodes.aG B5 (by decide);rw[aZ (by omega) T5.o.nodes.oU.1,e] at h1;exact h1 rfl
     have x0:=(X5.o.cell 0).trans rfl;clear hc he0 he9 hnd hx h44 e2 e3;go_wp2_with fail
     go_region_law (fail)
     all_goals
      clear r0 r1 r2 r3 r4 r5 f0 f1 f2 f3 f4 f5;generalize ((((((w4.alloc (.cells #[Un,Un,Un,Un,Un,Un] 29)).setCell (T,()) Un).setCell (T,U1) Un).setCell (T,U2) Un).setCell (T,U3) Un).setCell (T,U4) Un).setCell (T,U5) Un=wz at *;obtain⟨z0,z1,z2,z3,z4,z5,_⟩:=B6.o.sixth;go_wp2
      refine bodyPost_ret (v:= .tuple #[.agg #[Un,Un,Un,Un,Un,Un],nd.line,e]) (by simp[results,results28,go_sem,z0,z1,z2,z3,z4,z5]) rfl ⟨by rw[<-HS.o];exact⟨rfl,HE⟩,by first|exact F6.o|exact F6.o.drew⟩
  | good p=>
   rw[hc] at hck;obtain⟨tv,sv,uv,zv,rfl,hp⟩:=hck;have HS:=hD (show fD.good p=r from by have:=HR.o;simp only[hc] at this;exact this);obtain⟨TA,TC,rfl,-,-⟩:=hp.types.cap;obtain⟨SA,SC,rfl,-,-⟩:=hp.slots.cap;obtain⟨UA,UC,rfl,-,-⟩:=hp.fn.cap;obtain⟨ZA,ZC,rfl,-,-⟩:=hp.sizes.cap;generalize hl1:p.types.length=l1 at *;generalize hl2:p.slots.length=l2 at *;generalize hl3:p.fn.length=l3 at *;generalize hl4:p.sizes.length=l4 at *;have B5:=hD (B4.o.alloc (.cells #[.slice NA ns.length NC,.slice FA fs.length FC,.slice TA l1 TC,.slice SA l2 SC,.slice UA l3 UC,.slice ZA l4 ZC] 29));have F5:=hD (F4.o.alloc (.cells #[.slice NA ns.length NC,.slice FA fs.length FC,.slice TA l1 TC,.slice SA l2 SC,.slice UA l3 UC,.slice ZA l4 ZC] 29));have P5:=hD (hp.no ((fR w4).alloc (.cells #[.slice NA ns.length NC,.slice FA fs.length FC,.slice TA l1 TC,.slice SA l2 SC,.slice UA l3 UC,.slice ZA l4 ZC] 29)));have n1:¬T=w4.heap.size:=by have:=B4.o.lt;omega
   obtain⟨r0,r1,r2,r3,r4,r5,f0,f1,f2,f3,f4,f5⟩:=B5.o.sixth;have B6:=hD (B5.o.sQ (a':= .slice NA ns.length NC) (b':= .slice FA fs.length FC) (c':= .slice TA l1 TC) (d':= .slice SA l2 SC) (e':= .slice UA l3 UC) (f':= .slice ZA l4 ZC));have F6:=hD (sP (Nat.le_of_eq HT) F5 (.slice NA ns.length NC) (.slice FA fs.length FC) (.slice TA l1 TC) (.slice SA l2 SC) (.slice UA l3 UC) (.slice ZA l4 ZC));have P6:=hD (P5.o.aRh B5 (Fr.six (w4.alloc (.cells #[.slice NA ns.length NC,.slice FA fs.length FC,.slice TA l1 TC,.slice SA l2 SC,.slice UA l3 UC,.slice ZA l4 ZC] 29)) T (.slice NA ns.length NC) (.slice FA fs.length FC) (.slice TA l1 TC) (.slice SA l2 SC) (.slice UA l3 UC) (.slice ZA l4 ZC)));clear hc hp hl1 hl2 hl3 hl4;go_wp2_with fail
   all_goals
     clear r0 r1 r2 r3 r4 r5 f0 f1 f2 f3 f4 f5;generalize ((((((w4.alloc (.cells #[.slice NA ns.length NC,.slice FA fs.length FC,.slice TA l1 TC,.slice SA l2 SC,.slice UA l3 UC,.slice ZA l4 ZC] 29)).setCell (T,()) (.slice NA ns.length NC)).setCell (T,U1) (.slice FA fs.length FC)).setCell (T,U2) (.slice TA l1 TC)).setCell (T,U3) (.slice SA l2 SC)).setCell (T,U4) (.slice UA l3 UC)).setCell (T,U5) (.slice ZA l4 ZC)=wz at *
   obtain⟨z0,z1,z2,z3,z4,z5,_⟩:=B6.o.sixth;go_wp2
   refine bodyPost_ret (v:= .tuple #[.agg #[.slice NA ns.length NC,.slice FA fs.length FC,.slice TA l1 TC,.slice SA l2 SC,.slice UA l3 UC,.slice ZA l4 ZC],U0,U0]) (by simp[results,results28,go_sem,z0,z1,z2,z3,z4,z5]) rfl ⟨by rw[<-HS.o];exact⟨_,_,_,_,_,_,_,_,rfl,by first|exact P6.o|exact P6.o.no ((fR _).drew)⟩,by first|exact F6.o|exact F6.o.drew⟩
structure aRl where
 op:Nat
 a:Int
 b:Nat
 s:List UInt8
 deriving DecidableEq
section
variable (p:gB)
section
variable (ex:Nat->Nat->List aRl)
end
section
variable (ex:Nat->Nat->List aRl) (bl:Nat->Nat->List aRl)
end
end
section
variable {ns:List aH}{fs:List aD}{k a b c:Nat}{s s0 s1 s2 s':CkS}
end
section
variable {ns:List aH}{fs:List aD}{k a b c:Nat}{s s0 s1 s2 s':CkS}{ex:Nat->CkS->CkR (Nat×CkS)}
theorem getD_some {l:List Nat}{i:Nat} (h:l[i]?=some t):l.getD i 0=t:=by rw[List.getD_eq_getElem?_getD,h];rfl
end
section
variable {ns:List aH}{fs:List aD}{k a b c:Nat}{s s0 s1 s2 s':CkS}{ex:Nat->CkS->CkR (Nat×CkS)}
end
section
variable {ns:List aH}{fs:List aD}{k a b c:Nat}{s s0 s1 s2 s':CkS}{ex:Nat->CkS->CkR (Nat×CkS)}{bl:Nat->CkS->CkR CkS}
end
section
variable {ns:List aH}{fs:List aD}{k a b c:Nat}{s s0 s1 s2 s':CkS}{ex:Nat->CkS->CkR (Nat×CkS)}{bl:Nat->CkS->CkR CkS}
end
def gB.st (p:gB):CkS:=⟨p.types,p.slots,p.fn,[],0⟩
section
variable {w0 w w1 w':World}{v u:Value}{n m:Nat}{l k:List aRl}
end
structure PgV where
 nb:Nat
 nc:Nat
 fb:Nat
 fc:Nat
 tb:Nat
 tc:Nat
 sb:Nat
 sc:Nat
 ua:Option Addr
 un:Nat
 uc:Nat
 za:Option Addr
 zn:Nat
 zc:Nat
 lvs:List Value
 pvs:List Value
 p:gB
def PgV.val (g:PgV):Value:= .agg #[(g.nb,g.p.ns.length,g.nc),(g.fb,g.p.fs.length,g.fc),(g.tb,g.p.ns.length,g.tc),(g.sb,g.p.ns.length,g.sc),.slice g.ua g.un g.uc,.slice g.za g.zn g.zc]
section
variable {g:PgV}{w w':World}
end
section
variable {g:PgV}{w w':World}{B k line n:Nat}{nm:List UInt8}{kv:Value}{l:List Nat}
end
section
variable {p:gB}{a b:Nat}
end
end Go.Proofs.YtlbjicjinnnboaaGreatDoor
