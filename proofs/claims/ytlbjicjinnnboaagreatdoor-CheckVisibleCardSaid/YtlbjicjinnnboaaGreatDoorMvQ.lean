/- MvQ: laws and walks for CheckVisible. -/
import Derived.Test.YtlbjicjinnnboaaGreatDoorMvP
import Derived.Test.YtlbjicjinnnboaaGreatDoorMvG
import Derived.Test.YtlbjicjinnnboaaGreatDoorMvH
import Derived.Test.YtlbjicjinnnboaaGreatDoorMvL
set_option maxHeartbeats 8000000
set_option maxRecDepth 100000
set_option linter.unusedVariables false
set_option linter.unusedSimpArgs false
namespace Go.Proofs.YtlbjicjinnnboaaGreatDoor
open Go.RowKit Go.Proofs.Tryz
variable {x a b t u i a' b':Nat}{nd:aF}{s s':CkS}{ns:List aF}{w:World}{fs:List aG}{r:Nat×CkS}
theorem aMd (src:ByteArray) (w:World) (hs:src.size<=281474976710656) (hv:aBk w){r:zG} (hr:parseM src.data.toList=some r):
  Calls prog 25 #[src] w λe w'=>aKu w.heap.size w' e r∧Fr nob w w':=by
 have FT0:Hd (Fr nob w (w.alloc (.cells #[Un,Un] 26))):=(fR w).alloc _;have V0:=hD hv;have HL:=hD (Lx.aQf src (w.alloc (.cells #[Un,Un] 26)) hs (hv.lex.fr FT0));have HS:=hD hs;unfold parseM at hr;cases hl:wM src.data.toList with
 | bad p er=>
  rw[hl] at hr HL;simp only[aA0] at hr;subst hr;have hne:((er:Int)==0)=false:=by
   have:=wL hl;exact bN.2 (by omega)
  clear hl hs hv;go_enter func25,ntmps25;go_wp2_with fail
  refine HL.o.mono ?_;rintro e w1 ⟨rfl,hf⟩;have F1:=hD hf;have hB:=(Blk.new w 26 #[Un,Un]).fr hf (λx=>x);have t0:=hB.frozen 0;have t1:=hB.frozen 1;have u0:=hB.cell 0;have u1:=hB.cell 1;have ul:=hB.lt;simp at u0 u1
  clear hf hB;go_wp2_with fail
  have F2:=hD (show Fr nob w ((w1.setCell (w.heap.size,()) Un).setCell (w.heap.size,U1) Un) from
   ((((fR w).alloc _).tr F1).setCell _ _ (λh=>absurd h (Nat.lt_irrefl _))).setCell _ _ (λh=>absurd h (Nat.lt_irrefl _)))
  have hB2:=((((Blk.new w 26 #[Un,Un]).fr F1 (λx=>x)).setCell 0 Un).setCell 1 Un);clear t0 t1 u0 u1 ul;generalize (w1.setCell (w.heap.size,()) Un).setCell (w.heap.size,U1) Un=w2 at *;have z0:=hB2.cell 0;have z1:=hB2.cell 1;simp at z0 z1
  refine bodyPost_ret (v:= .tuple #[.agg #[Un,Un],p,er]) (by simp[results,results25,go_sem,z0,z1]) rfl ⟨rfl,F2⟩
 | good ts=>
  rw[hl] at hr HL;have TK:=hD (lJ hl);have SG:Hd (aKs ts):=aEu hl;have hfew:=aCe hl;simp only[qA,mS] at hr;obtain⟨q,hq,hRR⟩:=hr;have HRR:=hD hRR;have HQ:=hD hq;have HN:=hD (aNf (lJ hl) hq);have hfu:gP ts<=30000:=by unfold gP;omega
  have HFU:=hD hfu;clear hl hs hfu hfew hq hRR hv;generalize gP ts=n0 at *;go_enter func25,ntmps25;go_wp2_with fail
  refine HL.o.mono ?_;rintro e w1 ⟨⟨v,rfl,htk⟩,hf⟩;obtain⟨A,tc,rfl,hc1,hc2⟩:=htk.slice;obtain⟨tb,rfl,_,_,_⟩:=htk.some TK.o.pos;have F1:=hD hf;have TA:=hD htk;have hsz:=F1.o.size;simp at hsz
  have HG:=hD (show w.heap.size<w1.heap.size by omega);clear hf htk hc1 hc2 hsz;go_wp2_with fail
  have AS:=hD (show QA src tb tc ts w1.heap.size w1 w.heap.size (w1.heap.size+1) ((w1.alloc (.cells #[src,(tb,ts.length,tc),U0,U0,U0,Un] 82)).alloc (.cells #[Un,Un] 26)) ⟨0,[],0,0,0⟩ ⟨10*n0+1,0⟩ Un [] [] from by
   have hS:=aMa TA TK HS (show Most w1 w1 from ⟨by have:=HG.o;omega,V0.o.most.imp λm hm=>(hm.fr FT0 (λx=>x)).fr F1 (λx=>x)⟩);have hB:=(((Blk.new w 26 #[Un,Un]).fr F1 (λx=>x)).alloc (.cells #[src,(tb,ts.length,tc),U0,U0,U0,Un] 82)).alloc (.cells #[Un,Un] 26);have h9:=Blk.new (w1.alloc (.cells #[src,(tb,ts.length,tc),U0,U0,U0,Un] 82)) 26 #[Un,Un];rw[show (w1.alloc (.cells #[src,(tb,ts.length,tc),U0,U0,U0,Un] 82)).heap.size=w1.heap.size+1 by simp] at h9;exact⟨(hS.alloc _).zero rfl _,hB,h9,Nat.le_succ _,by have:=HG.o;omega,Own.nil _ _ _,trivial,rfl,λk hk=>by simp[blk] at hk⟩)
  clear TA;go_loopg [] n0 (λk wr=>∃(fns fns':List aG) (pvs:List Value) (s':PS) (fv:Value),Hd (fns.length+k<=n0)∧Hd (QA src tb tc ts w1.heap.size w1 w.heap.size (w1.heap.size+1) wr s' ⟨10*n0+1,0⟩ fv fns' pvs)∧Hd (dR src.data.toList ts k fns s'=some q)∧Hd (s'.e=0->fns'=fns))
  case atStart=>exact⟨[],[],[],_,_,hD (by simp),AS,HQ,hD (λ_=>rfl)⟩
  case round=>
   obtain⟨fns,fns',pvs,s',fv,HK,S,HR,HFF⟩:=hrel;clear AS HQ HL;generalize w1.heap.size+1=T9 at *;generalize w1.heap.size=g at *;have hr:=HR.o;cases gk with
   | zero=>simp[dR] at hr
   | succ k=>
     simp only[dR] at hr;by_cases h0:s'.e=0
     case neg=>
       rw[if_pos h0] at hr;simp only[aA0] at hr;subst hr;have HR2:=hD (show r = .bad s'.place s'.e by rw[<-HRR.o,if_pos h0]);have he:((s'.e:Int)==0)=false:=bN.2 (by omega);have he2:((s'.e:Int) != 0)=true:=by rw[bne,he];rfl
       obtain⟨hg,c5,c6⟩:=S.o.q.aKd;have t0:=S.o.bt.frozen 0;have t1:=S.o.bt.frozen 1;have u0:=S.o.bt.cell 0;have u1:=S.o.bt.cell 1;have hTl:=S.o.bt.lt;have HGT:=hD (show w.heap.size≠g by have:=HG.o;omega);simp at u0 u1
       go_wp2_with fail
       have m5:((w.heap.size,()):Addr)≠(g,U3):=by intro e;injection e with e;exact HGT e
       have m6:((w.heap.size,()):Addr)≠(g,U4):=by intro e;injection e with e;exact HGT e
       have p5:((w.heap.size,U1):Addr)≠(g,U3):=by intro e;injection e with e;exact HGT e
       have p6:((w.heap.size,U1):Addr)≠(g,U4):=by intro e;injection e with e;exact HGT e
       have D5:=hD c5;have D6:=hD c6;have E5:=hD ((aA2 (wr.drew.setCell (w.heap.size,()) Un) (w.heap.size,U1) (g,U3) Un p5).trans ((aA2 wr.drew (w.heap.size,()) (g,U3) Un m5).trans c5));have E6:=hD ((aA2 (wr.drew.setCell (w.heap.size,()) Un) (w.heap.size,U1) (g,U4) Un p6).trans ((aA2 wr.drew (w.heap.size,()) (g,U4) Un m6).trans c6));clear m5 m6 p5 p6;go_region_held3 (λwx=>wx.cell? (g,3)=s'.e∧wx.cell? (g,4)=s'.place) (first|exact⟨D5,D6⟩|exact⟨E5,E6⟩) (first|fail)
       clear D5 D6 E5 E6 hg c5 c6 t0 t1 u0 u1 hTl he he2;go_wp2_with fail
       have FE:=hD (aCk F1 S.o.q.fr (Nat.le_of_lt HG));have hB2:=((S.o.bt.setCell 0 Un).setCell 1 Un);have F2:Hd (Fr nob w (((wr.setCell (w.heap.size,()) Un).setCell (w.heap.size,U1) Un).drew)):=((FE.o.setCell (w.heap.size,()) Un (λh=>absurd h (Nat.lt_irrefl _))).setCell (w.heap.size,U1) Un (λh=>absurd h (Nat.lt_irrefl _))).drew;have hB3:Blk (((wr.setCell (w.heap.size,()) Un).setCell (w.heap.size,U1) Un).drew) w.heap.size 26 #[Un,Un]:=hB2;clear hB2;generalize ((wr.setCell (w.heap.size,()) Un).setCell (w.heap.size,U1) Un).drew=we at *;have z0:=hB3.cell 0;have z1:=hB3.cell 1;simp at z0 z1
       clear hB3;refine bodyPost_ret (v:= .tuple #[.agg #[Un,Un],s'.place,s'.e]) (by simp[results,results25,go_sem,z0,z1]) rfl ⟨by rw[HR2.o];rfl,F2⟩
     case pos=>
       rw[if_neg (by omega)] at hr;have hff:=HFF.o h0;subst hff;have he:((s'.e:Int)==0)=true:=by rw[h0];rfl
       have he2:((s'.e:Int) != 0)=false:=by rw[bne,he];rfl
       obtain⟨hg,c5,c6⟩:=S.o.q.aKd;by_cases hk:bM ts 0 s'=true
       . rw[if_pos hk] at hr
         simp only[aA0] at hr;subst hr;have HKI:=hD hk;have HRR2:=hD (show r=if 300<s'.nodes.length∨6<fns'.length∨fns'.any (λf=>decide (3<f.params.length))=true then .bad 0 4 else .good s'.nodes fns' by rw[<-HRR.o,if_neg (λh=>h h0)]);have H0:=hD h0;clear HRR HR hk h0;go_wp2_with fail
         refine stepM (S.o.q.here.kind 0 HKI) λw4 h4=>?_;have S4:=hD (S.o.to h4);clear h4 hg c5 c6;obtain⟨hg,c5,c6⟩:=S4.o.q.aKd;obtain⟨nv,lvs,cn,hon,hbel,hsame,hnew⟩:=S4.o.q.aQw H0.o;obtain⟨NA,NC,rfl,_,_⟩:=hon.cap;obtain⟨FA,FC,rfl,hf1,hf2⟩:=S4.o.own.cap;have TR:=hD (show cZ w.heap.size w4 (.slice NA s'.nodes.length NC) (.slice FA fns'.length FC) lvs pvs s'.nodes fns' from
          ⟨hon,hbel,hsame,S4.o.own,S4.o.pars,S4.o.same,λk hk=>by have:=hnew k hk;have:=HG.o;omega,λk hk=>by have:=S4.o.newf k hk;have:=F1.o.size;simp at this;omega⟩)
         have u0:=S4.o.b9.cell 0;have u1:=S4.o.b9.cell 1;have t0:=S4.o.b9.frozen 0;have h9l:=S4.o.b9.lt;simp at u0 u1
         have FE:=hD (aCk F1 S4.o.q.fr (Nat.le_of_lt HG));have hfL:(fns'.length:Int)<=9223372036854775807:=by have:=Nat.le_trans hf1 hf2;unfold maxLen at this;omega
         have hnL:(s'.nodes.length:Int)<=1000000:=by have:=HN.o;have e:(fns',s').2.nodes.length=s'.nodes.length:=rfl;omega
         have FB:Hd (Blk (w4.setCell (T9,()) (.slice NA s'.nodes.length NC)) T9 26 #[.slice NA s'.nodes.length NC,.slice FA fns'.length FC]):=S4.o.b9.setCell 0 _;have TB:Hd (Blk (w4.setCell (T9,()) (.slice NA s'.nodes.length NC)) w.heap.size 26 #[Un,Un]):=S4.o.bt.far (p:=(T9,())) S4.o.ne _;have TR2:=hD (TR.o.far (M:=bY T9) ((Fr.refl _ w4).setCell (T9,()) (.slice NA s'.nodes.length NC) (λ_=>rfl)) (λk hk=>by rw[show k=T9 from hk];exact⟨_,S4.o.b9⟩));have FE2:Hd (Fr nob w (w4.setCell (T9,()) (.slice NA s'.nodes.length NC))):=FE.o.setCell (T9,()) _ (λh=>by have h':T9<w.heap.size:=h;have:=S4.o.h9;have h3:=F1.o.size;simp at h3;omega);have HMY:=hD (aMn TR2.o.fns TR2.o.pars TR2.o.samef);obtain⟨b,hb⟩:∃b,fns'.any yF=b:=⟨_,rfl⟩;rw[hb] at HMY;have l3:(300:Int)<(s'.nodes.length:Int)∨(s'.nodes.length:Int)<=300:=by omega
         have l6:(6:Int)<(fns'.length:Int)∨(fns'.length:Int)<=6:=by omega
         have HRB:=hD (show r=if 300<s'.nodes.length∨6<fns'.length∨b=true then .bad 0 4 else .good s'.nodes fns' from by rw[HRR2.o,<-hb];rfl);clear hon hbel hsame hnew hf1 hf2 TR HRR2 hb FE;generalize s'.nodes.length=nl at *;generalize fns'.length=fl at *;go_wp2_with fail
         refine HMY.o.mono ?_;rintro e w5 ⟨rfl,hf5⟩;have FB5:=hD (FB.o.fr hf5 (λx=>x));have TB5:=hD (TB.o.fr hf5 (λx=>x));have TR5:=hD (TR2.o.far hf5 (λk hk=>hk.elim));have FE5:=hD (FE2.o.tr hf5);clear hf5 t0 u0 u1 hg c5 c6 cn h9l he he2 TR2 FB TB FE2;have a0:=FB5.o.cell 0;have a1:=FB5.o.cell 1;have t0:=TB5.o.frozen 0;have t1:=TB5.o.frozen 1;have u0:=TB5.o.cell 0;have u1:=TB5.o.cell 1;have hTl:=TB5.o.lt;simp at a0 a1 u0 u1
         cases b with
         | true=>
          have HR2:=hD (show r = .bad 0 4 by rw[HRB.o,if_pos (.inr (.inr rfl))]);go_wp2_with fail
          clear t0 t1 u0 u1 hTl a0 a1;have hB2:=((TB5.o.setCell 0 Un).setCell 1 Un);have F2:Hd (Fr nob w (((w5.setCell (w.heap.size,()) Un).setCell (w.heap.size,U1) Un))):=((FE5.o.setCell (w.heap.size,()) Un (λh=>absurd h (Nat.lt_irrefl _))).setCell (w.heap.size,U1) Un (λh=>absurd h (Nat.lt_irrefl _)));have hB3:Blk (((w5.setCell (w.heap.size,()) Un).setCell (w.heap.size,U1) Un)) w.heap.size 26 #[Un,Un]:=hB2;clear hB2;generalize ((w5.setCell (w.heap.size,()) Un).setCell (w.heap.size,U1) Un)=we at *;have z0:=hB3.cell 0;have z1:=hB3.cell 1;simp at z0 z1
          clear hB3;refine bodyPost_ret (v:= .tuple #[.agg #[Un,Un],U0,U4]) (by simp[results,results25,go_sem,z0,z1]) rfl ⟨by rw[HR2.o];rfl,F2⟩
         | false=>
          rcases l3 with l3|l3
          . clear l6
            have HR2:=hD (show r = .bad 0 4 by rw[HRB.o,if_pos (.inl (by omega))]);go_wp2_with fail
            clear t0 t1 u0 u1 hTl a0 a1;have hB2:=((TB5.o.setCell 0 Un).setCell 1 Un);have F2:Hd (Fr nob w (((w5.setCell (w.heap.size,()) Un).setCell (w.heap.size,U1) Un))):=((FE5.o.setCell (w.heap.size,()) Un (λh=>absurd h (Nat.lt_irrefl _))).setCell (w.heap.size,U1) Un (λh=>absurd h (Nat.lt_irrefl _)));have hB3:Blk (((w5.setCell (w.heap.size,()) Un).setCell (w.heap.size,U1) Un)) w.heap.size 26 #[Un,Un]:=hB2;clear hB2;generalize ((w5.setCell (w.heap.size,()) Un).setCell (w.heap.size,U1) Un)=we at *;have z0:=hB3.cell 0;have z1:=hB3.cell 1;simp at z0 z1
            clear hB3;refine bodyPost_ret (v:= .tuple #[.agg #[Un,Un],U0,U4]) (by simp[results,results25,go_sem,z0,z1]) rfl ⟨by rw[HR2.o];rfl,F2⟩
          . rcases l6 with l6|l6
            . skip
              have HR2:=hD (show r = .bad 0 4 by rw[HRB.o,if_pos (.inr (.inl (by omega)))]);go_wp2_with fail
              clear t0 t1 u0 u1 hTl a0 a1;have hB2:=((TB5.o.setCell 0 Un).setCell 1 Un);have F2:Hd (Fr nob w (((w5.setCell (w.heap.size,()) Un).setCell (w.heap.size,U1) Un))):=((FE5.o.setCell (w.heap.size,()) Un (λh=>absurd h (Nat.lt_irrefl _))).setCell (w.heap.size,U1) Un (λh=>absurd h (Nat.lt_irrefl _)));have hB3:Blk (((w5.setCell (w.heap.size,()) Un).setCell (w.heap.size,U1) Un)) w.heap.size 26 #[Un,Un]:=hB2;clear hB2;generalize ((w5.setCell (w.heap.size,()) Un).setCell (w.heap.size,U1) Un)=we at *;have z0:=hB3.cell 0;have z1:=hB3.cell 1;simp at z0 z1
              clear hB3;refine bodyPost_ret (v:= .tuple #[.agg #[Un,Un],U0,U4]) (by simp[results,results25,go_sem,z0,z1]) rfl ⟨by rw[HR2.o];rfl,F2⟩
            . skip
              have HR2:=hD (show r = .good s'.nodes fns' by rw[HRB.o,if_neg (λh=>h.elim (λh=>by omega) (λh=>h.elim (λh=>by omega) (λh=>by cases h)))]);go_wp2_with fail
              clear t0 t1 u0 u1 hTl a0 a1;have hB2:=((TB5.o.setCell 0 (.slice NA nl NC)).setCell 1 (.slice FA fl FC));have F2:Hd (Fr nob w ((w5.setCell (w.heap.size,()) (.slice NA nl NC)).setCell (w.heap.size,U1) (.slice FA fl FC))):=((FE5.o.setCell (w.heap.size,()) _ (λh=>absurd h (Nat.lt_irrefl _))).setCell (w.heap.size,U1) _ (λh=>absurd h (Nat.lt_irrefl _)));have hone:Fr (bY w.heap.size) w5 ((w5.setCell (w.heap.size,()) (.slice NA nl NC)).setCell (w.heap.size,U1) (.slice FA fl FC)):=by
               have h1:Fr (bY w.heap.size) w5 (w5.setCell (w.heap.size,()) (.slice NA nl NC)):=(Fr.refl _ _).setCell _ _ (λ_=>rfl);exact h1.setCell (w.heap.size,U1) _ (λ_=>rfl)
              have TR3:=hD (TR5.o.far hone (λk hk=>by rw[show k=w.heap.size from hk];exact⟨_,TB5⟩));have hB3:Blk ((w5.setCell (w.heap.size,()) (.slice NA nl NC)).setCell (w.heap.size,U1) (.slice FA fl FC)) w.heap.size 26 #[.slice NA nl NC,.slice FA fl FC]:=hB2;clear hB2 hone;generalize (w5.setCell (w.heap.size,()) (.slice NA nl NC)).setCell (w.heap.size,U1) (.slice FA fl FC)=we at *;have z0:=hB3.cell 0;have z1:=hB3.cell 1;simp at z0 z1
              clear hB3;refine bodyPost_ret (v:= .tuple #[.agg #[.slice NA nl NC,.slice FA fl FC],U0,U0]) (by simp[results,results25,go_sem,z0,z1]) rfl ⟨by rw[HR2.o];exact⟨_,_,lvs,pvs,rfl,TR3⟩,F2⟩
       . rw[if_neg hk] at hr
         simp only[bS] at hr;obtain⟨fs,hfs,hr⟩:=hr;have hle:=aV (pI _ _ _ _ hr);have HN2:=hD (show fs.2.nodes.length+20*k+40<=1000000 by have:=HN.o;have:=HFU.o;have:=HK.o;omega);have HKI:=hD (show bM ts 0 s'=false by simpa using hk);have HFS:=hD hfs;have HR2:=hD hr;have HB2:=hD (show fns'.length<=40000 by have:=HK.o;have:=HFU.o;omega);have H0:=hD h0;clear hr hk h0 hfs HR hle;go_wp2_with fail
         refine stepM (S.o.q.here.kind 0 HKI) λw4 h4=>?_;have S4:=hD (S.o.to h4);clear h4 hg c5 c6 S he he2;have HFN:=aHv SG (S4.o.q.here.no (fR w4).drew) H0 HFS HN2.o;have HFN:=hD HFN;obtain⟨FA,FC,rfl,hf1,hf2⟩:=S4.o.own.cap;obtain⟨m,hm⟩:∃m,fns'.length=m:=⟨_,rfl⟩;rw[hm] at S4 HB2;have HMM:=hD hm;have CK:=hD (show ∀wx:World,∀v:Value,Blk wx T9 26 #[Un,v]->wx.cell? (T9,1)=some v from λwx v h1=>by rw[h1.cell 1];rfl);have k0:=CK.o _ _ S4.o.b9;have HK2:=hD (show 10*k+1<=10*n0+1 by have:=HK.o;omega);clear hf1 hf2 hm;go_wp2_with fail
         go_region_law (first
          | (go_simp;go_at_call 51;go_loud (refine HFN.o.mono ?_);go_loud (rintro e w5 ⟨pv,x,rfl,hx,h5,hpo,hpn⟩);go_loud (obtain⟨PA,PC,rfl,_,_⟩:=hpo.cap);go_loud (have HX5:=hD hx);go_loud (have HPO:=hD hpo);go_loud (have S5:=hD (S4.o.to (h5.more HK2)));go_loud (have K5:=hD (CK _ _ S5.o.b9));go_loud (have K6:=hD (CK _ _ (S5.o.b9.alloc (.cells #[bs fs.1.name,fs.1.line,.slice PA fs.1.params.length PC,fs.1.ret,x] 48))));have k2:=K5.o;have k3:=K6.o;clear hx h5 hpo hpn)
          | (refine step_append (v:= .slice FA m FC) (n:=m) (m:=1) (xs:=dB fns' pvs) (news:=[bs fs.1.name,fs.1.line,.slice PA fs.1.params.length PC,fs.1.ret,x]) (by rfl) _ _ (by rfl) aTa (by rfl) (by rfl) (by have h9:=S5.o.own;rw[HMM.o] at h9;exact h9.alloc _) (Rd.eZ (n:=1) (cs:=[bs fs.1.name,fs.1.line,.slice PA fs.1.params.length PC,fs.1.ret,x]) (Blk.new _ _ _) rfl (by decide)) (by simp[Value.oneCell']) (by have h9:=HB2.o;omega) (by have h9:=HB2.o;unfold maxLen;omega) ?_;intro A6 c6 w6 ho6 hf6 hv6;go_loud (have S6:=hD (S5.o.app (f:=⟨fs.1.name,fs.1.line,fs.1.params,fs.1.ret,x⟩) HPO (by rw[HMM.o];exact ho6) hf6 hv6));go_loud (have D6:=hD ((S5.o.b9.alloc (.cells #[bs fs.1.name,fs.1.line,.slice PA fs.1.params.length PC,fs.1.ret,x] 48)).fr hf6 (λhm=>(S5.o.own.alloc (.cells #[bs fs.1.name,fs.1.line,.slice PA fs.1.params.length PC,fs.1.ret,x] 48)).aD (S5.o.b9.alloc (.cells #[bs fs.1.name,fs.1.line,.slice PA fs.1.params.length PC,fs.1.ret,x] 48)) (by decide) hm)));have z0:=CK.o _ _ D6.o;have z1:=D6.o.frozen 1;have z2:=D6.o.lt;clear ho6 hf6 hv6))
         all_goals
          go_wp2
          go_roundg k
          case measure=>omega
          case rel=>exact⟨fns'++[fs.1],_,_,fs.2,_,hD (by have:=HK.o;rw[aA3];simp;omega),S6,HR2,hD (λe=>by rw[HX5.o e])⟩
theorem aBk.no {w':World} (h:aBk w) (f:Fr nob w w'):aBk w':=⟨h.lex.fr f,h.most.imp λm hm=>hm.fr f (λx=>x)⟩
open Pw
def jP (w:World) (en:Ending):fZ->Prop
 | .bad p e=>en = .returned (.tuple #[aQv,.int .i64 (p:Nat),.int .i64 (e:Nat)])∧e≠0
 | .good p=>∃nv fv tv sv uv zv lvs pvs,en = .returned (.tuple #[.agg #[nv,fv,tv,sv,uv,zv],.int .i64 0,.int .i64 0])∧kT w nv fv tv sv uv zv lvs pvs p
theorem jP.no {w':World}{en:Ending}{r:fZ} (h:jP w en r) (f:Fr nob w w'):jP w' en r:=by
 cases r with
 | bad p e=>exact h
 | good p=>
  obtain⟨nv,fv,tv,sv,uv,zv,lvs,pvs,he,hp⟩:=h;exact⟨nv,fv,tv,sv,uv,zv,lvs,pvs,he,hp.no f⟩
theorem Blk.sixth {T:Nat}{a b c d e f:Value} (h:Blk w T t #[a,b,c,d,e,f]):
  w.cell? (T,0)=some a∧w.cell? (T,1)=some b∧w.cell? (T,2)=some c∧w.cell? (T,3)=some d∧w.cell? (T,4)=some e∧w.cell? (T,5)=some f ∧
  w.frozen? (T,())=false∧w.frozen? (T,U1)=false∧w.frozen? (T,U2)=false∧w.frozen? (T,U3)=false∧w.frozen? (T,U4)=false∧w.frozen? (T,U5)=false:=
 ⟨(h.cell 0).trans rfl,(h.cell 1).trans rfl,(h.cell 2).trans rfl,(h.cell 3).trans rfl,(h.cell 4).trans rfl,(h.cell 5).trans rfl,h.frozen 0,h.frozen 1,h.frozen 2,h.frozen 3,h.frozen 4,h.frozen 5⟩
theorem Blk.uL {T:Nat}{a b c d e f a' b' c' d' e' f':Value} (h:Blk w T t #[a,b,c,d,e,f]):
   Blk ((((((w.setCell (T,()) a').setCell (T,U1) b').setCell (T,U2) c').setCell (T,U3) d').setCell (T,U4) e').setCell (T,U5) f') T t #[a',b',c',d',e',f']:=
 (((((h.setCell 0 a').setCell 1 b').setCell 2 c').setCell 3 d').setCell 4 e').setCell 5 f'
def aRq:Prop:=∀(src:ByteArray) (w:World) (hs:src.size<=281474976710656){r:fZ} (hr:jA src.data.toList=some r),
 Calls prog 14 #[src] w λen w'=>jP w' en r∧Fr nob w w'
theorem aAa (src:ByteArray) (w:World) (hv:aBk w) (hs:src.size<=281474976710656){r:fZ} (hr:jA src.data.toList=some r):
  Calls prog 28 #[src] w λen w'=>jP w' en r∧Fr nob w w':=by
 unfold jA at hr;rw[mS] at hr;obtain⟨r0,hr0,hr⟩:=hr;have HP:=hD (λw' (f:Fr nob w w')=>aMd src w' hs (hv.no f) hr0);have B0:=hD (Blk.new w 29 #[Un,Un,Un,Un,Un,Un]);have F0:Hd (Fr nob w (w.alloc (.cells #[Un,Un,Un,Un,Un,Un] 29))):=(Fr.refl _ w).alloc _;clear hs hv;cases r0 with
 | bad p er=>
  have he:er≠0:=by have:=uT hr0;omega
  have hr:fZ.bad p er=r:=hr;subst hr;have heb:((er:Int)==0)=false:=bN.2 (by omega);have hne:((er:Int) != 0)=true:=by rw[bne,heb];rfl
  have HE:=hD he;clear hr0 he;go_enter func28,ntmps28;go_wp2_with fail
  generalize w.alloc (.cells #[Un,Un,Un,Un,Un,Un] 29)=w1 at *;generalize hT:w.heap.size=T at *;have HT:=hD hT;clear hT;refine (HP w1 F0).mono ?_;rintro en w2 ⟨hpa,hf⟩;have hpa:en = .returned (.tuple #[.agg #[Un,Un],p,er]):=hpa;subst hpa;have B2:=hD (B0.o.fr hf (λx=>x));have F2:=hD (F0.o.tr hf);clear hf;have B3:=hD ((B2.o.alloc (.cells #[Un,Un] 26)));have F3:=hD (F2.o.alloc (.cells #[Un,Un] 26));obtain⟨r0,r1,r2,r3,r4,r5,f0,f1,f2,f3,f4,f5⟩:=B3.o.sixth;have tn:¬T=w2.heap.size:=by have:=B2.o.lt;omega
  have B4:=hD (B3.o.uL (a':= Un) (b':= Un) (c':= Un) (d':= Un) (e':= Un) (f':= Un));have F4:=hD (uK (Nat.le_of_eq HT) F3 Un Un Un Un Un Un);go_wp2_with fail
  all_goals
   clear r0 r1 r2 r3 r4 r5 f0 f1 f2 f3 f4 f5;generalize ((((((w2.alloc (.cells #[Un,Un] 26)).setCell (T,()) Un).setCell (T,U1) Un).setCell (T,U2) Un).setCell (T,U3) Un).setCell (T,U4) Un).setCell (T,U5) Un=wz at *
  obtain⟨z0,z1,z2,z3,z4,z5,_⟩:=B4.o.sixth;go_wp2
  refine bodyPost_ret (v:= .tuple #[.agg #[Un,Un,Un,Un,Un,Un],p,er]) (by simp[results,results28,go_sem,z0,z1,z2,z3,z4,z5]) rfl ⟨⟨rfl,HE⟩,by first|exact F4.o|exact F4.o.drew⟩
 | good ns fs=>
  have TI:=wE hr0;have HR:=hD hr;have HC:=hD (λ(w':World) (NA FA:Option Addr) (NC FC:Nat) (lvs pvs:List Value) (ht:cZ 0 w' (.slice NA ns.length NC) (.slice FA fs.length FC) lvs pvs ns fs)=>aEn ht TI.ok TI.rows);have HLT:=hD (λe p (h:eD ns fs = .bad e p)=>aCm TI.ok h);have hn3:(ns.length:Int)<=300:=by have:=TI.ok.few;omega
  clear hr0 hr TI;go_enter func28,ntmps28;go_wp2_with fail
  generalize w.alloc (.cells #[Un,Un,Un,Un,Un,Un] 29)=w1 at *;generalize hT:w.heap.size=T at *;have HT:=hD hT;clear hT;refine (HP w1 F0).mono ?_;rintro en w2 ⟨⟨nv,fv,lvs,pvs,rfl,ht⟩,hf⟩;obtain⟨NA,NC,rfl,-,-⟩:=ht.nodes.cap;obtain⟨FA,FC,rfl,-,-⟩:=ht.fns.cap;have TT:=hD (ht.zero.no ((fR w2).alloc (.cells #[.slice NA ns.length NC,.slice FA fs.length FC] 26)));have B2:=hD ((B0.o.fr hf (λx=>x)).alloc (.cells #[.slice NA ns.length NC,.slice FA fs.length FC] 26));have F2:=hD ((F0.o.tr hf).alloc (.cells #[.slice NA ns.length NC,.slice FA fs.length FC] 26));have X2:=hD (Blk.new w2 26 #[.slice NA ns.length NC,.slice FA fs.length FC]);have tn:Hd (T<w2.heap.size):=(B0.o.fr hf (λx=>x)).lt;clear hf ht;go_wp2_with fail
  generalize w2.alloc (.cells #[.slice NA ns.length NC,.slice FA fs.length FC] 26)=w3 at *;generalize w2.heap.size=X at *;refine (HC w3 NA FA NC FC lvs pvs TT).mono ?_;rintro en w4 ⟨hck,hf⟩;have B4:=hD (B2.o.fr hf (λx=>x));have X4:=hD (X2.o.fr hf (λx=>x));have F4:=hD (F2.o.tr hf);have T4:=hD (TT.o.no hf);clear hf B2 X2 F2 TT;cases hc:eD ns fs with
  | bad e x=>
   rw[hc] at hck;obtain⟨he,he0,he9⟩:=hck;have he:en = .returned (.tuple #[.agg #[Un,Un,Un,Un,Un,Un],x,e]):=he;subst he;have B5:=hD (B4.o.alloc (.cells #[Un,Un,Un,Un,Un,Un] 29));have X5:=hD (X4.o.alloc (.cells #[Un,Un,Un,Un,Un,Un] 29));have F5:=hD (F4.o.alloc (.cells #[Un,Un,Un,Un,Un,Un] 29));have T5:=hD (T4.o.no ((fR w4).alloc (.cells #[Un,Un,Un,Un,Un,Un] 29)));have heb:((e:Int)==0)=false:=bN.2 (by omega);have hne:((e:Int) != 0)=true:=by rw[bne,heb];rfl
   have n1:¬T=w4.heap.size:=by have:=B4.o.lt;omega
   have n2:¬X=w4.heap.size:=by have:=X4.o.lt;omega
   have n3:¬T=X:=by have:=tn.o;omega
   have HE:=hD he0;obtain⟨r0,r1,r2,r3,r4,r5,f0,f1,f2,f3,f4,f5⟩:=B5.o.sixth;have B6:=hD (B5.o.uL (a':= Un) (b':= Un) (c':= Un) (d':= Un) (e':= Un) (f':= Un));have F6:=hD (uK (Nat.le_of_eq HT) F5 Un Un Un Un Un Un);by_cases h44:e=44
   . subst h44
     have HS:=hD (show fZ.bad 0 44=r from by have:=HR.o;simp only[hc] at this;exact this);clear hc he0 he9 heb hne;go_wp2_with fail
     all_goals
      clear r0 r1 r2 r3 r4 r5 f0 f1 f2 f3 f4 f5;generalize ((((((w4.alloc (.cells #[Un,Un,Un,Un,Un,Un] 29)).setCell (T,()) Un).setCell (T,U1) Un).setCell (T,U2) Un).setCell (T,U3) Un).setCell (T,U4) Un).setCell (T,U5) Un=wz at *
     obtain⟨z0,z1,z2,z3,z4,z5,_⟩:=B6.o.sixth;go_wp2
     refine bodyPost_ret (v:= .tuple #[.agg #[Un,Un,Un,Un,Un,Un],U0,(44:Int)]) (by simp[results,results28,go_sem,z0,z1,z2,z3,z4,z5]) rfl ⟨by rw[<-HS.o];exact⟨rfl,by decide⟩,by first|exact F6.o|exact F6.o.drew⟩
   . have hx:=HLT.o e x hc h44
     obtain⟨nd,hnd⟩:∃nd,ns[x]?=some nd:=⟨_,gE hx⟩;have HS:=hD (show fZ.bad nd.line e=r from by have:=HR.o;simp only[hc,if_neg h44,hnd] at this;exact this);have hx2:(x:Int)<(ns.length:Int):=by omega
     have h4b:((e:Int)==44)=false:=bN.2 (by omega);obtain⟨nb,nc,lv,e',-,-,-,y1,-⟩:=T5.o.node hnd;injection e' with e1 e2 e3;subst e1;have n4:¬nb=T:=λe=>by
      have h1:=T5.o.nodes.aD B5 (by decide);rw[aQ (by omega) T5.o.nodes.oH.1,e] at h1;exact h1 rfl
     have x0:=(X5.o.cell 0).trans rfl;clear hc he0 he9 hnd hx h44 e2 e3;go_wp2_with fail
     go_region_law (fail)
     all_goals
      clear r0 r1 r2 r3 r4 r5 f0 f1 f2 f3 f4 f5;generalize ((((((w4.alloc (.cells #[Un,Un,Un,Un,Un,Un] 29)).setCell (T,()) Un).setCell (T,U1) Un).setCell (T,U2) Un).setCell (T,U3) Un).setCell (T,U4) Un).setCell (T,U5) Un=wz at *;obtain⟨z0,z1,z2,z3,z4,z5,_⟩:=B6.o.sixth;go_wp2
      refine bodyPost_ret (v:= .tuple #[.agg #[Un,Un,Un,Un,Un,Un],nd.line,e]) (by simp[results,results28,go_sem,z0,z1,z2,z3,z4,z5]) rfl ⟨by rw[<-HS.o];exact⟨rfl,HE⟩,by first|exact F6.o|exact F6.o.drew⟩
  | good p=>
   rw[hc] at hck;obtain⟨tv,sv,uv,zv,rfl,hp⟩:=hck;have HS:=hD (show fZ.good p=r from by have:=HR.o;simp only[hc] at this;exact this);obtain⟨TA,TC,rfl,-,-⟩:=hp.types.cap;obtain⟨SA,SC,rfl,-,-⟩:=hp.slots.cap;obtain⟨UA,UC,rfl,-,-⟩:=hp.fn.cap;obtain⟨ZA,ZC,rfl,-,-⟩:=hp.sizes.cap;generalize hl1:p.types.length=l1 at *;generalize hl2:p.slots.length=l2 at *;generalize hl3:p.fn.length=l3 at *;generalize hl4:p.sizes.length=l4 at *;have B5:=hD (B4.o.alloc (.cells #[.slice NA ns.length NC,.slice FA fs.length FC,.slice TA l1 TC,.slice SA l2 SC,.slice UA l3 UC,.slice ZA l4 ZC] 29));have F5:=hD (F4.o.alloc (.cells #[.slice NA ns.length NC,.slice FA fs.length FC,.slice TA l1 TC,.slice SA l2 SC,.slice UA l3 UC,.slice ZA l4 ZC] 29));have P5:=hD (hp.no ((fR w4).alloc (.cells #[.slice NA ns.length NC,.slice FA fs.length FC,.slice TA l1 TC,.slice SA l2 SC,.slice UA l3 UC,.slice ZA l4 ZC] 29)));have n1:¬T=w4.heap.size:=by have:=B4.o.lt;omega
   obtain⟨r0,r1,r2,r3,r4,r5,f0,f1,f2,f3,f4,f5⟩:=B5.o.sixth;have B6:=hD (B5.o.uL (a':= .slice NA ns.length NC) (b':= .slice FA fs.length FC) (c':= .slice TA l1 TC) (d':= .slice SA l2 SC) (e':= .slice UA l3 UC) (f':= .slice ZA l4 ZC));have F6:=hD (uK (Nat.le_of_eq HT) F5 (.slice NA ns.length NC) (.slice FA fs.length FC) (.slice TA l1 TC) (.slice SA l2 SC) (.slice UA l3 UC) (.slice ZA l4 ZC));have P6:=hD (P5.o.aSc B5 (Fr.six (w4.alloc (.cells #[.slice NA ns.length NC,.slice FA fs.length FC,.slice TA l1 TC,.slice SA l2 SC,.slice UA l3 UC,.slice ZA l4 ZC] 29)) T (.slice NA ns.length NC) (.slice FA fs.length FC) (.slice TA l1 TC) (.slice SA l2 SC) (.slice UA l3 UC) (.slice ZA l4 ZC)));clear hc hp hl1 hl2 hl3 hl4;go_wp2_with fail
   all_goals
     clear r0 r1 r2 r3 r4 r5 f0 f1 f2 f3 f4 f5;generalize ((((((w4.alloc (.cells #[.slice NA ns.length NC,.slice FA fs.length FC,.slice TA l1 TC,.slice SA l2 SC,.slice UA l3 UC,.slice ZA l4 ZC] 29)).setCell (T,()) (.slice NA ns.length NC)).setCell (T,U1) (.slice FA fs.length FC)).setCell (T,U2) (.slice TA l1 TC)).setCell (T,U3) (.slice SA l2 SC)).setCell (T,U4) (.slice UA l3 UC)).setCell (T,U5) (.slice ZA l4 ZC)=wz at *
   obtain⟨z0,z1,z2,z3,z4,z5,_⟩:=B6.o.sixth;go_wp2
   refine bodyPost_ret (v:= .tuple #[.agg #[.slice NA ns.length NC,.slice FA fs.length FC,.slice TA l1 TC,.slice SA l2 SC,.slice UA l3 UC,.slice ZA l4 ZC],U0,U0]) (by simp[results,results28,go_sem,z0,z1,z2,z3,z4,z5]) rfl ⟨by rw[<-HS.o];exact⟨_,_,_,_,_,_,_,_,rfl,by first|exact P6.o|exact P6.o.no ((fR _).drew)⟩,by first|exact F6.o|exact F6.o.drew⟩
structure aSf where
 op:Nat
 a:Int
 b:Nat
 s:List UInt8
 deriving DecidableEq
section
variable (p:gB)
def aOx (x:Nat):Int:=p.slots.getD x (-1)
def aOs (x:Nat):Nat:=p.types.getD x 0
section
variable (ex:Nat->Nat->List aSf)
end
section
variable (ex:Nat->Nat->List aSf) (bl:Nat->Nat->List aSf)
end
end
def tyK (ty:Nat->Nat) (nd:aF) (i:Nat):Nat:=(nd.l[i]?.map ty).getD 0
theorem xE {ty ty':Nat->Nat} (he:∀x∈nd.l,ty x=ty' x) (i:Nat):tyK ty nd i=tyK ty' nd i:=by
 unfold tyK;cases h:nd.l[i]? with
 | none=>rfl
 | some x=>show ty x=ty' x;exact he x (List.mem_of_getElem? h)
def KTy (fs:List aG) (ty:Nat->Nat) (nd:aF) (t:Nat):Prop:=
 if nd.kind=1∨nd.kind=19 then t=1
 else if nd.kind=5∨nd.kind=7 then t=1∧tyK ty nd 0=1
 else if nd.kind=6 then t=1∧(tyK ty nd 0=3∨tyK ty nd 0=4)
 else if nd.kind=2 then t=2
 else if nd.kind=8 then t=2∧tyK ty nd 0=2
 else if nd.kind=3 then t=3
 else if nd.kind=20 then t=4∧tyK ty nd 0=1
 else if nd.kind=9 then 1<=t∧t<=3∧tyK ty nd 0=tyK ty nd 1∧tyK ty nd 0<=3∧t=bL nd.name (tyK ty nd 0) (tyK ty nd 1)
 else if nd.kind=4 then 1<=t∧t<=4
 else if nd.kind=21 then ∃j f,findF fs nd.name=some j∧fs[j]?=some f∧nd.l.map ty=f.params.map (·.2)∧t=f.ret
 else if nd.kind=14 then t=0∧1<=tyK ty nd 0∧tyK ty nd 0<=3
 else if nd.kind=15∨nd.kind=16 then t=0∧tyK ty nd 0=2
 else if nd.kind=12 then t=0∧tyK ty nd 0=1∧tyK ty nd 1=1
 else t=0
theorem KTy.congr {ty ty':Nat->Nat} (h:KTy fs ty nd t) (he:∀x∈nd.l,ty x=ty' x):KTy fs ty' nd t:=by
 have h2:nd.l.map ty=nd.l.map ty':=List.map_congr_left he;unfold KTy at h ⊢;rw[<-xE he 0,<-xE he 1,<-h2];exact h
def sK (k:Nat):Bool:=decide (k=4) || decide (k=5) || decide (k=10) || decide (k=11) || decide (k=12)
structure vO (fs:List aG) (k z:Nat) (s:CkS) (y:Nat) (nd:aF):Prop where
 fn:s.fn[y]?=some k
 ty:∃t,s.types[y]?=some t∧KTy fs (λi=>s.types.getD i 0) nd t
 sl:∃v:Int,s.slots[y]?=some v∧(sK nd.kind=true->0<=v∧v<z)∧(sK nd.kind=false->v = -1)
structure Turns (a b:Nat) (s s':CkS):Prop where
 lt:s'.types.length=s.types.length
 ls:s'.slots.length=s.slots.length
 lf:s'.fn.length=s.fn.length
 oth:∀y,(y<a∨b<=y)->s'.types[y]?=s.types[y]?∧s'.slots[y]?=s.slots[y]?∧s'.fn[y]?=s.fn[y]?
theorem Turns.refl (a b:Nat) (s:CkS):Turns a b s s:=⟨rfl,rfl,rfl,λ_ _=>⟨rfl,rfl,rfl⟩⟩
theorem Turns.trans {s1 s2:CkS} (h:Turns a b s s1) (g:Turns a b s1 s2):Turns a b s s2:=
 ⟨g.lt.trans h.lt,g.ls.trans h.ls,g.lf.trans h.lf,λy hy=>⟨(g.oth y hy).1.trans (h.oth y hy).1,(g.oth y hy).2.1.trans (h.oth y hy).2.1,(g.oth y hy).2.2.trans (h.oth y hy).2.2⟩⟩
theorem Turns.mono (h:Turns a b s s') (ha:a'<=a) (hb:b<=b'):Turns a' b' s s':=
 ⟨h.lt,h.ls,h.lf,λy hy=>h.oth y (by omega)⟩
theorem Turns.set (ts:List Nat) (ss:List Int) (ff:List Nat) (vs:List bT) (z:Nat) (h1:ts=s.types∨∃t,ts=s.types.set x t) (h2:ss=s.slots∨∃t,ss=s.slots.set x t) (h3:ff=s.fn∨∃t,ff=s.fn.set x t):
  Turns x (x+1) s ⟨ts,ss,ff,vs,z⟩:=by
 have key:∀{α:Type} (l l':List α),(l'=l∨∃t,l'=l.set x t)->l'.length=l.length∧∀y,(y<x∨x+1<=y)->l'[y]?=l[y]?:=by
  intro α l l' h;rcases h with rfl|⟨t,rfl⟩
  . exact⟨rfl,λ_ _=>rfl⟩
  . exact⟨List.length_set,λy hy=>List.getElem?_set_ne (by omega)⟩
 exact⟨(key _ _ h1).1,(key _ _ h2).1,(key _ _ h3).1,λy hy=>⟨(key _ _ h1).2 y hy,(key _ _ h2).2 y hy,(key _ _ h3).2 y hy⟩⟩
def pG (ns:List aF) (y:Nat):Nat:=(ns[y]?.map (·.kind)).getD 0
def kU (ns:List aF) (a b:Nat):Nat:=(List.range' a (b - a)).countP λy=>decide (pG ns y=10)
theorem jY (ns:List aF) (a:Nat):kU ns a a=0:=by unfold kU;rw[Nat.sub_self];rfl
theorem nY {c:Nat} (h1:a<=b) (h2:b<=c):kU ns a c=kU ns a b+kU ns b c:=by
 unfold kU;rw[<-List.countP_append];congr 1
 have:=List.range'_append (s:=a) (m:=b - a) (n:=c - b) (step:=1);rw[Nat.one_mul,show a+(b - a)=b by omega,show b - a+(c - b)=c - a by omega] at this;exact this.symm
theorem yJ (h:ns[x]?=some nd):kU ns x (x+1)=if nd.kind=10 then 1 else 0:=by
 unfold kU;rw[show x+1 - x=1 by omega]
 show List.countP _ [x]=_
 rw[List.countP_singleton];unfold pG;rw[h];by_cases hk:nd.kind=10<;>simp[hk]
structure fF (ns:List aF) (a b:Nat) (s:CkS):Prop where
 lt:s.types.length=ns.length
 ls:s.slots.length=ns.length
 lf:s.fn.length=ns.length
 hb:b<=ns.length
 new:∀y,a<=y->y<b->s.types[y]?=some 0∧s.slots[y]?=some (-1)
theorem fF.turn (h:fF ns a b s) (t:Turns a' b' s s') (hd:b'<=a∨b<=a'):fF ns a b s':=
 ⟨t.lt.trans h.lt,t.ls.trans h.ls,t.lf.trans h.lf,h.hb,λy h1 h2=>⟨(t.oth y (by omega)).1.trans (h.new y h1 h2).1,(t.oth y (by omega)).2.1.trans (h.new y h1 h2).2⟩⟩
theorem fF.sub (h:fF ns a b s) (ha:a<=a') (hb:b'<=b):fF ns a' b' s:=
 ⟨h.lt,h.ls,h.lf,by have:=h.hb;omega,λy h1 h2=>h.new y (by omega) (by omega)⟩
def dS (s:CkS):Prop:=∀v∈s.vars,1<=v.ty∧v.ty<=4∧v.slot<s.size
structure Did (ns:List aF) (fs:List aG) (k a b:Nat) (s s':CkS):Prop where
 turns:Turns a b s s'
 at_:∀y nd,a<=y->y<b->ns[y]?=some nd->vO fs k s'.size s' y nd
 size:s'.size=s.size+kU ns a b
 lets:∀y nd,a<=y->y<b->ns[y]?=some nd->nd.kind=10->s'.slots[y]?=some ((s.size+kU ns a y:Nat):Int)
section
variable {ns:List aF}{fs:List aG}{k a b c:Nat}{s s0 s1 s2 s':CkS}
theorem vO.keep {z z' y:Nat} (h:vO fs k z s y nd) (hy:y<b) (hk:∀x∈nd.l,x<y) (t:Turns b c s s') (hz:z<=z'):vO fs k z' s' y nd:=by
 obtain⟨h1,⟨u,h2,h3⟩,v,h4,h5,h6⟩:=h;refine⟨(t.oth y (.inl hy)).2.2.trans h1,⟨u,(t.oth y (.inl hy)).1.trans h2,h3.congr (λx hx=>?_)⟩,v,(t.oth y (.inl hy)).2.1.trans h4,λe=>by have:=h5 e;omega,h6⟩
 show s.types.getD x 0=s'.types.getD x 0
 rw[List.getD_eq_getElem?_getD,List.getD_eq_getElem?_getD,(t.oth x (.inl (by have:=hk x hx;omega))).1]
theorem Did.nil (ns:List aF) (fs:List aG) (k a:Nat) (s:CkS):Did ns fs k a a s s:=
 ⟨Turns.refl _ _ _,λy nd h1 h2=>by omega,by rw[jY,Nat.add_zero],λy nd h1 h2=>by omega⟩
theorem aCg (hn:aS ns) (hx:ns[x]?=some nd):∀y∈nd.l,y<x:=λy hy=>by
 have:=aJf (hn x nd hx) y hy;rw[List.length_take] at this;omega
theorem Did.trans (hn:aS ns) (hab:a<=b) (hbc:b<=c) (h:Did ns fs k a b s s1) (g:Did ns fs k b c s1 s2):Did ns fs k a c s s2:=by
 refine⟨(h.turns.mono (aA1 _) hbc).trans (g.turns.mono hab (aA1 _)),λy nd h1 h2 hy=>?_,by rw[g.size,h.size,nY hab hbc];omega,λy nd h1 h2 hy hk=>?_⟩
 . by_cases hyb:y<b
   . exact (h.at_ y nd h1 hyb hy).keep hyb (aCg hn hy) g.turns (by rw[g.size];omega)
   . exact g.at_ y nd (by omega) h2 hy
 . by_cases hyb:y<b
   . exact (g.turns.oth y (.inl hyb)).2.1.trans (h.lets y nd h1 hyb hy hk)
   . rw[g.lets y nd (by omega) h2 hy hk,h.size,nY (ns:=ns) hab (show b<=y by omega),Nat.add_assoc]
theorem Did.node (hn:aS ns) (hx:ns[x]?=some nd) (hax:a<=x) (T0:Turns x (x+1) s s0) (z0:s0.size=s.size) (D:Did ns fs k a x s0 s1) (T1:Turns x (x+1) s1 s') (z1:s'.size=s1.size+if nd.kind=10 then 1 else 0)
   (hA:vO fs k s'.size s' x nd) (hL:nd.kind=10->s'.slots[x]?=some (s1.size:Int)):Did ns fs k a (x+1) s s':=by
 refine⟨((T0.mono hax (aA1 _)).trans (D.turns.mono (aA1 _) (Nat.le_succ _))).trans (T1.mono hax (aA1 _)),λy nd' h1 h2 hy=>?_,by rw[z1,D.size,z0,nY hax (Nat.le_succ x),yJ hx];omega,λy nd' h1 h2 hy hk=>?_⟩
 . by_cases hyx:y<x
   . exact (D.at_ y nd' h1 hyx hy).keep hyx (aCg hn hy) T1 (by rw[z1];omega)
   . have:y=x:=by omega
     subst this;rw[hx] at hy;injection hy with hy;subst hy;exact hA
 . by_cases hyx:y<x
   . rw[(T1.oth y (.inl hyx)).2.1,D.lets y nd' h1 hyx hy hk,z0]
   . have:y=x:=by omega
     subst this;rw[hx] at hy;injection hy with hy;subst hy;rw[hL hk,D.size,z0]
theorem Did.vars (h:Did ns fs k a b s s') (vs:List bT):Did ns fs k a b s { s' with vars:=vs }:=
 ⟨⟨h.turns.lt,h.turns.ls,h.turns.lf,h.turns.oth⟩,λy nd h1 h2 h3=>⟨(h.at_ y nd h1 h2 h3).fn,(h.at_ y nd h1 h2 h3).ty,(h.at_ y nd h1 h2 h3).sl⟩,h.size,h.lets⟩
theorem aBu (h:Seg ns a [] b):b=a:=by cases h;rfl
theorem aOy (h:Seg ns a [u] b):∃nd,ns[u]?=some nd∧Seg ns a nd.l u∧b=u+1:=by
 cases h with
 | cons _ _ _ _ nd hx h h2=>exact⟨nd,hx,h,aBu h2⟩
theorem aTe {v:Nat} (h:Seg ns a [u,v] b):∃n1 n2,ns[u]?=some n1∧Seg ns a n1.l u∧ns[v]?=some n2∧Seg ns (u+1) n2.l v∧b=v+1:=by
 cases h with
 | cons _ _ _ _ nd hx h h2=>
  obtain⟨n2,h3,h4,h5⟩:=aOy h2;exact⟨nd,n2,hx,h,h3,h4,h5⟩
theorem lM {cls:Nat->Bool} (h:Kid (ns.take i) cls x) (hx:ns[x]?=some nd):cls nd.kind=true:=by
 obtain⟨c,hc,hk⟩:=h;have:x<(ns.take i).length:=(gK hc);rw[List.getElem?_take] at hc;split at hc
 . rw[hx] at hc;injection hc with hc;subst hc;exact hk
 . cases hc
theorem tY {k:Nat} (h:iV k=true):kC k=true:=by unfold kC;rw[h];rfl
end
structure aNy (ns:List aF) (fs:List aG) (k a x:Nat) (s s':CkS) (nd:aF) (t:Nat):Prop where
 did:Did ns fs k a (x+1) s s'
 vars:s'.vars=s.vars
 size:s'.size=s.size
 ty:s'.types[x]?=some t
 cls:iV nd.kind=true->1<=t∧t<=4
 le:t<=4
def aQi (ns:List aF) (fs:List aG) (k:Nat) (ex:Nat->CkS->CkR (Nat×CkS)):Prop:=
 ∀x s t s' nd a,ns[x]?=some nd->kC nd.kind=true->Seg ns a nd.l x->fF ns a (x+1) s->dS s->ex x s = .good (t,s')->aNy ns fs k a x s s' nd t
section
variable {ns:List aF}{fs:List aG}{k a b c:Nat}{s s0 s1 s2 s':CkS}{ex:Nat->CkS->CkR (Nat×CkS)}
theorem dS.eq (h:dS s) (e1:s'.vars=s.vars) (e2:s'.size=s.size):dS s':=λv hv=>by rw[e2];exact h v (by rw[<-e1];exact hv)
theorem getD_some {l:List Nat} (h:l[i]?=some t):l.getD i 0=t:=by rw[List.getD_eq_getElem?_getD,h];rfl
theorem aCp (hn:aS ns) (hex:aQi ns fs k ex):∀{l:List Nat}{a b:Nat}{s s':CkS}{r:List Nat},Seg ns a l b->(∀x∈l,∃nd,ns[x]?=some nd∧iV nd.kind=true)->fF ns a b s->dS s->bF ex l s = .good (r,s') ->
  Did ns fs k a b s s'∧s'.vars=s.vars∧s'.size=s.size∧r=l.map λi=>s'.types.getD i 0
 | [],a,b,s,s',r,h,_,hf,_,he=>by
  have:=aBu h;subst this;injection he with he;injection he with e1 e2;subst e1;subst e2;exact⟨Did.nil _ _ _ _ _,rfl,rfl,rfl⟩
 | x :: l,a,b,s,s',r,h,hc,hf,hv,he=>by
  cases h with
  | cons _ _ _ _ nd hx h h2=>
   unfold bF at he;obtain⟨q,hq,he⟩:=CkR.bind_eq he;obtain⟨u,hu,he⟩:=CkR.map_eq he;injection he with e1 e2;subst e1;subst e2;obtain⟨nd',hx',hcl⟩:=hc x (List.mem_cons_self ..);rw[hx] at hx';injection hx' with hx';subst hx';have hxb:x+1<=b:=h2.le;have hax:a<=x:=h.le;have o:=hex x s q.1 q.2 nd a hx (tY hcl) h (hf.sub (aA1 _) hxb) hv hq;have i:=aCp hn hex h2 (λy hy=>hc y (List.mem_cons_of_mem _ hy)) ((hf.sub (by omega) (aA1 _)).turn o.did.turns (.inl (aA1 _))) (hv.eq o.vars o.size) (r:=u.1) (s':=u.2) hu;refine⟨o.did.trans hn (by omega) hxb i.1,i.2.1.trans o.vars,i.2.2.1.trans o.size,?_⟩;rw[List.map_cons,<-i.2.2.2];congr 1
   exact (getD_some ((i.1.turns.oth x (.inl (Nat.lt_succ_self x))).1.trans o.ty)).symm
theorem vH (hn:aS ns) (hx:ns[x]?=some nd) (hax:a<=x) (hcl:nd.kind≠10) (T0:Turns x (x+1) s s0) (v0:s0.vars=s.vars) (z0:s0.size=s.size) (D:Did ns fs k a x s0 s1) (v1:s1.vars=s0.vars) (z1:s1.size=s0.size)
   (fr:fF ns a (x+1) s) (hk:KTy fs (λi=>s1.types.getD i 0) nd t) (hs:∃v:Int,s1.slots[x]?=some v∧(sK nd.kind=true->0<=v∧v<s.size)∧(sK nd.kind=false->v = -1)) (hc:iV nd.kind=true->1<=t∧t<=4) (hle:t<=4):
   aNy ns fs k a x s { s1 with types:=s1.types.set x t,fn:=s1.fn.set x k } nd t:=by
 have hb:=fr.hb;have l1:x<s1.types.length:=by rw[D.turns.lt,T0.lt,fr.lt];omega
 have l2:x<s1.fn.length:=by rw[D.turns.lf,T0.lf,fr.lf];omega
 have T1:Turns x (x+1) s1 { s1 with types:=s1.types.set x t,fn:=s1.fn.set x k }:=Turns.set _ _ _ _ _ (.inr ⟨t,rfl⟩) (.inl rfl) (.inr ⟨k,rfl⟩);have ht:(s1.types.set x t)[x]?=some t:=by rw[List.getElem?_set_self l1]
 refine⟨Did.node hn hx hax T0 z0 D T1 (by rw[if_neg hcl];rfl) ?_ (λe=>absurd e hcl),v1.trans v0,z1.trans z0,ht,hc,hle⟩;refine⟨?_,⟨t,ht,hk.congr (λy hy=>?_)⟩,?_⟩
 . show (s1.fn.set x k)[x]?=some k
   rw[List.getElem?_set_self l2]
 . have:=aCg hn hx y hy
   show s1.types.getD y 0=(s1.types.set x t).getD y 0
   rw[List.getD_eq_getElem?_getD,List.getD_eq_getElem?_getD,List.getElem?_set_ne (by omega)]
 . obtain⟨v,h1,h2,h3⟩:=hs
   exact⟨v,h1,λe=>by have:=h2 e;show 0<=v∧v<(s1.size:Int);rw[z1,z0];exact this,h3⟩
end
section
variable {ns:List aF}{fs:List aG}{k a b c:Nat}{s s0 s1 s2 s':CkS}{ex:Nat->CkS->CkR (Nat×CkS)}
theorem oK (hex:aQi ns fs k ex) (h:Seg ns a [u] x) (hk:Kid (ns.take x) kC u) (hf:fF ns a x s) (hv:dS s) (he:ex u s = .good r):
  Did ns fs k a x s r.2∧r.2.vars=s.vars∧r.2.size=s.size∧r.2.types.getD u 0=r.1∧r.1<=4:=by
 obtain⟨nd,hu,h1,rfl⟩:=aOy h;have o:=hex u s r.1 r.2 nd a hu (lM hk hu) h1 hf hv he;exact⟨o.did,o.vars,o.size,getD_some o.ty,o.le⟩
theorem uI (hex:aQi ns fs k ex) (h:Seg ns a [u] x) (hk:Kid (ns.take x) iV u) (hf:fF ns a x s) (hv:dS s) (he:ex u s = .good r):
  Did ns fs k a x s r.2∧r.2.vars=s.vars∧r.2.size=s.size∧r.2.types.getD u 0=r.1∧1<=r.1∧r.1<=4:=by
 obtain⟨nd,hu,h1,rfl⟩:=aOy h;have hc:=lM hk hu;have o:=hex u s r.1 r.2 nd a hu (tY hc) h1 hf hv he;exact⟨o.did,o.vars,o.size,getD_some o.ty,o.cls hc⟩
theorem zL (hn:aS ns) (hex:aQi ns fs k ex){v:Nat} (h:Seg ns a [u,v] x) (hk:Kid (ns.take x) iV u) (hk2:Kid (ns.take x) iV v) (hf:fF ns a x s) (hv:dS s){q:Nat×CkS} (he:ex u s = .good r) (he2:ex v r.2 = .good q):
  Did ns fs k a x s q.2∧q.2.vars=s.vars∧q.2.size=s.size∧q.2.types.getD u 0=r.1∧q.2.types.getD v 0=q.1∧(1<=r.1∧r.1<=4)∧1<=q.1∧q.1<=4:=by
 obtain⟨n1,n2,hu,h1,hv2,h2,rfl⟩:=aTe h;have hc:=lM hk hu;have hc2:=lM hk2 hv2;have l1:=h1.le;have l2:=h2.le;have o:=hex u s r.1 r.2 n1 a hu (tY hc) h1 (hf.sub (aA1 _) (by omega)) hv he;have o2:=hex v r.2 q.1 q.2 n2 (u+1) hv2 (tY hc2) h2 ((hf.sub (a':=u+1) (by omega) (aA1 _)).turn o.did.turns (.inl (aA1 _))) (hv.eq o.vars o.size) he2;exact⟨o.did.trans hn (by omega) (by omega) o2.did,o2.vars.trans o.vars,o2.size.trans o.size,getD_some ((o2.did.turns.oth u (.inl (Nat.lt_succ_self u))).1.trans o.ty),getD_some o2.ty,o.cls hc,o2.cls hc2⟩
theorem qU {vs:List bT}{name:List UInt8}{v:bT} (h:dV vs name=some v):v∈vs:=List.mem_of_find?_eq_some h
theorem mI {name:List UInt8}{q:Nat×CkS} (h:aU x name s = .good q):∃v,dV s.vars name=some v∧q=(v.ty,{ s with slots:=s.slots.set x v.slot }):=by
 unfold aU at h;cases hf:dV s.vars name with
 | none=>rw[hf] at h;cases h
 | some v=>rw[hf] at h;injection h with h;exact⟨v,rfl,h.symm⟩
theorem aQe {sg:List UInt8}{a b:Nat} (h:bL sg a b≠0):a=b∧1<=a∧a<=3∧1<=bL sg a b∧bL sg a b<=3:=by
 unfold bL at h ⊢;by_cases e:a≠b
 . rw[if_pos e] at h;exact absurd rfl h
 . rw[if_neg e] at h ⊢
   refine⟨by omega,?_⟩;split at h<;>(try split at h)<;>(try split at h)<;>(try split at h)<;>(try split at h)<;>simp_all<;>omega
theorem oC (hn:aS ns) (hret:∀f∈fs,f.ret<=4):∀f,aQi ns fs k (eO ns fs k f)
 | 0=>λx s t s' nd a hx hcl hseg hf hv he=>by cases he
 | f+1=>λx s t s' nd a hx hcl hseg hf hv he=>by
  have ih:=oC hn hret f;simp only[eO,hx] at he;obtain⟨q,hq,he⟩:=CkR.map_eq he;injection he with e1 e2;subst e1;subst e2;generalize eO ns fs k f=ex at *;have hax:=hseg.le;have hN:=hn x nd hx;have hz:s.slots[x]?=some (-1):=(hf.new x hax (Nat.lt_succ_self x)).2;have hfx:fF ns a x s:=hf.sub (aA1 _) (Nat.le_succ _);have hlen:x<s.slots.length:=by rw[hf.ls];have:=hf.hb;omega
  have leaf:∀{t:Nat},a=x->nd.kind≠10->KTy fs (λi=>s.types.getD i 0) nd t->sK nd.kind=false->(1<=t∧t<=4)->aNy ns fs k a x s { s with types:=s.types.set x t,fn:=s.fn.set x k } nd t:=λ{t} e1 h1 h2 h3 h4=>by
   subst e1;exact vH hn hx (aA1 _) h1 (Turns.refl _ _ _) rfl rfl (Did.nil _ _ _ _ _) rfl rfl hf h2 ⟨-1,hz,(λe=>by rw[h3] at e;cases e),λ_=>rfl⟩ (λ_=>h4) h4.2
  have un:∀{u t:Nat} {r:Nat×CkS},nd.l=[u]->Kid (ns.take x) iV u->ex u s = .good r->nd.kind≠10->sK nd.kind=false->(∀ty:Nat->Nat,ty u=r.1->KTy fs ty nd t)->(1<=t∧t<=4)->aNy ns fs k a x s { r.2 with types:=r.2.types.set x t,fn:=r.2.fn.set x k } nd t:=λ{u t r} e1 h1 h2 h3 h4 h5 h6=>by
   rw[e1] at hseg;obtain⟨o1,o2,o3,o4,o5⟩:=uI ih hseg h1 hfx hv h2;exact vH hn hx hax h3 (Turns.refl _ _ _) rfl rfl o1 o2 o3 hf (h5 _ o4) ⟨-1,(o1.turns.oth x (.inr (aA1 _))).2.1.trans hz,(λe=>by rw[h4] at e;cases e),λ_=>rfl⟩ (λ_=>h6) h6.2
  cases hN with
  | int line n h=>
   simp[bB] at hq
   subst hq;exact leaf (aBu hseg).symm (by simp) (by simp[KTy]) rfl (by simp)
  | input line=>
   simp[bB] at hq
   subst hq;exact leaf (aBu hseg).symm (by simp) (by simp[KTy]) rfl (by simp)
  | bool line n h=>
   simp[bB] at hq
   subst hq;exact leaf (aBu hseg).symm (by simp) (by simp[KTy]) rfl (by simp)
  | text line y=>
   simp[bB] at hq
   subst hq;exact leaf (aBu hseg).symm (by simp) (by simp[KTy]) rfl (by simp)
  | var line y=>
   simp[bB] at hq
   obtain⟨v,hv1,rfl⟩:=mI hq;have h3:=hv v (qU hv1);have e:=aBu hseg;subst e;exact vH hn hx (aA1 _) (by simp) (Turns.set _ _ _ _ _ (.inl rfl) (.inr ⟨_,rfl⟩) (.inl rfl)) rfl rfl (Did.nil _ _ _ _ _) rfl rfl hf (by simp[KTy];omega) ⟨v.slot,List.getElem?_set_self hlen,λ_=>by omega,λe=>by cases e⟩ (λ_=>by show 1<=v.ty∧v.ty<=4;omega) (by show v.ty<=4;omega)
  | index line y u hu=>
   simp[bB] at hq
   obtain⟨t,ht,hq⟩:=CkR.bind_eq hq;obtain⟨r,hr,hq⟩:=CkR.bind_eq hq;obtain⟨v,hv1,rfl⟩:=mI ht;split at hq
   . rename_i hc
     injection hq with hq;subst hq;have h3:=hv v (qU hv1);have T0:Turns x (x+1) s { s with slots:=s.slots.set x (v.slot:Int) }:=Turns.set _ _ _ _ _ (.inl rfl) (.inr ⟨_,rfl⟩) (.inl rfl);obtain⟨o1,o2,o3,o4,o5⟩:=uI ih hseg hu (hfx.turn T0 (.inr (aA1 _))) (hv.eq rfl rfl) hr;exact vH hn hx hax (by simp) T0 rfl rfl o1 o2 o3 hf (by simp[KTy,tyK];rw[<-hc.2];simpa using o4) ⟨v.slot,(o1.turns.oth x (.inr (aA1 _))).2.1.trans (List.getElem?_set_self hlen),λ_=>by omega,λe=>by cases e⟩ (λ_=>by show 1<=1∧1<=4;omega) (by show 1<=4;omega)
   . cases hq
  | len line u hu=>
   simp[bB] at hq
   obtain⟨r,hr,hq⟩:=CkR.bind_eq hq;split at hq
   . rename_i hc
     injection hq with hq;subst hq;exact un (r:=r) rfl hu hr (by simp) rfl (λty e=>by simp[KTy,tyK,e,hc]) (by simp)
   . cases hq
  | neg line u hu=>
   simp[bB] at hq
   obtain⟨r,hr,hq⟩:=CkR.bind_eq hq;split at hq
   . rename_i hc
     injection hq with hq;subst hq;exact un (r:=r) rfl hu hr (by simp) rfl (λty e=>by simp[KTy,tyK,e,hc]) (by simp)
   . cases hq
  | not line u hu=>
   simp[bB] at hq
   obtain⟨r,hr,hq⟩:=CkR.bind_eq hq;split at hq
   . rename_i hc
     injection hq with hq;subst hq;exact un (r:=r) rfl hu hr (by simp) rfl (λty e=>by simp[KTy,tyK,e,hc]) (by simp)
   . cases hq
  | new line u hu=>
   simp[bB] at hq
   obtain⟨r,hr,hq⟩:=CkR.bind_eq hq;split at hq
   . rename_i hc
     injection hq with hq;subst hq;exact un (r:=r) rfl hu hr (by simp) rfl (λty e=>by simp[KTy,tyK,e,hc]) (by simp)
   . cases hq
  | bin line y u v hy hu hv2=>
   simp[bB] at hq
   obtain⟨r,hr,hq⟩:=CkR.bind_eq hq;obtain⟨p,hp,hq⟩:=CkR.bind_eq hq;split at hq
   . cases hq
   . rename_i hc
     injection hq with hq;subst hq;obtain⟨o1,o2,o3,o4,o5,o6,o7⟩:=zL hn ih hseg hu hv2 hfx hv hr hp;obtain⟨b1,b2,b3,b4,b5⟩:=aQe hc;refine vH hn hx hax (by simp) (Turns.refl _ _ _) rfl rfl o1 o2 o3 hf ?_ ⟨-1,(o1.turns.oth x (.inr (aA1 _))).2.1.trans hz,(λe=>by cases e),λ_=>rfl⟩ (λ_=>⟨b4,by show bL y r.1 p.1<=4;omega⟩) (by show bL y r.1 p.1<=4;omega)
     show 1<=bL y r.1 p.1∧bL y r.1 p.1<=3∧p.2.types.getD u 0=p.2.types.getD v 0∧p.2.types.getD u 0<=3∧bL y r.1 p.1=bL y (p.2.types.getD u 0) (p.2.types.getD v 0)
     rw[o4,o5];exact⟨b4,b5,b1,b3,rfl⟩
  | call line y l hl=>
   simp[bB,kV] at hq
   cases hF:findF fs y with
   | none=>rw[hF] at hq;cases hq
   | some j=>
     rw[hF] at hq;dsimp only at hq;obtain⟨r,hr,hq⟩:=CkR.bind_eq hq;split at hq
     . rename_i hc1
       split at hq
       . rename_i hc2
         injection hq with hq;subst hq;have hj:j<fs.length:=by
           unfold findF at hF;exact (List.findIdx?_eq_some_iff_getElem.1 hF).1
         have hj2:fs[j]?=some fs[j]:=gE hj;have hcl2:∀z∈l,∃nd,ns[z]?=some nd∧iV nd.kind=true:=λz hz=>by
           obtain⟨c,hc,hk⟩:=hl z hz;have hlt:z<(ns.take x).length:=(gK hc);rw[List.getElem?_take] at hc;split at hc
           . exact⟨c,hc,hk⟩
           . cases hc
         obtain⟨o1,o2,o3,o4⟩:=aCp hn ih hseg hcl2 hfx hv hr;refine vH hn hx hax (by simp) (Turns.refl _ _ _) rfl rfl o1 o2 o3 hf ?_ ⟨-1,(o1.turns.oth x (.inr (aA1 _))).2.1.trans hz,(λe=>by cases e),λ_=>rfl⟩ (λe=>by cases e) (by rw[hj2];exact hret _ (List.getElem_mem hj));refine⟨j,fs[j],hF,hj2,?_,?_⟩
         . rw[<-o4]
           have:=hc2;rw[hj2] at this;exact this
         . show _=_
           rw[hj2];rfl
       . cases hq
     . cases hq
  | _=>simp[kC,iV] at hcl
end
section
variable {ns:List aF}{fs:List aG}{k a b c:Nat}{s s0 s1 s2 s':CkS}{ex:Nat->CkS->CkR (Nat×CkS)}{bl:Nat->CkS->CkR CkS}
theorem aBt (hn:aS ns) (hx:ns[x]?=some nd) (hax:a<=x) (fr:fF ns a (x+1) s) (T0:Turns x (x+1) s s0) (z0:s0.size=s.size) (t0:s0.types=s.types) (f0:s0.fn=s.fn.set x k) (D:Did ns fs k a x s0 s1)
   (T1:Turns x (x+1) s1 s') (z1:s'.size=s1.size+if nd.kind=10 then 1 else 0) (t1:s'.types=s1.types) (f1:s'.fn=s1.fn) (hk:KTy fs (λi=>s1.types.getD i 0) nd 0)
   (hs:∃v:Int,s'.slots[x]?=some v∧(sK nd.kind=true->0<=v∧v<s'.size)∧(sK nd.kind=false->v = -1)) (hL:nd.kind=10->s'.slots[x]?=some (s1.size:Int)):Did ns fs k a (x+1) s s':=by
 have hb:=fr.hb;refine Did.node hn hx hax T0 z0 D T1 z1 ⟨?_,⟨0,?_,?_⟩,hs⟩ hL
 . rw[f1,(D.turns.oth x (.inr (aA1 _))).2.2,f0]
   exact List.getElem?_set_self (by rw[fr.lf];omega)
 . rw[t1,(D.turns.oth x (.inr (aA1 _))).1,t0]
   exact (fr.new x hax (Nat.lt_succ_self x)).1
 . rw[t1];exact hk
structure wX (ns:List aF) (fs:List aG) (k a b:Nat) (s s':CkS):Prop where
 did:Did ns fs k a b s s'
 vars:dS s'
 more:∃m,s'.vars=s.vars++m
def aRw (ns:List aF) (fs:List aG) (k:Nat) (bl:Nat->CkS->CkR CkS):Prop:=
 ∀x s s' nd a,ns[x]?=some nd->nd.kind=18->Seg ns a nd.l x->fF ns a (x+1) s->dS s->bl x s = .good s'->Did ns fs k a (x+1) s s'∧s'.vars=s.vars
theorem dS.up (h:dS s) (e1:s'.vars=s.vars) (e2:s.size<=s'.size):dS s':=λv hv=>by
 have:=h v (by rw[<-e1];exact hv);omega
theorem lX (hn:aS ns) (hbl:aRw ns fs k bl):∀{l:List Nat}{a b:Nat}{s s':CkS},Seg ns a l b->(∀x∈l,∃nd,ns[x]?=some nd∧nd.kind=18)->fF ns a b s->dS s->dX bl l s = .good s'->Did ns fs k a b s s'∧s'.vars=s.vars
 | [],a,b,s,s',h,_,hf,_,he=>by
  have:=aBu h;subst this;injection he with he;subst he;exact⟨Did.nil _ _ _ _ _,rfl⟩
 | x :: l,a,b,s,s',h,hc,hf,hv,he=>by
  cases h with
  | cons _ _ _ _ nd hx h h2=>
   unfold dX at he;obtain⟨q,hq,he⟩:=CkR.bind_eq he;obtain⟨nd',hx',hcl⟩:=hc x (List.mem_cons_self ..);rw[hx] at hx';injection hx' with hx';subst hx';have hxb:x+1<=b:=h2.le;have hax:a<=x:=h.le;obtain⟨o1,o2⟩:=hbl x s q nd a hx hcl h (hf.sub (aA1 _) hxb) hv hq;obtain⟨i1,i2⟩:=lX hn hbl h2 (λy hy=>hc y (List.mem_cons_of_mem _ hy)) ((hf.sub (by omega) (aA1 _)).turn o1.turns (.inl (aA1 _))) (hv.up o2 (by rw[o1.size];omega)) he;exact⟨o1.trans hn (by omega) hxb i1,i2.trans o2⟩
theorem jL {cls:Nat->Bool} (h:Kid (ns.take i) cls x):∃nd,ns[x]?=some nd∧cls nd.kind=true:=by
 obtain⟨c,hc,hk⟩:=h;rw[List.getElem?_take] at hc;split at hc
 . exact⟨c,hc,hk⟩
 . cases hc
theorem yK (h:Kid (ns.take i) pO x):∃nd,ns[x]?=some nd∧nd.kind=18:=by
 obtain⟨c,hc,hk⟩:=jL h;exact⟨c,hc,by simpa[pO] using hk⟩
theorem zP (hn:aS ns) (hex:aQi ns fs k ex) (hbl:aRw ns fs k bl) (hx:ns[x]?=some nd) (hcl:mM nd.kind=true) (hseg:Seg ns a nd.l x) (hf:fF ns a (x+1) s) (hv:dS s)
  (he:fI fs k ex bl x nd s = .good s'):wX ns fs k a (x+1) s s':=by
 have hax:=hseg.le;have hN:=hn x nd hx;have hfx:fF ns a x s:=hf.sub (aA1 _) (Nat.le_succ _);have hz:s.slots[x]?=some (-1):=(hf.new x hax (Nat.lt_succ_self x)).2;have hlen:x<s.slots.length:=by rw[hf.ls];have:=hf.hb;omega
 have T0:Turns x (x+1) s { s with fn:=s.fn.set x k }:=Turns.set _ _ _ _ _ (.inl rfl) (.inl rfl) (.inr ⟨_,rfl⟩);have hf0:fF ns a x { s with fn:=s.fn.set x k }:=hfx.turn T0 (.inr (aA1 _));have hv0:dS { s with fn:=s.fn.set x k }:=hv
 -- without a slot: what is below it is all
 have plain:∀{r:CkS},nd.kind≠10->sK nd.kind=false->Did ns fs k a x { s with fn:=s.fn.set x k } r->KTy fs (λi=>r.types.getD i 0) nd 0->Did ns fs k a (x+1) s r:=λ{r} h1 h2 h3 h4=>
  aBt hn hx hax hf T0 rfl rfl rfl h3 (Turns.refl _ _ _) (by rw[if_neg h1];rfl) rfl rfl h4 ⟨-1,(h3.turns.oth x (.inr (aA1 _))).2.1.trans hz,(λe=>by rw[h2] at e;cases e),λ_=>rfl⟩ (λe=>absurd e h1)
 -- with a slot that is noted first
 have slot:∀{r:CkS} {v:bT},nd.kind≠10->sK nd.kind=true->v∈s.vars->Did ns fs k a x { s with fn:=s.fn.set x k,slots:=s.slots.set x (v.slot:Int) } r->KTy fs (λi=>r.types.getD i 0) nd 0->Did ns fs k a (x+1) s r:=λ{r v} h1 h2 hm h3 h4=>
  aBt hn hx hax hf (Turns.set _ _ _ _ _ (.inl rfl) (.inr ⟨_,rfl⟩) (.inr ⟨_,rfl⟩)) rfl rfl rfl h3 (Turns.refl _ _ _) (by rw[if_neg h1];rfl) rfl rfl h4 ⟨v.slot,(h3.turns.oth x (.inr (aA1 _))).2.1.trans (List.getElem?_set_self hlen),(λ_=>by
    have h5:=(hv v hm).2.2;have h6:r.size=s.size+_:=h3.size;omega),(λe=>by rw[h2] at e;cases e)⟩ (λe=>absurd e h1)
 have T2:∀v:bT,Turns x (x+1) s { s with fn:=s.fn.set x k,slots:=s.slots.set x (v.slot:Int) }:=λv=>Turns.set _ _ _ _ _ (.inl rfl) (.inr ⟨_,rfl⟩) (.inr ⟨_,rfl⟩)
 cases hN with
 | let_ line y u hu=>
  simp[fI,aGg] at he
  obtain⟨r,hr,he⟩:=CkR.bind_eq he;obtain⟨o1,o2,o3,o4,ole⟩:=oK hex hseg hu hf0 hv0 hr;split at he
  . cases he
  . rename_i h0
    split at he
    . cases he
    . split at he
      . cases he
      . injection he with he
        subst he;have hlen1:x<r.2.slots.length:=by rw[o1.turns.ls];exact hlen
        refine⟨aBt hn hx hax hf T0 rfl rfl rfl o1 (Turns.set _ _ _ _ _ (.inl rfl) (.inr ⟨_,rfl⟩) (.inl rfl)) rfl rfl rfl (by simp[KTy]) ⟨_,List.getElem?_set_self hlen1,λ_=>by show 0<=(r.2.size:Int)∧(r.2.size:Int)<((r.2.size+1:Nat):Int);omega,λe=>by cases e⟩ (λ_=>List.getElem?_set_self hlen1),?_,⟨[⟨y,r.1,r.2.size⟩],by show r.2.vars++_=_;rw[o2]⟩⟩;intro v hv2;rcases List.mem_append.1 hv2 with hv2|hv2
        . rw[o2] at hv2
          have:=hv v hv2;have h7:r.2.size=s.size:=o3
          show 1<=v.ty∧v.ty<=4∧v.slot<r.2.size+1
          omega
        . rw[List.mem_singleton.1 hv2]
          show 1<=r.1∧r.1<=4∧r.2.size<r.2.size+1
          omega
 | set line y u hu=>
  simp[fI] at he
  obtain⟨t,ht,he⟩:=CkR.bind_eq he;obtain⟨r,hr,he⟩:=CkR.bind_eq he;obtain⟨v,hv1,rfl⟩:=mI ht;split at he
  . injection he with he
    subst he;obtain⟨o1,o2,o3,o4,ole⟩:=oK hex hseg hu (hfx.turn (T2 v) (.inr (aA1 _))) (hv.eq rfl rfl) hr;exact⟨slot (by simp) rfl (qU hv1) o1 (by simp[KTy]),hv.eq o2 o3,[],by rw[List.append_nil];exact o2⟩
  . cases he
 | put line y u w hu hw=>
  simp[fI] at he
  obtain⟨t,ht,he⟩:=CkR.bind_eq he;obtain⟨r,hr,he⟩:=CkR.bind_eq he;obtain⟨q,hq,he⟩:=CkR.bind_eq he;obtain⟨v,hv1,rfl⟩:=mI ht;split at he
  . rename_i hc
    injection he with he;subst he;obtain⟨o1,o2,o3,o4,o5,o6⟩:=zL hn hex hseg hu hw (hfx.turn (T2 v) (.inr (aA1 _))) (hv.eq rfl rfl) hr hq;exact⟨slot (by simp) rfl (qU hv1) o1 (by simp only[List.getD_eq_getElem?_getD] at o4 o5;simp[KTy,tyK,o4,o5,hc]),hv.eq o2 o3,[],by rw[List.append_nil];exact o2⟩
  . cases he
 | do_ line u hu=>
  simp[fI] at he
  obtain⟨r,hr,he⟩:=CkR.map_eq he;subst he;have hu2:Kid (ns.take x) kC u:=by
    obtain⟨c,hc,hk⟩:=hu;exact⟨c,hc,by simp[aNn] at hk;rw[hk];rfl⟩
  obtain⟨o1,o2,o3,o4,ole⟩:=oK hex hseg hu2 hf0 hv0 hr;exact⟨plain (by simp) rfl o1 (by simp[KTy]),hv.eq o2 o3,[],by rw[List.append_nil];exact o2⟩
 | print line u hu=>
  simp[fI] at he
  obtain⟨r,hr,he⟩:=CkR.bind_eq he;split at he
  . cases he
  . rename_i hc
    injection he with he;subst he;obtain⟨o1,o2,o3,o4,o5⟩:=uI hex hseg hu hf0 hv0 hr;exact⟨plain (by simp) rfl o1 (by simp only[List.getD_eq_getElem?_getD] at o4;simp[KTy,tyK,o4];omega),hv.eq o2 o3,[],by rw[List.append_nil];exact o2⟩
 | ret0 line=>
  simp[fI,vV] at he
  split at he
  . injection he with he
    subst he;have e:=aBu hseg;subst e;exact⟨plain (by simp) rfl (Did.nil _ _ _ _ _) (by simp[KTy]),hv,[],by rw[List.append_nil]⟩
  . cases he
 | ret1 line u hu=>
  simp[fI,vV] at he
  split at he
  . cases he
  . obtain⟨r,hr,he⟩:=CkR.bind_eq he
    split at he
    . injection he with he
      subst he;obtain⟨o1,o2,o3,o4,o5⟩:=uI hex hseg hu hf0 hv0 hr;exact⟨plain (by simp) rfl o1 (by simp[KTy]),hv.eq o2 o3,[],by rw[List.append_nil];exact o2⟩
    . cases he
 | if2 line u v hu hw=>
  simp[fI] at he
  obtain⟨r,hr,he⟩:=CkR.bind_eq he;split at he
  . rename_i hc
    cases hseg with
    | cons _ _ _ _ n1 hu1 h1 h2=>
      have l1:=h1.le;have l2:=h2.le;have hcu:=lM hu hu1;have o:=hex u _ r.1 r.2 n1 a hu1 (tY hcu) h1 (hf0.sub (aA1 _) l2) hv0 hr;obtain⟨i1,i2⟩:=lX hn hbl h2 (λy hy=>by rw[List.mem_singleton.1 hy];exact yK hw) ((hf0.sub (a':=u+1) (by omega) (aA1 _)).turn o.did.turns (.inl (aA1 _))) (hv0.eq o.vars o.size) he;have D:=o.did.trans hn (by omega) l2 i1;have ht:=getD_some ((i1.turns.oth u (.inl (Nat.lt_succ_self u))).1.trans o.ty);rw[List.getD_eq_getElem?_getD] at ht;exact⟨plain (by simp) rfl D (by simp[KTy,tyK,ht,hc]),hv.up (i2.trans o.vars) (by have h6:=D.size;show s.size<=s'.size;rw[h6];exact Nat.le_add_right _ _),[],by rw[List.append_nil];exact i2.trans o.vars⟩
  . cases he
 | if3 line u v w3 hu hw hw3=>
  simp[fI] at he
  obtain⟨r,hr,he⟩:=CkR.bind_eq he;split at he
  . rename_i hc
    cases hseg with
    | cons _ _ _ _ n1 hu1 h1 h2=>
      have l1:=h1.le;have l2:=h2.le;have hcu:=lM hu hu1;have o:=hex u _ r.1 r.2 n1 a hu1 (tY hcu) h1 (hf0.sub (aA1 _) l2) hv0 hr;obtain⟨i1,i2⟩:=lX hn hbl h2 (λy hy=>by
        rcases List.mem_cons.1 hy with rfl|hy
        . exact yK hw
        . rw[List.mem_singleton.1 hy];exact yK hw3) ((hf0.sub (a':=u+1) (by omega) (aA1 _)).turn o.did.turns (.inl (aA1 _))) (hv0.eq o.vars o.size) he
      have D:=o.did.trans hn (by omega) l2 i1;have ht:=getD_some ((i1.turns.oth u (.inl (Nat.lt_succ_self u))).1.trans o.ty);rw[List.getD_eq_getElem?_getD] at ht;exact⟨plain (by simp) rfl D (by simp[KTy,tyK,ht,hc]),hv.up (i2.trans o.vars) (by have h6:=D.size;show s.size<=s'.size;rw[h6];exact Nat.le_add_right _ _),[],by rw[List.append_nil];exact i2.trans o.vars⟩
  . cases he
 | loop line u v hu hw=>
  simp[fI] at he
  obtain⟨r,hr,he⟩:=CkR.bind_eq he;split at he
  . rename_i hc
    cases hseg with
    | cons _ _ _ _ n1 hu1 h1 h2=>
      have l1:=h1.le;have l2:=h2.le;have hcu:=lM hu hu1;have o:=hex u _ r.1 r.2 n1 a hu1 (tY hcu) h1 (hf0.sub (aA1 _) l2) hv0 hr;obtain⟨i1,i2⟩:=lX hn hbl h2 (λy hy=>by rw[List.mem_singleton.1 hy];exact yK hw) ((hf0.sub (a':=u+1) (by omega) (aA1 _)).turn o.did.turns (.inl (aA1 _))) (hv0.eq o.vars o.size) he;have D:=o.did.trans hn (by omega) l2 i1;have ht:=getD_some ((i1.turns.oth u (.inl (Nat.lt_succ_self u))).1.trans o.ty);rw[List.getD_eq_getElem?_getD] at ht;exact⟨plain (by simp) rfl D (by simp[KTy,tyK,ht,hc]),hv.up (i2.trans o.vars) (by have h6:=D.size;show s.size<=s'.size;rw[h6];exact Nat.le_add_right _ _),[],by rw[List.append_nil];exact i2.trans o.vars⟩
  . cases he
 | _=>simp[mM] at hcl
end
section
variable {ns:List aF}{fs:List aG}{k a b c:Nat}{s s0 s1 s2 s':CkS}{ex:Nat->CkS->CkR (Nat×CkS)}{bl:Nat->CkS->CkR CkS}
theorem wX.trans (hn:aS ns) (hab:a<=b) (hbc:b<=c) (h:wX ns fs k a b s s1) (g:wX ns fs k b c s1 s2):wX ns fs k a c s s2:=by
 obtain⟨m,hm⟩:=h.more;obtain⟨m2,hm2⟩:=g.more;exact⟨h.did.trans hn hab hbc g.did,g.vars,m++m2,by rw[hm2,hm,List.append_assoc]⟩
theorem qK (hn:aS ns){st:Nat->CkS->CkR CkS} (hst:∀x s s' nd a,ns[x]?=some nd->mM nd.kind=true->Seg ns a nd.l x->fF ns a (x+1) s->dS s->st x s = .good s'->wX ns fs k a (x+1) s s'):
  ∀{l:List Nat} {a b:Nat} {s s':CkS},Seg ns a l b->(∀x∈l,∃nd,ns[x]?=some nd∧mM nd.kind=true)->fF ns a b s->dS s->dX st l s = .good s'->wX ns fs k a b s s'
 | [],a,b,s,s',h,_,hf,hv,he=>by
  have:=aBu h;subst this;injection he with he;subst he;exact⟨Did.nil _ _ _ _ _,hv,[],by rw[List.append_nil]⟩
 | x :: l,a,b,s,s',h,hc,hf,hv,he=>by
  cases h with
  | cons _ _ _ _ nd hx h h2=>
   unfold dX at he;obtain⟨q,hq,he⟩:=CkR.bind_eq he;obtain⟨nd',hx',hcl⟩:=hc x (List.mem_cons_self ..);rw[hx] at hx';injection hx' with hx';subst hx';have hxb:x+1<=b:=h2.le;have hax:a<=x:=h.le;have o:=hst x s q nd a hx hcl h (hf.sub (aA1 _) hxb) hv hq;have i:=qK hn hst h2 (λy hy=>hc y (List.mem_cons_of_mem _ hy)) ((hf.sub (by omega) (aA1 _)).turn o.did.turns (.inl (aA1 _))) o.vars he;exact o.trans hn (by omega) hxb i
theorem mO (hn:aS ns) (hret:∀f∈fs,f.ret<=4):∀f,aRw ns fs k (eT ns fs k f)
 | 0=>λx s s' nd a hx hk hseg hf hv he=>by cases he
 | f+1=>λx s s' nd a hx hk hseg hf hv he=>by
  have ih:=mO hn hret f;simp only[eT,hx] at he;obtain⟨r,hr,he⟩:=CkR.map_eq he;subst he;have hax:=hseg.le;have T0:Turns x (x+1) s { s with fn:=s.fn.set x k }:=Turns.set _ _ _ _ _ (.inl rfl) (.inl rfl) (.inr ⟨_,rfl⟩);have hz:s.slots[x]?=some (-1):=(hf.new x hax (Nat.lt_succ_self x)).2;have hl:∀y∈nd.l,∃c,ns[y]?=some c∧mM c.kind=true:=by
   have hN:=hn x nd hx;cases hN with
   | block line l h=>exact λy hy=>jL (h y hy)
   | _=>simp at hk
  have i:=qK (fs:=fs) (k:=k) hn (st:=λa s=>match ns[a]? with
    | none=> .bad 95 0
    | some na=>fI fs k (eO ns fs k ns.length) (eT ns fs k f) a na s) (λy s s' nd a hy hcl hs hf hv he=>by
     simp only[hy] at he;exact zP hn (oC hn hret _) ih hy hcl hs hf hv he) hseg hl ((hf.sub (aA1 _) (Nat.le_succ _)).turn T0 (.inr (aA1 _))) (show dS { s with fn:=s.fn.set x k } from hv) hr
  obtain⟨m,hm⟩:=i.more;have hkn:sK nd.kind=false:=by rw[hk];rfl
  have D:Did ns fs k a (x+1) s r:=aBt hn hx hax hf T0 rfl rfl rfl i.did (Turns.refl _ _ _) (by rw[if_neg (by omega)];rfl) rfl rfl (by simp[KTy,hk]) ⟨-1,(i.did.turns.oth x (.inr (aA1 _))).2.1.trans hz,(λe=>by rw[hkn] at e;cases e),λ_=>rfl⟩ (λe=>by omega);exact⟨D.vars _,by show r.vars.take s.vars.length=s.vars;rw[hm];exact List.take_left' rfl⟩
theorem oV {body:Nat}:∀{l:List (List UInt8×Nat)}{vs vs':List bT},iL body l vs = .good vs'->(∀p∈l,1<=p.2∧p.2<=4)->(∀v∈vs,1<=v.ty∧v.ty<=4∧v.slot<vs.length)->vs'.length=vs.length+l.length∧∀v∈vs',1<=v.ty∧v.ty<=4∧v.slot<vs'.length
 | [],vs,vs',h,_,hv=>by
  injection h with h;subst h;exact⟨rfl,hv⟩
 | p :: l,vs,vs',h,hp,hv=>by
  unfold iL at h;split at h
  . cases h
  . have:=oV h (λq hq=>hp q (List.mem_cons_of_mem _ hq)) (λv hv2=>by
     rcases List.mem_append.1 hv2 with hv2|hv2
     . have:=hv v hv2
       rw[aA3,List.length_singleton];omega
     . rw[List.mem_singleton.1 hv2]
       have:=hp p (List.mem_cons_self ..);rw[aA3,List.length_singleton];exact⟨this.1,this.2,Nat.lt_succ_self _⟩)
    rw[aA3,List.length_singleton] at this;exact⟨by rw[this.1,List.length_cons];omega,this.2⟩
structure vP (ns:List aF) (fs:List aG) (s:CkS) (k z:Nat) (f:aG) (a b:Nat):Prop where
 at_:∀y nd,a<=y->y<b->ns[y]?=some nd->vO fs k z s y nd
 size:z=f.params.length+kU ns a b
 lets:∀y nd,a<=y->y<b->ns[y]?=some nd->nd.kind=10->s.slots[y]?=some ((f.params.length+kU ns a y:Nat):Int)
 body:f.body+1=b
 le:a<=b
theorem vP.keep {z:Nat}{f:aG} (hn:aS ns) (h:vP ns fs s k z f a b) (t:Turns b c s s'):vP ns fs s' k z f a b:=
 ⟨λy nd h1 h2 hy=>(h.at_ y nd h1 h2 hy).keep h2 (aCg hn hy) t (aA1 _),h.size,λy nd h1 h2 hy hk=>(t.oth y (.inl h2)).2.1.trans (h.lets y nd h1 h2 hy hk),h.body,h.le⟩
inductive gX (ns:List aF) (fs:List aG) (s:CkS):Nat->List aG->List Nat->Nat->Nat->Prop where
 | nil (k a:Nat):gX ns fs s k [] [] a a
 | cons (k z:Nat) (f:aG) (l:List aG) (zs:List Nat) (a c b:Nat) (h:vP ns fs s k z f a c) (h2:gX ns fs s (k+1) l zs c b):gX ns fs s k (f :: l) (z :: zs) a b
theorem aCj (hn:aS ns) (hret:∀f∈fs,f.ret<=4){f:aG} (hp:∀p∈f.params,1<=p.2∧p.2<=4) (hb:Kid ns pO f.body) (hseg:Seg ns a [f.body] b) (hf:fF ns a b s) (he:gV ns fs k f s = .good s'):
  vP ns fs s' k s'.size f a b∧Turns a b s s':=by
 obtain⟨nd,hx,h1,rfl⟩:=aOy hseg;obtain⟨c,hc,hk⟩:=hb;rw[hx] at hc;injection hc with hc;subst hc;unfold gV at he;obtain⟨vs,hvs,he⟩:=CkR.bind_eq he;obtain⟨e1,e2⟩:=oV hvs hp (λv hv=>by cases hv);have e1:vs.length=f.params.length:=by simpa using e1
 obtain⟨o1,o2⟩:=mO hn hret ns.length f.body { s with vars:=vs,size:=vs.length } s' nd a hx (by simpa[pO] using hk) h1 ⟨hf.lt,hf.ls,hf.lf,hf.hb,hf.new⟩ e2 he;have hz:s'.size=f.params.length+kU ns a (f.body+1):=by rw[o1.size,<-e1]
 exact⟨⟨o1.at_,hz,λy nd h1 h2 hy hk=>by rw[<-e1];exact o1.lets y nd h1 h2 hy hk,rfl,Nat.le_succ_of_le h1.le⟩,o1.turns.lt,o1.turns.ls,o1.turns.lf,o1.turns.oth⟩
theorem gX.keep (hn:aS ns){l:List aG}{zs:List Nat} (h:gX ns fs s k l zs a b) (t:Turns b c s s'):gX ns fs s' k l zs a b∧a<=b:=by
 induction h with
 | nil k a=>exact⟨.nil _ _,aA1 _⟩
 | cons k z f l zs a d b h h2 ih=>
  obtain⟨i1,i2⟩:=ih t;exact⟨.cons _ _ _ _ _ _ _ _ (h.keep hn (c:=c) (t.mono i2 (aA1 _) |>.mono (aA1 _) (aA1 _))) i1,Nat.le_trans h.le i2⟩
theorem sS (hn:aS ns) (hret:∀f∈fs,f.ret<=4):∀{l:List aG}{k a b:Nat}{zs0 zs:List Nat}{s s':CkS},(∀f∈l,(∀p∈f.params,1<=p.2∧p.2<=4)∧Kid ns pO f.body)->Seg ns a (l.map (·.body)) b->fF ns a b s->iR ns fs k l zs0 s = .good (zs,s') ->
  ∃zs1,zs=zs0++zs1∧gX ns fs s' k l zs1 a b∧Turns a b s s'
 | [],k,a,b,zs0,zs,s,s',_,h,hf,he=>by
  have:=aBu h;subst this;injection he with he;injection he with h1 h2;subst h1;subst h2;exact⟨[],by rw[List.append_nil],.nil _ _,Turns.refl _ _ _⟩
 | f :: l,k,a,b,zs0,zs,s,s',hp,h,hf,he=>by
  unfold iR at he;obtain⟨r,hr,he⟩:=CkR.bind_eq he;cases h with
  | cons _ _ _ _ nd hx h h2=>
   obtain⟨hp1,hk⟩:=hp f (List.mem_cons_self ..);have l2:=h2.le;obtain⟨o1,o2⟩:=aCj (k:=k) (b:=f.body+1) hn hret hp1 hk (.cons _ _ _ _ nd hx h (.nil _)) (hf.sub (aA1 _) l2) hr;obtain⟨zs1,e,i1,i2⟩:=sS hn hret (λg hg=>hp g (List.mem_cons_of_mem _ hg)) h2 ((hf.sub (Nat.le_trans h.le (Nat.le_succ _)) (aA1 _)).turn o2 (.inl (aA1 _))) he;exact⟨r.size :: zs1,by rw[e];simp,.cons _ _ _ _ _ _ _ _ (o1.keep hn i2) i1,(o2.mono (aA1 _) l2).trans (i2.mono (Nat.le_trans h.le (Nat.le_succ _)) (aA1 _))⟩
end
def gB.st (p:gB):CkS:=⟨p.types,p.slots,p.fn,[],0⟩
structure nC (p:gB):Prop where
 tree:aCt p.ns p.fs
 lt:p.types.length=p.ns.length
 ls:p.slots.length=p.ns.length
 lf:p.fn.length=p.ns.length
 done:gX p.ns p.fs p.st 0 p.fs p.sizes 0 p.ns.length
 heads:jM p.fs = .good ()
theorem gX.st {l:List aG}{k:Nat}{zs:List Nat} (h:gX ns fs s k l zs a b) (h1:s'.types=s.types) (h2:s'.slots=s.slots) (h3:s'.fn=s.fn):gX ns fs s' k l zs a b:=by
 obtain⟨t,sl,f,v,z⟩:=s;obtain⟨t',sl',f',v',z'⟩:=s';dsimp only at h1 h2 h3;subst h1;subst h2;subst h3;induction h with
 | nil k a=>exact .nil _ _
 | cons k z f l zs a d b h h2 ih=>exact .cons _ _ _ _ _ _ _ _ ⟨λy nd h1 h2 h3=>⟨(h.at_ y nd h1 h2 h3).fn,(h.at_ y nd h1 h2 h3).ty,(h.at_ y nd h1 h2 h3).sl⟩,h.size,h.lets,h.body,h.le⟩ ih
theorem rD (ns:List aF):fF ns 0 ns.length (jV ns):=
 ⟨List.length_replicate,List.length_replicate,List.length_replicate,aA1 _,λy _ h=>⟨by show (List.replicate ns.length 0)[y]?=_;rw[List.getElem?_replicate,if_pos h],by show (List.replicate ns.length (-1:Int))[y]?=_;rw[List.getElem?_replicate,if_pos h]⟩⟩
theorem aNp {p:gB} (ht:aCt ns fs) (h:eD ns fs = .good p):nC p∧p.ns=ns∧p.fs=fs:=by
 unfold eD at h;obtain⟨_,hh,h⟩:=CkR.bind_eq h;obtain⟨r,hr,h⟩:=CkR.map_eq h;subst h;obtain⟨zs1,e,i1,i2⟩:=sS (zs:=r.1) (s':=r.2) ht.ok.nodes (λf hf=>(ht.ok.types f hf).1) (λf hf=>⟨λp hp=>⟨ht.pos f hf p hp,(ht.ok.types f hf).2 p hp⟩,ht.ok.bodies f hf⟩) ht.seg (rD ns) hr;rw[List.nil_append] at e;refine⟨⟨ht,i2.lt.trans List.length_replicate,i2.ls.trans List.length_replicate,i2.lf.trans List.length_replicate,?_,hh⟩,rfl,rfl⟩
 show gX ns fs _ 0 fs r.1 0 ns.length
 rw[e];exact i1.st rfl rfl rfl
end Go.Proofs.YtlbjicjinnnboaaGreatDoor
