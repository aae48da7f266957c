/- MmO: QAllB, QShown, TSrc, KqSrc, CpModel, CsA, CsB, CsC, CsD, CpMem. -/
import Derived.Test.YtlbjicjinnnboaaGreatDoorMmN
import Derived.Test.YtlbjicjinnnboaaGreatDoorMmF
import Derived.Test.YtlbjicjinnnboaaGreatDoorMmG
import Derived.Test.YtlbjicjinnnboaaGreatDoorMmJ
import Derived.Test.YtlbjicjinnnboaaGreatDoorMmK
set_option maxHeartbeats 8000000
set_option maxRecDepth 100000
set_option linter.unusedVariables false
set_option linter.unusedSimpArgs false
/- The program's own parser: All. Printed by wip/tools/mkqallb.py. -/
namespace Go.Proofs.YtlbjicjinnnboaaGreatDoor
open Go.RowKit
theorem aLe (src:ByteArray) (w:World) (hs:src.size≤281474976710656) (hv:aAg w){r:tX} (hr:parseM src.data.toList=some r):
  Calls Tryz.prog 25 #[.string src] w fun e w'=>aAf w.heap.size w' e r∧Fr nob w w':=by
 have FT0:=hD (show Fr nob w (w.alloc (.cells #[.slice none 0 0,.slice none 0 0] 26)) from (fR w).alloc _);have V0:=hD hv;have HL:=hD (Lx.aOs src (w.alloc (.cells #[.slice none 0 0,.slice none 0 0] 26)) hs (hv.lex.fr FT0.out));have HS:=hD hs;unfold parseM at hr;cases hl:nG src.data.toList with
 | bad p er=>
  rw[hl] at hr HL;simp only[Option.some.injEq] at hr;subst hr;have hne:((er:Int)==0)=false:=by
   have:=uY hl;exact bN.2 (by omega)
  clear hl hs hv;go_enter Tryz.func25,Tryz.ntmps25;go_wp2_with fail
  refine HL.out.mono ?_;rintro e w1 ⟨rfl,hf⟩;have F1:=hD hf;have hB:=(Blk.new w 26 #[.slice none 0 0,.slice none 0 0]).fr hf (fun x=>x);have t0:=hB.frozen 0;have t1:=hB.frozen 1;have u0:=hB.cell 0;have u1:=hB.cell 1;have ul:=hB.lt;simp at u0 u1
  clear hf hB;go_wp2_with fail
  have F2:=hD (show Fr nob w ((w1.setCell ⟨w.heap.size,0,none⟩ (.slice none 0 0)).setCell ⟨w.heap.size,1,none⟩ (.slice none 0 0)) from
   ((((fR w).alloc _).tr F1.out).setCell _ _ (fun h=>absurd h (Nat.lt_irrefl _))).setCell _ _ (fun h=>absurd h (Nat.lt_irrefl _)))
  have hB2:=((((Blk.new w 26 #[.slice none 0 0,.slice none 0 0]).fr F1.out (fun x=>x)).setCell 0 (.slice none 0 0)).setCell 1 (.slice none 0 0));clear t0 t1 u0 u1 ul;generalize (w1.setCell ⟨w.heap.size,0,none⟩ (.slice none 0 0)).setCell ⟨w.heap.size,1,none⟩ (.slice none 0 0)=w2 at *;have z0:=hB2.cell 0;have z1:=hB2.cell 1;simp at z0 z1
  refine bodyPost_ret (v:= .tuple #[.agg #[.slice none 0 0,.slice none 0 0],.int .i64 p,.int .i64 er]) (by simp[results,Tryz.results25,go_sem,z0,z1]) rfl ⟨rfl,F2.out⟩
 | good ts=>
  rw[hl] at hr HL;have TK:=hD (iL hl);have SG:=hD (show aJo ts from aDz hl);have hfew:=aBh hl;simp only[lH,mS] at hr;obtain⟨q,hq,hRR⟩:=hr;have HRR:=hD hRR;have HQ:=hD hq;have HN:=hD (aMj (iL hl) hq);have hfu:dY ts≤30000:=by unfold dY;omega
  have HFU:=hD hfu;clear hl hs hfu hfew hq hRR hv;generalize dY ts=n0 at *;go_enter Tryz.func25,Tryz.ntmps25;go_wp2_with fail
  refine HL.out.mono ?_;rintro e w1 ⟨⟨v,rfl,htk⟩,hf⟩;obtain⟨A,tc,rfl,hc1,hc2⟩:=htk.slice;obtain⟨tb,rfl,_,_,_⟩:=htk.some TK.out.pos;have F1:=hD hf;have TA:=hD htk;have hsz:=F1.out.size;simp at hsz
  have HG:=hD (show w.heap.size<w1.heap.size by omega);clear hf htk hc1 hc2 hsz;go_wp2_with fail
  have AS:=hD (show QA src tb tc ts w1.heap.size w1 w.heap.size (w1.heap.size+1) ((w1.alloc (.cells #[.string src,.slice (some ⟨tb,0,none⟩) ts.length tc,.int .i64 0,.int .i64 0,.int .i64 0,.slice none 0 0] 82)).alloc (.cells #[.slice none 0 0,.slice none 0 0] 26)) ⟨0,[],0,0,0⟩ ⟨10*n0+1,0⟩ (.slice none 0 0) [] [] from by
   have hS:=aLb TA.out TK.out HS.out (show Most w1 w1 from ⟨by have:=HG.out;omega,V0.out.most.imp fun m hm=>(hm.fr FT0.out (fun x=>x)).fr F1.out (fun x=>x)⟩);have hB:=(((Blk.new w 26 #[.slice none 0 0,.slice none 0 0]).fr F1.out (fun x=>x)).alloc (.cells #[.string src,.slice (some ⟨tb,0,none⟩) ts.length tc,.int .i64 0,.int .i64 0,.int .i64 0,.slice none 0 0] 82)).alloc (.cells #[.slice none 0 0,.slice none 0 0] 26);have h9:=Blk.new (w1.alloc (.cells #[.string src,.slice (some ⟨tb,0,none⟩) ts.length tc,.int .i64 0,.int .i64 0,.int .i64 0,.slice none 0 0] 82)) 26 #[.slice none 0 0,.slice none 0 0];rw[show (w1.alloc (.cells #[.string src,.slice (some ⟨tb,0,none⟩) ts.length tc,.int .i64 0,.int .i64 0,.int .i64 0,.slice none 0 0] 82)).heap.size=w1.heap.size+1 by simp] at h9;exact⟨(hS.alloc _).zero rfl _,hB,h9,Nat.le_succ _,by have:=HG.out;omega,Own.nil _ _ _,trivial,rfl,fun k hk=>by simp[blk] at hk⟩)
  clear TA;go_loopg [] n0 (fun k wr=>∃(fns fns':List aD) (pvs:List Value) (s':PS) (fv:Value),Hid (fns.length+k≤n0)∧Hid (QA src tb tc ts w1.heap.size w1 w.heap.size (w1.heap.size+1) wr s' ⟨10*n0+1,0⟩ fv fns' pvs)∧Hid (bC src.data.toList ts k fns s'=some q)∧Hid (s'.e=0→fns'=fns))
  case atStart=>exact⟨[],[],[],_,_,hD (by simp),AS,HQ,hD (fun _=>rfl)⟩
  case round=>
   obtain⟨fns,fns',pvs,s',fv,HK,S,HR,HFF⟩:=hrel;clear AS HQ HL;generalize w1.heap.size+1=T9 at *;generalize w1.heap.size=g at *;have hr:=HR.out;cases gk with
   | zero=>simp[bC] at hr
   | succ k=>
     simp only[bC] at hr;by_cases h0:s'.e=0
     case neg=>
       rw[if_pos h0] at hr;simp only[Option.some.injEq] at hr;subst hr;have HR2:=hD (show r = .bad s'.place s'.e by rw[←HRR.out,if_pos h0]);have he:((s'.e:Int)==0)=false:=bN.2 (by omega);have he2:((s'.e:Int) != 0)=true:=by rw[bne,he];rfl
       obtain⟨hg,c5,c6⟩:=S.out.q.aIx;have t0:=S.out.bt.frozen 0;have t1:=S.out.bt.frozen 1;have u0:=S.out.bt.cell 0;have u1:=S.out.bt.cell 1;have hTl:=S.out.bt.lt;have HGT:=hD (show w.heap.size≠g by have:=HG.out;omega);simp at u0 u1
       go_wp2_with fail
       have m5:(⟨w.heap.size,0,none⟩:Addr)≠⟨g,3,none⟩:=by intro e;injection e with e;exact HGT.out e
       have m6:(⟨w.heap.size,0,none⟩:Addr)≠⟨g,4,none⟩:=by intro e;injection e with e;exact HGT.out e
       have p5:(⟨w.heap.size,1,none⟩:Addr)≠⟨g,3,none⟩:=by intro e;injection e with e;exact HGT.out e
       have p6:(⟨w.heap.size,1,none⟩:Addr)≠⟨g,4,none⟩:=by intro e;injection e with e;exact HGT.out e
       have D5:=hD c5;have D6:=hD c6;have E5:=hD ((World.cell?_setCell_other (wr.drew.setCell ⟨w.heap.size,0,none⟩ (.slice none 0 0)) ⟨w.heap.size,1,none⟩ ⟨g,3,none⟩ (.slice none 0 0) p5).trans ((World.cell?_setCell_other wr.drew ⟨w.heap.size,0,none⟩ ⟨g,3,none⟩ (.slice none 0 0) m5).trans c5));have E6:=hD ((World.cell?_setCell_other (wr.drew.setCell ⟨w.heap.size,0,none⟩ (.slice none 0 0)) ⟨w.heap.size,1,none⟩ ⟨g,4,none⟩ (.slice none 0 0) p6).trans ((World.cell?_setCell_other wr.drew ⟨w.heap.size,0,none⟩ ⟨g,4,none⟩ (.slice none 0 0) m6).trans c6));clear m5 m6 p5 p6;go_region_held3 (fun wx=>wx.cell? ⟨g,3,none⟩=some (.int .i64 s'.e)∧wx.cell? ⟨g,4,none⟩=some (.int .i64 s'.place)) (first|exact⟨D5.out,D6.out⟩|exact⟨E5.out,E6.out⟩) (first|fail)
       clear D5 D6 E5 E6 hg c5 c6 t0 t1 u0 u1 hTl he he2;go_wp2_with fail
       have FE:=hD (aBn F1.out S.out.q.fr (Nat.le_of_lt HG.out));have hB2:=((S.out.bt.setCell 0 (.slice none 0 0)).setCell 1 (.slice none 0 0));have F2:=hD (show Fr nob w (((wr.setCell ⟨w.heap.size,0,none⟩ (.slice none 0 0)).setCell ⟨w.heap.size,1,none⟩ (.slice none 0 0)).drew) from ((FE.out.setCell ⟨w.heap.size,0,none⟩ (.slice none 0 0) (fun h=>absurd h (Nat.lt_irrefl _))).setCell ⟨w.heap.size,1,none⟩ (.slice none 0 0) (fun h=>absurd h (Nat.lt_irrefl _))).drew);have hB3:Blk (((wr.setCell ⟨w.heap.size,0,none⟩ (.slice none 0 0)).setCell ⟨w.heap.size,1,none⟩ (.slice none 0 0)).drew) w.heap.size 26 #[.slice none 0 0,.slice none 0 0]:=hB2;clear hB2;generalize ((wr.setCell ⟨w.heap.size,0,none⟩ (.slice none 0 0)).setCell ⟨w.heap.size,1,none⟩ (.slice none 0 0)).drew=we at *;have z0:=hB3.cell 0;have z1:=hB3.cell 1;simp at z0 z1
       clear hB3;refine bodyPost_ret (v:= .tuple #[.agg #[.slice none 0 0,.slice none 0 0],.int .i64 s'.place,.int .i64 s'.e]) (by simp[results,Tryz.results25,go_sem,z0,z1]) rfl ⟨by rw[HR2.out];rfl,F2.out⟩
     case pos=>
       rw[if_neg (by omega)] at hr;have hff:=HFF.out h0;subst hff;have he:((s'.e:Int)==0)=true:=by rw[h0];rfl
       have he2:((s'.e:Int) != 0)=false:=by rw[bne,he];rfl
       obtain⟨hg,c5,c6⟩:=S.out.q.aIx;by_cases hk:bA ts 0 s'=true
       · rw[if_pos hk] at hr
         simp only[Option.some.injEq] at hr;subst hr;have HKI:=hD hk;have HRR2:=hD (show r=if 300<s'.nodes.length∨6<fns'.length∨fns'.any (fun f=>decide (3<f.params.length))=true then .bad 0 4 else .good s'.nodes fns' by rw[←HRR.out,if_neg (fun h=>h h0)]);have H0:=hD h0;clear HRR HR hk h0;go_wp2_with fail
         refine (S.out.q.here.kind 0 (b:=true) HKI.out).mono ?_;rintro e w4 ⟨rfl,h4⟩;have S4:=hD (S.out.to h4);clear h4 hg c5 c6;obtain⟨hg,c5,c6⟩:=S4.out.q.aIx;obtain⟨nv,lvs,cn,hon,hbel,hsame,hnew⟩:=S4.out.q.aPm H0.out;obtain⟨NA,NC,rfl,_,_⟩:=hon.cap;obtain⟨FA,FC,rfl,hf1,hf2⟩:=S4.out.own.cap;have TR:=hD (show dH w.heap.size w4 (.slice NA s'.nodes.length NC) (.slice FA fns'.length FC) lvs pvs s'.nodes fns' from
          ⟨hon,hbel,hsame,S4.out.own,S4.out.pars,S4.out.same,fun k hk=>by have:=hnew k hk;have:=HG.out;omega,fun k hk=>by have:=S4.out.newf k hk;have:=F1.out.size;simp at this;omega⟩)
         have u0:=S4.out.b9.cell 0;have u1:=S4.out.b9.cell 1;have t0:=S4.out.b9.frozen 0;have h9l:=S4.out.b9.lt;simp at u0 u1
         have FE:=hD (aBn F1.out S4.out.q.fr (Nat.le_of_lt HG.out));have hfL:(fns'.length:Int)≤9223372036854775807:=by have:=Nat.le_trans hf1 hf2;unfold maxLen at this;omega
         have hnL:(s'.nodes.length:Int)≤1000000:=by have:=HN.out;have e:(fns',s').2.nodes.length=s'.nodes.length:=rfl;omega
         have FB:=hD (show Blk (w4.setCell ⟨T9,0,none⟩ (.slice NA s'.nodes.length NC)) T9 26 #[.slice NA s'.nodes.length NC,.slice FA fns'.length FC] from S4.out.b9.setCell 0 _);have TB:=hD (show Blk (w4.setCell ⟨T9,0,none⟩ (.slice NA s'.nodes.length NC)) w.heap.size 26 #[.slice none 0 0,.slice none 0 0] from S4.out.bt.far (p:=⟨T9,0,none⟩) S4.out.ne _);have TR2:=hD (TR.out.far (M:=bZ T9) ((Fr.refl _ w4).setCell ⟨T9,0,none⟩ (.slice NA s'.nodes.length NC) (fun _=>rfl)) (fun k hk=>by rw[show k=T9 from hk];exact⟨_,S4.out.b9⟩));have FE2:=hD (show Fr nob w (w4.setCell ⟨T9,0,none⟩ (.slice NA s'.nodes.length NC)) from FE.out.setCell ⟨T9,0,none⟩ _ (fun h=>by have h':T9<w.heap.size:=h;have:=S4.out.h9;have h3:=F1.out.size;simp at h3;omega));have HMY:=hD (aLq TR2.out.fns TR2.out.pars TR2.out.samef);obtain⟨b,hb⟩:∃b,fns'.any wR=b:=⟨_,rfl⟩;rw[hb] at HMY;have l3:(300:Int)<(s'.nodes.length:Int)∨(s'.nodes.length:Int)≤300:=by omega
         have l6:(6:Int)<(fns'.length:Int)∨(fns'.length:Int)≤6:=by omega
         have HRB:=hD (show r=if 300<s'.nodes.length∨6<fns'.length∨b=true then .bad 0 4 else .good s'.nodes fns' from by rw[HRR2.out,←hb];rfl);clear hon hbel hsame hnew hf1 hf2 TR HRR2 hb FE;generalize s'.nodes.length=nl at *;generalize fns'.length=fl at *;go_wp2_with fail
         refine HMY.out.mono ?_;rintro e w5 ⟨rfl,hf5⟩;have FB5:=hD (FB.out.fr hf5 (fun x=>x));have TB5:=hD (TB.out.fr hf5 (fun x=>x));have TR5:=hD (TR2.out.far hf5 (fun k hk=>hk.elim));have FE5:=hD (FE2.out.tr hf5);clear hf5 t0 u0 u1 hg c5 c6 cn h9l he he2 TR2 FB TB FE2;have a0:=FB5.out.cell 0;have a1:=FB5.out.cell 1;have t0:=TB5.out.frozen 0;have t1:=TB5.out.frozen 1;have u0:=TB5.out.cell 0;have u1:=TB5.out.cell 1;have hTl:=TB5.out.lt;simp at a0 a1 u0 u1
         cases b with
         | true=>
          have HR2:=hD (show r = .bad 0 4 by rw[HRB.out,if_pos (.inr (.inr rfl))]);go_wp2_with fail
          clear t0 t1 u0 u1 hTl a0 a1;have hB2:=((TB5.out.setCell 0 (.slice none 0 0)).setCell 1 (.slice none 0 0));have F2:=hD (show Fr nob w (((w5.setCell ⟨w.heap.size,0,none⟩ (.slice none 0 0)).setCell ⟨w.heap.size,1,none⟩ (.slice none 0 0))) from ((FE5.out.setCell ⟨w.heap.size,0,none⟩ (.slice none 0 0) (fun h=>absurd h (Nat.lt_irrefl _))).setCell ⟨w.heap.size,1,none⟩ (.slice none 0 0) (fun h=>absurd h (Nat.lt_irrefl _))));have hB3:Blk (((w5.setCell ⟨w.heap.size,0,none⟩ (.slice none 0 0)).setCell ⟨w.heap.size,1,none⟩ (.slice none 0 0))) w.heap.size 26 #[.slice none 0 0,.slice none 0 0]:=hB2;clear hB2;generalize ((w5.setCell ⟨w.heap.size,0,none⟩ (.slice none 0 0)).setCell ⟨w.heap.size,1,none⟩ (.slice none 0 0))=we at *;have z0:=hB3.cell 0;have z1:=hB3.cell 1;simp at z0 z1
          clear hB3;refine bodyPost_ret (v:= .tuple #[.agg #[.slice none 0 0,.slice none 0 0],.int .i64 0,.int .i64 4]) (by simp[results,Tryz.results25,go_sem,z0,z1]) rfl ⟨by rw[HR2.out];rfl,F2.out⟩
         | false=>
          rcases l3 with l3|l3
          · clear l6
            have HR2:=hD (show r = .bad 0 4 by rw[HRB.out,if_pos (.inl (by omega))]);go_wp2_with fail
            clear t0 t1 u0 u1 hTl a0 a1;have hB2:=((TB5.out.setCell 0 (.slice none 0 0)).setCell 1 (.slice none 0 0));have F2:=hD (show Fr nob w (((w5.setCell ⟨w.heap.size,0,none⟩ (.slice none 0 0)).setCell ⟨w.heap.size,1,none⟩ (.slice none 0 0))) from ((FE5.out.setCell ⟨w.heap.size,0,none⟩ (.slice none 0 0) (fun h=>absurd h (Nat.lt_irrefl _))).setCell ⟨w.heap.size,1,none⟩ (.slice none 0 0) (fun h=>absurd h (Nat.lt_irrefl _))));have hB3:Blk (((w5.setCell ⟨w.heap.size,0,none⟩ (.slice none 0 0)).setCell ⟨w.heap.size,1,none⟩ (.slice none 0 0))) w.heap.size 26 #[.slice none 0 0,.slice none 0 0]:=hB2;clear hB2;generalize ((w5.setCell ⟨w.heap.size,0,none⟩ (.slice none 0 0)).setCell ⟨w.heap.size,1,none⟩ (.slice none 0 0))=we at *;have z0:=hB3.cell 0;have z1:=hB3.cell 1;simp at z0 z1
            clear hB3;refine bodyPost_ret (v:= .tuple #[.agg #[.slice none 0 0,.slice none 0 0],.int .i64 0,.int .i64 4]) (by simp[results,Tryz.results25,go_sem,z0,z1]) rfl ⟨by rw[HR2.out];rfl,F2.out⟩
          · rcases l6 with l6|l6
            · skip
              have HR2:=hD (show r = .bad 0 4 by rw[HRB.out,if_pos (.inr (.inl (by omega)))]);go_wp2_with fail
              clear t0 t1 u0 u1 hTl a0 a1;have hB2:=((TB5.out.setCell 0 (.slice none 0 0)).setCell 1 (.slice none 0 0));have F2:=hD (show Fr nob w (((w5.setCell ⟨w.heap.size,0,none⟩ (.slice none 0 0)).setCell ⟨w.heap.size,1,none⟩ (.slice none 0 0))) from ((FE5.out.setCell ⟨w.heap.size,0,none⟩ (.slice none 0 0) (fun h=>absurd h (Nat.lt_irrefl _))).setCell ⟨w.heap.size,1,none⟩ (.slice none 0 0) (fun h=>absurd h (Nat.lt_irrefl _))));have hB3:Blk (((w5.setCell ⟨w.heap.size,0,none⟩ (.slice none 0 0)).setCell ⟨w.heap.size,1,none⟩ (.slice none 0 0))) w.heap.size 26 #[.slice none 0 0,.slice none 0 0]:=hB2;clear hB2;generalize ((w5.setCell ⟨w.heap.size,0,none⟩ (.slice none 0 0)).setCell ⟨w.heap.size,1,none⟩ (.slice none 0 0))=we at *;have z0:=hB3.cell 0;have z1:=hB3.cell 1;simp at z0 z1
              clear hB3;refine bodyPost_ret (v:= .tuple #[.agg #[.slice none 0 0,.slice none 0 0],.int .i64 0,.int .i64 4]) (by simp[results,Tryz.results25,go_sem,z0,z1]) rfl ⟨by rw[HR2.out];rfl,F2.out⟩
            · skip
              have HR2:=hD (show r = .good s'.nodes fns' by rw[HRB.out,if_neg (fun h=>h.elim (fun h=>by omega) (fun h=>h.elim (fun h=>by omega) (fun h=>by cases h)))]);go_wp2_with fail
              clear t0 t1 u0 u1 hTl a0 a1;have hB2:=((TB5.out.setCell 0 (.slice NA nl NC)).setCell 1 (.slice FA fl FC));have F2:=hD (show Fr nob w ((w5.setCell ⟨w.heap.size,0,none⟩ (.slice NA nl NC)).setCell ⟨w.heap.size,1,none⟩ (.slice FA fl FC)) from ((FE5.out.setCell ⟨w.heap.size,0,none⟩ _ (fun h=>absurd h (Nat.lt_irrefl _))).setCell ⟨w.heap.size,1,none⟩ _ (fun h=>absurd h (Nat.lt_irrefl _))));have hone:Fr (bZ w.heap.size) w5 ((w5.setCell ⟨w.heap.size,0,none⟩ (.slice NA nl NC)).setCell ⟨w.heap.size,1,none⟩ (.slice FA fl FC)):=by
               have h1:Fr (bZ w.heap.size) w5 (w5.setCell ⟨w.heap.size,0,none⟩ (.slice NA nl NC)):=(Fr.refl _ _).setCell _ _ (fun _=>rfl);exact h1.setCell ⟨w.heap.size,1,none⟩ _ (fun _=>rfl)
              have TR3:=hD (TR5.out.far hone (fun k hk=>by rw[show k=w.heap.size from hk];exact⟨_,TB5.out⟩));have hB3:Blk ((w5.setCell ⟨w.heap.size,0,none⟩ (.slice NA nl NC)).setCell ⟨w.heap.size,1,none⟩ (.slice FA fl FC)) w.heap.size 26 #[.slice NA nl NC,.slice FA fl FC]:=hB2;clear hB2 hone;generalize (w5.setCell ⟨w.heap.size,0,none⟩ (.slice NA nl NC)).setCell ⟨w.heap.size,1,none⟩ (.slice FA fl FC)=we at *;have z0:=hB3.cell 0;have z1:=hB3.cell 1;simp at z0 z1
              clear hB3;refine bodyPost_ret (v:= .tuple #[.agg #[.slice NA nl NC,.slice FA fl FC],.int .i64 0,.int .i64 0]) (by simp[results,Tryz.results25,go_sem,z0,z1]) rfl ⟨by rw[HR2.out];exact⟨_,_,lvs,pvs,rfl,TR3.out⟩,F2.out⟩
       · rw[if_neg hk] at hr
         simp only[bS] at hr;obtain⟨fs,hfs,hr⟩:=hr;have hle:=aU (kF _ _ _ _ hr);have HN2:=hD (show fs.2.nodes.length+20*k+40≤1000000 by have:=HN.out;have:=HFU.out;have:=HK.out;omega);have HKI:=hD (show bA ts 0 s'=false by simpa using hk);have HFS:=hD hfs;have HR2:=hD hr;have HB2:=hD (show fns'.length≤40000 by have:=HK.out;have:=HFU.out;omega);have H0:=hD h0;clear hr hk h0 hfs HR hle;go_wp2_with fail
         refine (S.out.q.here.kind 0 (b:=false) HKI.out).mono ?_;rintro e w4 ⟨rfl,h4⟩;have S4:=hD (S.out.to h4);clear h4 hg c5 c6 S he he2;have HFN:=aGp SG.out (S4.out.q.here.no (fR w4).drew) H0.out HFS.out HN2.out;have HFN:=hD HFN;obtain⟨FA,FC,rfl,hf1,hf2⟩:=S4.out.own.cap;obtain⟨m,hm⟩:∃m,fns'.length=m:=⟨_,rfl⟩;rw[hm] at S4 HB2;have HMM:=hD hm;have CK:=hD (show ∀wx:World,∀v:Value,Blk wx T9 26 #[.slice none 0 0,v]→wx.cell? ⟨T9,1,none⟩=some v from fun wx v h1=>by rw[h1.cell 1];rfl);have k0:=CK.out _ _ S4.out.b9;have HK2:=hD (show 10*k+1≤10*n0+1 by have:=HK.out;omega);clear hf1 hf2 hm;go_wp2_with fail
         go_region_law (first
          | (go_simp;go_at_call 51;go_loud (refine HFN.out.mono ?_);go_loud (rintro e w5 ⟨pv,x,rfl,hx,h5,hpo,hpn⟩);go_loud (obtain⟨PA,PC,rfl,_,_⟩:=hpo.cap);go_loud (have HX5:=hD hx);go_loud (have HPO:=hD hpo);go_loud (have S5:=hD (S4.out.to (h5.more HK2.out)));go_loud (have K5:=hD (CK.out _ _ S5.out.b9));go_loud (have K6:=hD (CK.out _ _ (S5.out.b9.alloc (.cells #[.string (bs fs.1.name),.int .i64 fs.1.line,.slice PA fs.1.params.length PC,.int .i64 fs.1.ret,.int .i64 x] 48))));have k2:=K5.out;have k3:=K6.out;clear hx h5 hpo hpn)
          | (refine step_append (v:= .slice FA m FC) (n:=m) (m:=1) (xs:=bY fns' pvs) (news:=[.string (bs fs.1.name),.int .i64 fs.1.line,.slice PA fs.1.params.length PC,.int .i64 fs.1.ret,.int .i64 x]) (by rfl) _ _ (by rfl) aRp (by rfl) (by rfl) (by have h9:=S5.out.own;rw[HMM.out] at h9;exact h9.alloc _) (Rd.fC (n:=1) (cs:=[.string (bs fs.1.name),.int .i64 fs.1.line,.slice PA fs.1.params.length PC,.int .i64 fs.1.ret,.int .i64 x]) (Blk.new _ _ _) rfl (by decide)) (by simp[Value.oneCell']) (by have h9:=HB2.out;omega) (by have h9:=HB2.out;unfold maxLen;omega) ?_;intro A6 c6 w6 ho6 hf6 hv6;go_loud (have S6:=hD (S5.out.app (f:=⟨fs.1.name,fs.1.line,fs.1.params,fs.1.ret,x⟩) HPO.out (by rw[HMM.out];exact ho6) hf6 hv6));go_loud (have D6:=hD ((S5.out.b9.alloc (.cells #[.string (bs fs.1.name),.int .i64 fs.1.line,.slice PA fs.1.params.length PC,.int .i64 fs.1.ret,.int .i64 x] 48)).fr hf6 (fun hm=>(S5.out.own.alloc (.cells #[.string (bs fs.1.name),.int .i64 fs.1.line,.slice PA fs.1.params.length PC,.int .i64 fs.1.ret,.int .i64 x] 48)).aG (S5.out.b9.alloc (.cells #[.string (bs fs.1.name),.int .i64 fs.1.line,.slice PA fs.1.params.length PC,.int .i64 fs.1.ret,.int .i64 x] 48)) (by decide) hm)));have z0:=CK.out _ _ D6.out;have z1:=D6.out.frozen 1;have z2:=D6.out.lt;clear ho6 hf6 hv6))
         all_goals
          go_wp2_with fail
          go_roundg k
          case measure=>omega
          case rel=>exact⟨fns'++[fs.1],_,_,fs.2,_,hD (by have:=HK.out;rw[List.length_append];simp;omega),S6,HR2,hD (fun e=>by rw[HX5.out e])⟩
theorem aAg.no {w w':World} (h:aAg w) (f:Fr nob w w'):aAg w':=⟨h.lex.fr f,h.most.imp fun m hm=>hm.fr f (fun x=>x)⟩
open Pw
def kY (w:World) (en:Ending):gP→Prop
 | .bad p e=>en = .returned (.tuple #[aPl,.int .i64 (p:Nat),.int .i64 (e:Nat)])∧e≠0
 | .good p=>∃nv fv tv sv uv zv lvs pvs,en = .returned (.tuple #[.agg #[nv,fv,tv,sv,uv,zv],.int .i64 0,.int .i64 0])∧nE w nv fv tv sv uv zv lvs pvs p
theorem kY.no {w w':World}{en:Ending}{r:gP} (h:kY w en r) (f:Fr nob w w'):kY w' en r:=by
 cases r with
 | bad p e=>exact h
 | good p=>
  obtain⟨nv,fv,tv,sv,uv,zv,lvs,pvs,he,hp⟩:=h;exact⟨nv,fv,tv,sv,uv,zv,lvs,pvs,he,hp.no f⟩
theorem Blk.sixth {w:World}{T t:Nat}{a b c d e f:Value} (h:Blk w T t #[a,b,c,d,e,f]):
  w.cell? ⟨T,0,none⟩=some a∧w.cell? ⟨T,1,none⟩=some b∧w.cell? ⟨T,2,none⟩=some c∧w.cell? ⟨T,3,none⟩=some d∧w.cell? ⟨T,4,none⟩=some e∧w.cell? ⟨T,5,none⟩=some f ∧
  w.frozen? ⟨T,0,none⟩=false∧w.frozen? ⟨T,1,none⟩=false∧w.frozen? ⟨T,2,none⟩=false∧w.frozen? ⟨T,3,none⟩=false∧w.frozen? ⟨T,4,none⟩=false∧w.frozen? ⟨T,5,none⟩=false:=
 ⟨(h.cell 0).trans rfl,(h.cell 1).trans rfl,(h.cell 2).trans rfl,(h.cell 3).trans rfl,(h.cell 4).trans rfl,(h.cell 5).trans rfl,h.frozen 0,h.frozen 1,h.frozen 2,h.frozen 3,h.frozen 4,h.frozen 5⟩
theorem Blk.aFp {w:World}{T t:Nat}{a b c d e f a' b' c' d' e' f':Value} (h:Blk w T t #[a,b,c,d,e,f]):
   Blk ((((((w.setCell ⟨T,0,none⟩ a').setCell ⟨T,1,none⟩ b').setCell ⟨T,2,none⟩ c').setCell ⟨T,3,none⟩ d').setCell ⟨T,4,none⟩ e').setCell ⟨T,5,none⟩ f') T t #[a',b',c',d',e',f']:=
 (((((h.setCell 0 a').setCell 1 b').setCell 2 c').setCell 3 d').setCell 4 e').setCell 5 f'
theorem yR (src:ByteArray) (w:World) (hv:aAg w) (hs:src.size≤281474976710656){r:gP} (hr:eX src.data.toList=some r):
  Calls Tryz.prog 28 #[.string src] w fun en w'=>kY w' en r∧Fr nob w w':=by
 unfold eX at hr;rw[mS] at hr;obtain⟨r0,hr0,hr⟩:=hr;have HP:=hD (fun w' (f:Fr nob w w')=>aLe src w' hs (hv.no f) hr0);have B0:=hD (Blk.new w 29 #[.slice none 0 0,.slice none 0 0,.slice none 0 0,.slice none 0 0,.slice none 0 0,.slice none 0 0]);have F0:=hD (show Fr nob w (w.alloc (.cells #[.slice none 0 0,.slice none 0 0,.slice none 0 0,.slice none 0 0,.slice none 0 0,.slice none 0 0] 29)) from (Fr.refl _ w).alloc _);clear hs hv;cases r0 with
 | bad p er=>
  have he:er≠0:=by have:=sQ hr0;omega
  have hr:gP.bad p er=r:=hr;subst hr;have heb:((er:Int)==0)=false:=bN.2 (by omega);have hne:((er:Int) != 0)=true:=by rw[bne,heb];rfl
  have HE:=hD he;clear hr0 he;go_enter Tryz.func28,Tryz.ntmps28;go_wp2_with fail
  generalize w.alloc (.cells #[.slice none 0 0,.slice none 0 0,.slice none 0 0,.slice none 0 0,.slice none 0 0,.slice none 0 0] 29)=w1 at *;generalize hT:w.heap.size=T at *;have HT:=hD hT;clear hT;refine (HP.out w1 F0.out).mono ?_;rintro en w2 ⟨hpa,hf⟩;have hpa:en = .returned (.tuple #[.agg #[.slice none 0 0,.slice none 0 0],.int .i64 p,.int .i64 er]):=hpa;subst hpa;have B2:=hD (B0.out.fr hf (fun x=>x));have F2:=hD (F0.out.tr hf);clear hf;have B3:=hD ((B2.out.alloc (.cells #[.slice none 0 0,.slice none 0 0] 26)));have F3:=hD (F2.out.alloc (.cells #[.slice none 0 0,.slice none 0 0] 26));obtain⟨r0,r1,r2,r3,r4,r5,f0,f1,f2,f3,f4,f5⟩:=B3.out.sixth;have tn:¬T=w2.heap.size:=by have:=B2.out.lt;omega
  have B4:=hD (B3.out.aFp (a':= .slice none 0 0) (b':= .slice none 0 0) (c':= .slice none 0 0) (d':= .slice none 0 0) (e':= .slice none 0 0) (f':= .slice none 0 0));have F4:=hD (aFo (Nat.le_of_eq HT.out) F3.out (.slice none 0 0) (.slice none 0 0) (.slice none 0 0) (.slice none 0 0) (.slice none 0 0) (.slice none 0 0));go_wp2_with fail
  all_goals
   clear r0 r1 r2 r3 r4 r5 f0 f1 f2 f3 f4 f5;generalize ((((((w2.alloc (.cells #[.slice none 0 0,.slice none 0 0] 26)).setCell ⟨T,0,none⟩ (.slice none 0 0)).setCell ⟨T,1,none⟩ (.slice none 0 0)).setCell ⟨T,2,none⟩ (.slice none 0 0)).setCell ⟨T,3,none⟩ (.slice none 0 0)).setCell ⟨T,4,none⟩ (.slice none 0 0)).setCell ⟨T,5,none⟩ (.slice none 0 0)=wz at *
  obtain⟨z0,z1,z2,z3,z4,z5,_⟩:=B4.out.sixth;go_wp2_with fail
  refine bodyPost_ret (v:= .tuple #[.agg #[.slice none 0 0,.slice none 0 0,.slice none 0 0,.slice none 0 0,.slice none 0 0,.slice none 0 0],.int .i64 p,.int .i64 er]) (by simp[results,Tryz.results28,go_sem,z0,z1,z2,z3,z4,z5]) rfl ⟨⟨rfl,HE.out⟩,by first|exact F4.out|exact F4.out.drew⟩
 | good ns fs=>
  have TI:=kP hr0;have HR:=hD hr;have HC:=hD (fun (w':World) (NA FA:Option Addr) (NC FC:Nat) (lvs pvs:List Value) (ht:dH 0 w' (.slice NA ns.length NC) (.slice FA fs.length FC) lvs pvs ns fs)=>aDu ht TI.ok TI.rows);have HLT:=hD (fun e p (h:dW ns fs = .bad e p)=>aMn TI.ok h);have hn3:(ns.length:Int)≤300:=by have:=TI.ok.few;omega
  clear hr0 hr TI;go_enter Tryz.func28,Tryz.ntmps28;go_wp2_with fail
  generalize w.alloc (.cells #[.slice none 0 0,.slice none 0 0,.slice none 0 0,.slice none 0 0,.slice none 0 0,.slice none 0 0] 29)=w1 at *;generalize hT:w.heap.size=T at *;have HT:=hD hT;clear hT;refine (HP.out w1 F0.out).mono ?_;rintro en w2 ⟨⟨nv,fv,lvs,pvs,rfl,ht⟩,hf⟩;obtain⟨NA,NC,rfl,-,-⟩:=ht.nodes.cap;obtain⟨FA,FC,rfl,-,-⟩:=ht.fns.cap;have TT:=hD (ht.zero.no ((fR w2).alloc (.cells #[.slice NA ns.length NC,.slice FA fs.length FC] 26)));have B2:=hD ((B0.out.fr hf (fun x=>x)).alloc (.cells #[.slice NA ns.length NC,.slice FA fs.length FC] 26));have F2:=hD ((F0.out.tr hf).alloc (.cells #[.slice NA ns.length NC,.slice FA fs.length FC] 26));have X2:=hD (Blk.new w2 26 #[.slice NA ns.length NC,.slice FA fs.length FC]);have tn:=hD (show T<w2.heap.size from (B0.out.fr hf (fun x=>x)).lt);clear hf ht;go_wp2_with fail
  generalize w2.alloc (.cells #[.slice NA ns.length NC,.slice FA fs.length FC] 26)=w3 at *;generalize w2.heap.size=X at *;refine (HC.out w3 NA FA NC FC lvs pvs TT.out).mono ?_;rintro en w4 ⟨hck,hf⟩;have B4:=hD (B2.out.fr hf (fun x=>x));have X4:=hD (X2.out.fr hf (fun x=>x));have F4:=hD (F2.out.tr hf);have T4:=hD (TT.out.no hf);clear hf B2 X2 F2 TT;cases hc:dW ns fs with
  | bad e x=>
   rw[hc] at hck;obtain⟨he,he0,he9⟩:=hck;have he:en = .returned (.tuple #[.agg #[.slice none 0 0,.slice none 0 0,.slice none 0 0,.slice none 0 0,.slice none 0 0,.slice none 0 0],.int .i64 (x:Nat),.int .i64 (e:Nat)]):=he;subst he;have B5:=hD (B4.out.alloc (.cells #[.slice none 0 0,.slice none 0 0,.slice none 0 0,.slice none 0 0,.slice none 0 0,.slice none 0 0] 29));have X5:=hD (X4.out.alloc (.cells #[.slice none 0 0,.slice none 0 0,.slice none 0 0,.slice none 0 0,.slice none 0 0,.slice none 0 0] 29));have F5:=hD (F4.out.alloc (.cells #[.slice none 0 0,.slice none 0 0,.slice none 0 0,.slice none 0 0,.slice none 0 0,.slice none 0 0] 29));have T5:=hD (T4.out.no ((fR w4).alloc (.cells #[.slice none 0 0,.slice none 0 0,.slice none 0 0,.slice none 0 0,.slice none 0 0,.slice none 0 0] 29)));have heb:((e:Int)==0)=false:=bN.2 (by omega);have hne:((e:Int) != 0)=true:=by rw[bne,heb];rfl
   have n1:¬T=w4.heap.size:=by have:=B4.out.lt;omega
   have n2:¬X=w4.heap.size:=by have:=X4.out.lt;omega
   have n3:¬T=X:=by have:=tn.out;omega
   have HE:=hD he0;obtain⟨r0,r1,r2,r3,r4,r5,f0,f1,f2,f3,f4,f5⟩:=B5.out.sixth;have B6:=hD (B5.out.aFp (a':= .slice none 0 0) (b':= .slice none 0 0) (c':= .slice none 0 0) (d':= .slice none 0 0) (e':= .slice none 0 0) (f':= .slice none 0 0));have F6:=hD (aFo (Nat.le_of_eq HT.out) F5.out (.slice none 0 0) (.slice none 0 0) (.slice none 0 0) (.slice none 0 0) (.slice none 0 0) (.slice none 0 0));by_cases h44:e=44
   · subst h44
     have HS:=hD (show gP.bad 0 44=r from by have:=HR.out;simp only[hc] at this;exact this);clear hc he0 he9 heb hne;go_wp2_with fail
     all_goals
      clear r0 r1 r2 r3 r4 r5 f0 f1 f2 f3 f4 f5;generalize ((((((w4.alloc (.cells #[.slice none 0 0,.slice none 0 0,.slice none 0 0,.slice none 0 0,.slice none 0 0,.slice none 0 0] 29)).setCell ⟨T,0,none⟩ (.slice none 0 0)).setCell ⟨T,1,none⟩ (.slice none 0 0)).setCell ⟨T,2,none⟩ (.slice none 0 0)).setCell ⟨T,3,none⟩ (.slice none 0 0)).setCell ⟨T,4,none⟩ (.slice none 0 0)).setCell ⟨T,5,none⟩ (.slice none 0 0)=wz at *
     obtain⟨z0,z1,z2,z3,z4,z5,_⟩:=B6.out.sixth;go_wp2_with fail
     refine bodyPost_ret (v:= .tuple #[.agg #[.slice none 0 0,.slice none 0 0,.slice none 0 0,.slice none 0 0,.slice none 0 0,.slice none 0 0],.int .i64 0,.int .i64 44]) (by simp[results,Tryz.results28,go_sem,z0,z1,z2,z3,z4,z5]) rfl ⟨by rw[←HS.out];exact⟨rfl,by decide⟩,by first|exact F6.out|exact F6.out.drew⟩
   · have hx:=HLT.out e x hc h44
     obtain⟨nd,hnd⟩:∃nd,ns[x]?=some nd:=⟨_,gE hx⟩;have HS:=hD (show gP.bad nd.line e=r from by have:=HR.out;simp only[hc,if_neg h44,hnd] at this;exact this);have hx2:(x:Int)<(ns.length:Int):=by omega
     have h4b:((e:Int)==44)=false:=bN.2 (by omega);obtain⟨nb,nc,lv,e',-,-,-,y1,-⟩:=T5.out.node hnd;injection e' with e1 e2 e3;subst e1;have n4:¬nb=T:=fun e=>by
      have h1:=T5.out.nodes.aG B5.out (by decide);rw[bF (by omega) T5.out.nodes.oU.1,e] at h1;exact h1 rfl
     have x0:=(X5.out.cell 0).trans rfl;clear hc he0 he9 hnd hx h44 e2 e3;go_wp2_with fail
     go_region_law (fail)
     all_goals
      clear r0 r1 r2 r3 r4 r5 f0 f1 f2 f3 f4 f5;generalize ((((((w4.alloc (.cells #[.slice none 0 0,.slice none 0 0,.slice none 0 0,.slice none 0 0,.slice none 0 0,.slice none 0 0] 29)).setCell ⟨T,0,none⟩ (.slice none 0 0)).setCell ⟨T,1,none⟩ (.slice none 0 0)).setCell ⟨T,2,none⟩ (.slice none 0 0)).setCell ⟨T,3,none⟩ (.slice none 0 0)).setCell ⟨T,4,none⟩ (.slice none 0 0)).setCell ⟨T,5,none⟩ (.slice none 0 0)=wz at *;obtain⟨z0,z1,z2,z3,z4,z5,_⟩:=B6.out.sixth;go_wp2_with fail
      refine bodyPost_ret (v:= .tuple #[.agg #[.slice none 0 0,.slice none 0 0,.slice none 0 0,.slice none 0 0,.slice none 0 0,.slice none 0 0],.int .i64 nd.line,.int .i64 e]) (by simp[results,Tryz.results28,go_sem,z0,z1,z2,z3,z4,z5]) rfl ⟨by rw[←HS.out];exact⟨rfl,HE.out⟩,by first|exact F6.out|exact F6.out.drew⟩
  | good p=>
   rw[hc] at hck;obtain⟨tv,sv,uv,zv,rfl,hp⟩:=hck;have HS:=hD (show gP.good p=r from by have:=HR.out;simp only[hc] at this;exact this);obtain⟨TA,TC,rfl,-,-⟩:=hp.types.cap;obtain⟨SA,SC,rfl,-,-⟩:=hp.slots.cap;obtain⟨UA,UC,rfl,-,-⟩:=hp.fn.cap;obtain⟨ZA,ZC,rfl,-,-⟩:=hp.sizes.cap;generalize hl1:p.types.length=l1 at *;generalize hl2:p.slots.length=l2 at *;generalize hl3:p.fn.length=l3 at *;generalize hl4:p.sizes.length=l4 at *;have B5:=hD (B4.out.alloc (.cells #[.slice NA ns.length NC,.slice FA fs.length FC,.slice TA l1 TC,.slice SA l2 SC,.slice UA l3 UC,.slice ZA l4 ZC] 29));have F5:=hD (F4.out.alloc (.cells #[.slice NA ns.length NC,.slice FA fs.length FC,.slice TA l1 TC,.slice SA l2 SC,.slice UA l3 UC,.slice ZA l4 ZC] 29));have P5:=hD (hp.no ((fR w4).alloc (.cells #[.slice NA ns.length NC,.slice FA fs.length FC,.slice TA l1 TC,.slice SA l2 SC,.slice UA l3 UC,.slice ZA l4 ZC] 29)));have n1:¬T=w4.heap.size:=by have:=B4.out.lt;omega
   obtain⟨r0,r1,r2,r3,r4,r5,f0,f1,f2,f3,f4,f5⟩:=B5.out.sixth;have B6:=hD (B5.out.aFp (a':= .slice NA ns.length NC) (b':= .slice FA fs.length FC) (c':= .slice TA l1 TC) (d':= .slice SA l2 SC) (e':= .slice UA l3 UC) (f':= .slice ZA l4 ZC));have F6:=hD (aFo (Nat.le_of_eq HT.out) F5.out (.slice NA ns.length NC) (.slice FA fs.length FC) (.slice TA l1 TC) (.slice SA l2 SC) (.slice UA l3 UC) (.slice ZA l4 ZC));have P6:=hD (P5.out.aRn B5.out (Fr.six (w4.alloc (.cells #[.slice NA ns.length NC,.slice FA fs.length FC,.slice TA l1 TC,.slice SA l2 SC,.slice UA l3 UC,.slice ZA l4 ZC] 29)) T (.slice NA ns.length NC) (.slice FA fs.length FC) (.slice TA l1 TC) (.slice SA l2 SC) (.slice UA l3 UC) (.slice ZA l4 ZC)));clear hc hp hl1 hl2 hl3 hl4;go_wp2_with fail
   all_goals
     clear r0 r1 r2 r3 r4 r5 f0 f1 f2 f3 f4 f5;generalize ((((((w4.alloc (.cells #[.slice NA ns.length NC,.slice FA fs.length FC,.slice TA l1 TC,.slice SA l2 SC,.slice UA l3 UC,.slice ZA l4 ZC] 29)).setCell ⟨T,0,none⟩ (.slice NA ns.length NC)).setCell ⟨T,1,none⟩ (.slice FA fs.length FC)).setCell ⟨T,2,none⟩ (.slice TA l1 TC)).setCell ⟨T,3,none⟩ (.slice SA l2 SC)).setCell ⟨T,4,none⟩ (.slice UA l3 UC)).setCell ⟨T,5,none⟩ (.slice ZA l4 ZC)=wz at *
   obtain⟨z0,z1,z2,z3,z4,z5,_⟩:=B6.out.sixth;go_wp2_with fail
   refine bodyPost_ret (v:= .tuple #[.agg #[.slice NA ns.length NC,.slice FA fs.length FC,.slice TA l1 TC,.slice SA l2 SC,.slice UA l3 UC,.slice ZA l4 ZC],.int .i64 0,.int .i64 0]) (by simp[results,Tryz.results28,go_sem,z0,z1,z2,z3,z4,z5]) rfl ⟨by rw[←HS.out];exact⟨_,_,_,_,_,_,_,_,rfl,by first|exact P6.out|exact P6.out.no ((fR _).drew)⟩,by first|exact F6.out|exact F6.out.drew⟩
structure aQp where
 op:Nat
 a:Int
 b:Nat
 s:List UInt8
 deriving DecidableEq
section
variable (p:fK)
def aKo (x:Nat):Int:=p.slots.getD x (-1)
def aNj (x:Nat):Nat:=p.types.getD x 0
section
variable (ex:Nat→Nat→List aQp)
end
section
variable (ex:Nat→Nat→List aQp) (bl:Nat→Nat→List aQp)
end
end
def tyK (ty:Nat→Nat) (nd:aF) (i:Nat):Nat:=(nd.l[i]?.map ty).getD 0
theorem vS {ty ty':Nat→Nat}{nd:aF} (he:∀x∈nd.l,ty x=ty' x) (i:Nat):tyK ty nd i=tyK ty' nd i:=by
 unfold tyK;cases h:nd.l[i]? with
 | none=>rfl
 | some x=>show ty x=ty' x;exact he x (List.mem_of_getElem? h)
def KTy (fs:List aD) (ty:Nat→Nat) (nd:aF) (t:Nat):Prop:=
 if nd.kind=1∨nd.kind=19 then t=1
 else if nd.kind=5∨nd.kind=7 then t=1∧tyK ty nd 0=1
 else if nd.kind=6 then t=1∧(tyK ty nd 0=3∨tyK ty nd 0=4)
 else if nd.kind=2 then t=2
 else if nd.kind=8 then t=2∧tyK ty nd 0=2
 else if nd.kind=3 then t=3
 else if nd.kind=20 then t=4∧tyK ty nd 0=1
 else if nd.kind=9 then 1≤t∧t≤3∧tyK ty nd 0=tyK ty nd 1∧tyK ty nd 0≤3∧t=iI nd.name (tyK ty nd 0) (tyK ty nd 1)
 else if nd.kind=4 then 1≤t∧t≤4
 else if nd.kind=21 then ∃j f,findF fs nd.name=some j∧fs[j]?=some f∧nd.l.map ty=f.params.map (·.2)∧t=f.ret
 else if nd.kind=14 then t=0∧1≤tyK ty nd 0∧tyK ty nd 0≤3
 else if nd.kind=15∨nd.kind=16 then t=0∧tyK ty nd 0=2
 else if nd.kind=12 then t=0∧tyK ty nd 0=1∧tyK ty nd 1=1
 else t=0
theorem KTy.congr {fs:List aD}{ty ty':Nat→Nat}{nd:aF}{t:Nat} (h:KTy fs ty nd t) (he:∀x∈nd.l,ty x=ty' x):KTy fs ty' nd t:=by
 have h2:nd.l.map ty=nd.l.map ty':=List.map_congr_left he;unfold KTy at h ⊢;rw[←vS he 0,←vS he 1,←h2];exact h
def qU (k:Nat):Bool:=decide (k=4) || decide (k=5) || decide (k=10) || decide (k=11) || decide (k=12)
structure tY (fs:List aD) (k z:Nat) (s:CkS) (y:Nat) (nd:aF):Prop where
 fn:s.fn[y]?=some k
 ty:∃t,s.types[y]?=some t∧KTy fs (fun i=>s.types.getD i 0) nd t
 sl:∃v:Int,s.slots[y]?=some v∧(qU nd.kind=true→0≤v∧v<z)∧(qU nd.kind=false→v = -1)
structure Turns (a b:Nat) (s s':CkS):Prop where
 lt:s'.types.length=s.types.length
 ls:s'.slots.length=s.slots.length
 lf:s'.fn.length=s.fn.length
 out:∀y,(y<a∨b≤y)→s'.types[y]?=s.types[y]?∧s'.slots[y]?=s.slots[y]?∧s'.fn[y]?=s.fn[y]?
theorem Turns.refl (a b:Nat) (s:CkS):Turns a b s s:=⟨rfl,rfl,rfl,fun _ _=>⟨rfl,rfl,rfl⟩⟩
theorem Turns.trans {a b:Nat}{s s1 s2:CkS} (h:Turns a b s s1) (g:Turns a b s1 s2):Turns a b s s2:=
 ⟨g.lt.trans h.lt,g.ls.trans h.ls,g.lf.trans h.lf,fun y hy=>⟨(g.out y hy).1.trans (h.out y hy).1,(g.out y hy).2.1.trans (h.out y hy).2.1,(g.out y hy).2.2.trans (h.out y hy).2.2⟩⟩
theorem Turns.mono {a b a' b':Nat}{s s':CkS} (h:Turns a b s s') (ha:a'≤a) (hb:b≤b'):Turns a' b' s s':=
 ⟨h.lt,h.ls,h.lf,fun y hy=>h.out y (by omega)⟩
theorem Turns.set {x:Nat}{s:CkS} (ts:List Nat) (ss:List Int) (ff:List Nat) (vs:List dL) (z:Nat) (h1:ts=s.types∨∃t,ts=s.types.set x t) (h2:ss=s.slots∨∃t,ss=s.slots.set x t) (h3:ff=s.fn∨∃t,ff=s.fn.set x t):
  Turns x (x+1) s ⟨ts,ss,ff,vs,z⟩:=by
 have key:∀{α:Type} (l l':List α),(l'=l∨∃t,l'=l.set x t)→l'.length=l.length∧∀y,(y<x∨x+1≤y)→l'[y]?=l[y]?:=by
  intro α l l' h;rcases h with rfl|⟨t,rfl⟩
  · exact⟨rfl,fun _ _=>rfl⟩
  · exact⟨List.length_set,fun y hy=>List.getElem?_set_ne (by omega)⟩
 exact⟨(key _ _ h1).1,(key _ _ h2).1,(key _ _ h3).1,fun y hy=>⟨(key _ _ h1).2 y hy,(key _ _ h2).2 y hy,(key _ _ h3).2 y hy⟩⟩
def nW (ns:List aF) (y:Nat):Nat:=(ns[y]?.map (·.kind)).getD 0
def jS (ns:List aF) (a b:Nat):Nat:=(List.range' a (b - a)).countP fun y=>decide (nW ns y=10)
theorem kV (ns:List aF) (a:Nat):jS ns a a=0:=by unfold jS;rw[Nat.sub_self];rfl
theorem mU {ns:List aF}{a b c:Nat} (h1:a≤b) (h2:b≤c):jS ns a c=jS ns a b+jS ns b c:=by
 unfold jS;rw[←List.countP_append];congr 1
 have:=List.range'_append (s:=a) (m:=b - a) (n:=c - b) (step:=1);rw[Nat.one_mul,show a+(b - a)=b by omega,show b - a+(c - b)=c - a by omega] at this;exact this.symm
theorem wT {ns:List aF}{x:Nat}{nd:aF} (h:ns[x]?=some nd):jS ns x (x+1)=if nd.kind=10 then 1 else 0:=by
 unfold jS;rw[show x+1 - x=1 by omega]
 show List.countP _ [x]=_
 rw[List.countP_singleton];unfold nW;rw[h];by_cases hk:nd.kind=10<;>simp[hk]
structure iF (ns:List aF) (a b:Nat) (s:CkS):Prop where
 lt:s.types.length=ns.length
 ls:s.slots.length=ns.length
 lf:s.fn.length=ns.length
 hb:b≤ns.length
 new:∀y,a≤y→y<b→s.types[y]?=some 0∧s.slots[y]?=some (-1)
theorem iF.turn {ns:List aF}{a b a' b':Nat}{s s':CkS} (h:iF ns a b s) (t:Turns a' b' s s') (hd:b'≤a∨b≤a'):iF ns a b s':=
 ⟨t.lt.trans h.lt,t.ls.trans h.ls,t.lf.trans h.lf,h.hb,fun y h1 h2=>⟨(t.out y (by omega)).1.trans (h.new y h1 h2).1,(t.out y (by omega)).2.1.trans (h.new y h1 h2).2⟩⟩
theorem iF.sub {ns:List aF}{a b a' b':Nat}{s:CkS} (h:iF ns a b s) (ha:a≤a') (hb:b'≤b):iF ns a' b' s:=
 ⟨h.lt,h.ls,h.lf,by have:=h.hb;omega,fun y h1 h2=>h.new y (by omega) (by omega)⟩
def gN (s:CkS):Prop:=∀v∈s.vars,1≤v.ty∧v.ty≤4∧v.slot<s.size
structure Did (ns:List aF) (fs:List aD) (k a b:Nat) (s s':CkS):Prop where
 turns:Turns a b s s'
 at_:∀y nd,a≤y→y<b→ns[y]?=some nd→tY fs k s'.size s' y nd
 size:s'.size=s.size+jS ns a b
 lets:∀y nd,a≤y→y<b→ns[y]?=some nd→nd.kind=10→s'.slots[y]?=some ((s.size+jS ns a y:Nat):Int)
section
variable {ns:List aF}{fs:List aD}{k a b c:Nat}{s s0 s1 s2 s':CkS}
theorem tY.keep {z z' y:Nat}{nd:aF} (h:tY fs k z s y nd) (hy:y<b) (hk:∀x∈nd.l,x<y) (t:Turns b c s s') (hz:z≤z'):tY fs k z' s' y nd:=by
 obtain⟨h1,⟨u,h2,h3⟩,v,h4,h5,h6⟩:=h;refine⟨(t.out y (.inl hy)).2.2.trans h1,⟨u,(t.out y (.inl hy)).1.trans h2,h3.congr (fun x hx=>?_)⟩,v,(t.out y (.inl hy)).2.1.trans h4,fun e=>by have:=h5 e;omega,h6⟩
 show s.types.getD x 0=s'.types.getD x 0
 rw[List.getD_eq_getElem?_getD,List.getD_eq_getElem?_getD,(t.out x (.inl (by have:=hk x hx;omega))).1]
theorem Did.nil (ns:List aF) (fs:List aD) (k a:Nat) (s:CkS):Did ns fs k a a s s:=
 ⟨Turns.refl _ _ _,fun y nd h1 h2=>by omega,by rw[kV,Nat.add_zero],fun y nd h1 h2=>by omega⟩
theorem wU (hn:aZ ns){x:Nat}{nd:aF} (hx:ns[x]?=some nd):∀y∈nd.l,y<x:=fun y hy=>by
 have:=aHw (hn x nd hx) y hy;rw[List.length_take] at this;omega
theorem Did.trans (hn:aZ ns) (hab:a≤b) (hbc:b≤c) (h:Did ns fs k a b s s1) (g:Did ns fs k b c s1 s2):Did ns fs k a c s s2:=by
 refine⟨(h.turns.mono (Nat.le_refl _) hbc).trans (g.turns.mono hab (Nat.le_refl _)),fun y nd h1 h2 hy=>?_,by rw[g.size,h.size,mU hab hbc];omega,fun y nd h1 h2 hy hk=>?_⟩
 · by_cases hyb:y<b
   · exact (h.at_ y nd h1 hyb hy).keep hyb (wU hn hy) g.turns (by rw[g.size];omega)
   · exact g.at_ y nd (by omega) h2 hy
 · by_cases hyb:y<b
   · exact (g.turns.out y (.inl hyb)).2.1.trans (h.lets y nd h1 hyb hy hk)
   · rw[g.lets y nd (by omega) h2 hy hk,h.size,mU (ns:=ns) hab (show b≤y by omega),Nat.add_assoc]
theorem Did.node (hn:aZ ns){x:Nat}{nd:aF} (hx:ns[x]?=some nd) (hax:a≤x) (T0:Turns x (x+1) s s0) (z0:s0.size=s.size) (D:Did ns fs k a x s0 s1) (T1:Turns x (x+1) s1 s') (z1:s'.size=s1.size+if nd.kind=10 then 1 else 0)
   (hA:tY fs k s'.size s' x nd) (hL:nd.kind=10→s'.slots[x]?=some (s1.size:Int)):Did ns fs k a (x+1) s s':=by
 refine⟨((T0.mono hax (Nat.le_refl _)).trans (D.turns.mono (Nat.le_refl _) (Nat.le_succ _))).trans (T1.mono hax (Nat.le_refl _)),fun y nd' h1 h2 hy=>?_,by rw[z1,D.size,z0,mU hax (Nat.le_succ x),wT hx];omega,fun y nd' h1 h2 hy hk=>?_⟩
 · by_cases hyx:y<x
   · exact (D.at_ y nd' h1 hyx hy).keep hyx (wU hn hy) T1 (by rw[z1];omega)
   · have:y=x:=by omega
     subst this;rw[hx] at hy;injection hy with hy;subst hy;exact hA
 · by_cases hyx:y<x
   · rw[(T1.out y (.inl hyx)).2.1,D.lets y nd' h1 hyx hy hk,z0]
   · have:y=x:=by omega
     subst this;rw[hx] at hy;injection hy with hy;subst hy;rw[hL hk,D.size,z0]
theorem Did.vars (h:Did ns fs k a b s s') (vs:List dL):Did ns fs k a b s { s' with vars:=vs }:=
 ⟨⟨h.turns.lt,h.turns.ls,h.turns.lf,h.turns.out⟩,fun y nd h1 h2 h3=>⟨(h.at_ y nd h1 h2 h3).fn,(h.at_ y nd h1 h2 h3).ty,(h.at_ y nd h1 h2 h3).sl⟩,h.size,h.lets⟩
theorem aFu (h:Seg ns a [] b):b=a:=by cases h;rfl
theorem aQj {u:Nat} (h:Seg ns a [u] b):∃nd,ns[u]?=some nd∧Seg ns a nd.l u∧b=u+1:=by
 cases h with
 | cons _ _ _ _ nd hx h h2=>exact⟨nd,hx,h,aFu h2⟩
theorem aRt {u v:Nat} (h:Seg ns a [u,v] b):∃n1 n2,ns[u]?=some n1∧Seg ns a n1.l u∧ns[v]?=some n2∧Seg ns (u+1) n2.l v∧b=v+1:=by
 cases h with
 | cons _ _ _ _ nd hx h h2=>
  obtain⟨n2,h3,h4,h5⟩:=aQj h2;exact⟨nd,n2,hx,h,h3,h4,h5⟩
theorem lW {cls:Nat→Bool}{x i:Nat} (h:Kid (ns.take i) cls x){nd:aF} (hx:ns[x]?=some nd):cls nd.kind=true:=by
 obtain⟨c,hc,hk⟩:=h;have:x<(ns.take i).length:=(gK hc);rw[List.getElem?_take] at hc;split at hc
 · rw[hx] at hc;injection hc with hc;subst hc;exact hk
 · cases hc
theorem xH {k:Nat} (h:iQ k=true):nH k=true:=by unfold nH;rw[h];rfl
end
structure aMw (ns:List aF) (fs:List aD) (k a x:Nat) (s s':CkS) (nd:aF) (t:Nat):Prop where
 did:Did ns fs k a (x+1) s s'
 vars:s'.vars=s.vars
 size:s'.size=s.size
 ty:s'.types[x]?=some t
 cls:iQ nd.kind=true→1≤t∧t≤4
 le:t≤4
def aOz (ns:List aF) (fs:List aD) (k:Nat) (ex:Nat→CkS→CkR (Nat×CkS)):Prop:=
 ∀x s t s' nd a,ns[x]?=some nd→nH nd.kind=true→Seg ns a nd.l x→iF ns a (x+1) s→gN s→ex x s = .good (t,s')→aMw ns fs k a x s s' nd t
section
variable {ns:List aF}{fs:List aD}{k a b c:Nat}{s s0 s1 s2 s':CkS}{ex:Nat→CkS→CkR (Nat×CkS)}
theorem gN.eq (h:gN s) (e1:s'.vars=s.vars) (e2:s'.size=s.size):gN s':=fun v hv=>by rw[e2];exact h v (by rw[←e1];exact hv)
theorem getD_some {l:List Nat}{i t:Nat} (h:l[i]?=some t):l.getD i 0=t:=by rw[List.getD_eq_getElem?_getD,h];rfl
theorem aBz (hn:aZ ns) (hex:aOz ns fs k ex):∀{l:List Nat}{a b:Nat}{s s':CkS}{r:List Nat},Seg ns a l b→(∀x∈l,∃nd,ns[x]?=some nd∧iQ nd.kind=true)→iF ns a b s→gN s→dG ex l s = .good (r,s') →
  Did ns fs k a b s s'∧s'.vars=s.vars∧s'.size=s.size∧r=l.map fun i=>s'.types.getD i 0
 | [],a,b,s,s',r,h,_,hf,_,he=>by
  have:=aFu h;subst this;injection he with he;injection he with e1 e2;subst e1;subst e2;exact⟨Did.nil _ _ _ _ _,rfl,rfl,rfl⟩
 | x :: l,a,b,s,s',r,h,hc,hf,hv,he=>by
  cases h with
  | cons _ _ _ _ nd hx h h2=>
   unfold dG at he;obtain⟨q,hq,he⟩:=CkR.bind_eq he;obtain⟨u,hu,he⟩:=CkR.map_eq he;injection he with e1 e2;subst e1;subst e2;obtain⟨nd',hx',hcl⟩:=hc x (List.mem_cons_self ..);rw[hx] at hx';injection hx' with hx';subst hx';have hxb:x+1≤b:=h2.le;have hax:a≤x:=h.le;have o:=hex x s q.1 q.2 nd a hx (xH hcl) h (hf.sub (Nat.le_refl _) hxb) hv hq;have i:=aBz hn hex h2 (fun y hy=>hc y (List.mem_cons_of_mem _ hy)) ((hf.sub (by omega) (Nat.le_refl _)).turn o.did.turns (.inl (Nat.le_refl _))) (hv.eq o.vars o.size) (r:=u.1) (s':=u.2) hu;refine⟨o.did.trans hn (by omega) hxb i.1,i.2.1.trans o.vars,i.2.2.1.trans o.size,?_⟩;rw[List.map_cons,←i.2.2.2];congr 1
   exact (getD_some ((i.1.turns.out x (.inl (Nat.lt_succ_self x))).1.trans o.ty)).symm
theorem tQ (hn:aZ ns){x t:Nat}{nd:aF} (hx:ns[x]?=some nd) (hax:a≤x) (hcl:nd.kind≠10) (T0:Turns x (x+1) s s0) (v0:s0.vars=s.vars) (z0:s0.size=s.size) (D:Did ns fs k a x s0 s1) (v1:s1.vars=s0.vars) (z1:s1.size=s0.size)
   (fr:iF ns a (x+1) s) (hk:KTy fs (fun i=>s1.types.getD i 0) nd t) (hs:∃v:Int,s1.slots[x]?=some v∧(qU nd.kind=true→0≤v∧v<s.size)∧(qU nd.kind=false→v = -1)) (hc:iQ nd.kind=true→1≤t∧t≤4) (hle:t≤4):
   aMw ns fs k a x s { s1 with types:=s1.types.set x t,fn:=s1.fn.set x k } nd t:=by
 have hb:=fr.hb;have l1:x<s1.types.length:=by rw[D.turns.lt,T0.lt,fr.lt];omega
 have l2:x<s1.fn.length:=by rw[D.turns.lf,T0.lf,fr.lf];omega
 have T1:Turns x (x+1) s1 { s1 with types:=s1.types.set x t,fn:=s1.fn.set x k }:=Turns.set _ _ _ _ _ (.inr ⟨t,rfl⟩) (.inl rfl) (.inr ⟨k,rfl⟩);have ht:(s1.types.set x t)[x]?=some t:=by rw[List.getElem?_set_self l1]
 refine⟨Did.node hn hx hax T0 z0 D T1 (by rw[if_neg hcl];rfl) ?_ (fun e=>absurd e hcl),v1.trans v0,z1.trans z0,ht,hc,hle⟩;refine⟨?_,⟨t,ht,hk.congr (fun y hy=>?_)⟩,?_⟩
 · show (s1.fn.set x k)[x]?=some k
   rw[List.getElem?_set_self l2]
 · have:=wU hn hx y hy
   show s1.types.getD y 0=(s1.types.set x t).getD y 0
   rw[List.getD_eq_getElem?_getD,List.getD_eq_getElem?_getD,List.getElem?_set_ne (by omega)]
 · obtain⟨v,h1,h2,h3⟩:=hs
   exact⟨v,h1,fun e=>by have:=h2 e;show 0≤v∧v<(s1.size:Int);rw[z1,z0];exact this,h3⟩
end
section
variable {ns:List aF}{fs:List aD}{k a b c:Nat}{s s0 s1 s2 s':CkS}{ex:Nat→CkS→CkR (Nat×CkS)}
theorem yA (hex:aOz ns fs k ex){u x:Nat} (h:Seg ns a [u] x) (hk:Kid (ns.take x) nH u) (hf:iF ns a x s) (hv:gN s){r:Nat×CkS} (he:ex u s = .good r):
  Did ns fs k a x s r.2∧r.2.vars=s.vars∧r.2.size=s.size∧r.2.types.getD u 0=r.1∧r.1≤4:=by
 obtain⟨nd,hu,h1,rfl⟩:=aQj h;have o:=hex u s r.1 r.2 nd a hu (lW hk hu) h1 hf hv he;exact⟨o.did,o.vars,o.size,getD_some o.ty,o.le⟩
theorem aAn (hex:aOz ns fs k ex){u x:Nat} (h:Seg ns a [u] x) (hk:Kid (ns.take x) iQ u) (hf:iF ns a x s) (hv:gN s){r:Nat×CkS} (he:ex u s = .good r):
  Did ns fs k a x s r.2∧r.2.vars=s.vars∧r.2.size=s.size∧r.2.types.getD u 0=r.1∧1≤r.1∧r.1≤4:=by
 obtain⟨nd,hu,h1,rfl⟩:=aQj h;have hc:=lW hk hu;have o:=hex u s r.1 r.2 nd a hu (xH hc) h1 hf hv he;exact⟨o.did,o.vars,o.size,getD_some o.ty,o.cls hc⟩
theorem aFf (hn:aZ ns) (hex:aOz ns fs k ex){u v x:Nat} (h:Seg ns a [u,v] x) (hk:Kid (ns.take x) iQ u) (hk2:Kid (ns.take x) iQ v) (hf:iF ns a x s) (hv:gN s){r q:Nat×CkS} (he:ex u s = .good r) (he2:ex v r.2 = .good q):
  Did ns fs k a x s q.2∧q.2.vars=s.vars∧q.2.size=s.size∧q.2.types.getD u 0=r.1∧q.2.types.getD v 0=q.1∧(1≤r.1∧r.1≤4)∧1≤q.1∧q.1≤4:=by
 obtain⟨n1,n2,hu,h1,hv2,h2,rfl⟩:=aRt h;have hc:=lW hk hu;have hc2:=lW hk2 hv2;have l1:=h1.le;have l2:=h2.le;have o:=hex u s r.1 r.2 n1 a hu (xH hc) h1 (hf.sub (Nat.le_refl _) (by omega)) hv he;have o2:=hex v r.2 q.1 q.2 n2 (u+1) hv2 (xH hc2) h2 ((hf.sub (a':=u+1) (by omega) (Nat.le_refl _)).turn o.did.turns (.inl (Nat.le_refl _))) (hv.eq o.vars o.size) he2;exact⟨o.did.trans hn (by omega) (by omega) o2.did,o2.vars.trans o.vars,o2.size.trans o.size,getD_some ((o2.did.turns.out u (.inl (Nat.lt_succ_self u))).1.trans o.ty),getD_some o2.ty,o.cls hc,o2.cls hc2⟩
theorem pO {vs:List dL}{name:List UInt8}{v:dL} (h:dR vs name=some v):v∈vs:=List.mem_of_find?_eq_some h
theorem pI {x:Nat}{name:List UInt8}{q:Nat×CkS} (h:dV x name s = .good q):∃v,dR s.vars name=some v∧q=(v.ty,{ s with slots:=s.slots.set x v.slot }):=by
 unfold dV at h;cases hf:dR s.vars name with
 | none=>rw[hf] at h;cases h
 | some v=>rw[hf] at h;injection h with h;exact⟨v,rfl,h.symm⟩
theorem aOr {sg:List UInt8}{a b:Nat} (h:iI sg a b≠0):a=b∧1≤a∧a≤3∧1≤iI sg a b∧iI sg a b≤3:=by
 unfold iI at h ⊢;by_cases e:a≠b
 · rw[if_pos e] at h;exact absurd rfl h
 · rw[if_neg e] at h ⊢
   refine⟨by omega,?_⟩;split at h<;>(try split at h)<;>(try split at h)<;>(try split at h)<;>(try split at h)<;>simp_all<;>omega
theorem xC (hn:aZ ns) (hret:∀f∈fs,f.ret≤4):∀f,aOz ns fs k (gJ ns fs k f)
 | 0=>fun x s t s' nd a hx hcl hseg hf hv he=>by cases he
 | f+1=>fun x s t s' nd a hx hcl hseg hf hv he=>by
  have ih:=xC hn hret f;simp only[gJ,hx] at he;obtain⟨q,hq,he⟩:=CkR.map_eq he;injection he with e1 e2;subst e1;subst e2;generalize gJ ns fs k f=ex at *;have hax:=hseg.le;have hN:=hn x nd hx;have hz:s.slots[x]?=some (-1):=(hf.new x hax (Nat.lt_succ_self x)).2;have hfx:iF ns a x s:=hf.sub (Nat.le_refl _) (Nat.le_succ _);have hlen:x<s.slots.length:=by rw[hf.ls];have:=hf.hb;omega
  have leaf:∀{t:Nat},a=x→nd.kind≠10→KTy fs (fun i=>s.types.getD i 0) nd t→qU nd.kind=false→(1≤t∧t≤4)→aMw ns fs k a x s { s with types:=s.types.set x t,fn:=s.fn.set x k } nd t:=fun {t} e1 h1 h2 h3 h4=>by
   subst e1;exact tQ hn hx (Nat.le_refl _) h1 (Turns.refl _ _ _) rfl rfl (Did.nil _ _ _ _ _) rfl rfl hf h2 ⟨-1,hz,(fun e=>by rw[h3] at e;cases e),fun _=>rfl⟩ (fun _=>h4) h4.2
  have un:∀{u t:Nat} {r:Nat×CkS},nd.l=[u]→Kid (ns.take x) iQ u→ex u s = .good r→nd.kind≠10→qU nd.kind=false→(∀ty:Nat→Nat,ty u=r.1→KTy fs ty nd t)→(1≤t∧t≤4)→aMw ns fs k a x s { r.2 with types:=r.2.types.set x t,fn:=r.2.fn.set x k } nd t:=fun {u t r} e1 h1 h2 h3 h4 h5 h6=>by
   rw[e1] at hseg;obtain⟨o1,o2,o3,o4,o5⟩:=aAn ih hseg h1 hfx hv h2;exact tQ hn hx hax h3 (Turns.refl _ _ _) rfl rfl o1 o2 o3 hf (h5 _ o4) ⟨-1,(o1.turns.out x (.inr (Nat.le_refl _))).2.1.trans hz,(fun e=>by rw[h4] at e;cases e),fun _=>rfl⟩ (fun _=>h6) h6.2
  cases hN with
  | int line n h=>
   simp[dB] at hq
   subst hq;exact leaf (aFu hseg).symm (by simp) (by simp[KTy]) rfl (by simp)
  | input line=>
   simp[dB] at hq
   subst hq;exact leaf (aFu hseg).symm (by simp) (by simp[KTy]) rfl (by simp)
  | bool line n h=>
   simp[dB] at hq
   subst hq;exact leaf (aFu hseg).symm (by simp) (by simp[KTy]) rfl (by simp)
  | text line y=>
   simp[dB] at hq
   subst hq;exact leaf (aFu hseg).symm (by simp) (by simp[KTy]) rfl (by simp)
  | var line y=>
   simp[dB] at hq
   obtain⟨v,hv1,rfl⟩:=pI hq;have h3:=hv v (pO hv1);have e:=aFu hseg;subst e;exact tQ hn hx (Nat.le_refl _) (by simp) (Turns.set _ _ _ _ _ (.inl rfl) (.inr ⟨_,rfl⟩) (.inl rfl)) rfl rfl (Did.nil _ _ _ _ _) rfl rfl hf (by simp[KTy];omega) ⟨v.slot,List.getElem?_set_self hlen,fun _=>by omega,fun e=>by cases e⟩ (fun _=>by show 1≤v.ty∧v.ty≤4;omega) (by show v.ty≤4;omega)
  | index line y u hu=>
   simp[dB] at hq
   obtain⟨t,ht,hq⟩:=CkR.bind_eq hq;obtain⟨r,hr,hq⟩:=CkR.bind_eq hq;obtain⟨v,hv1,rfl⟩:=pI ht;split at hq
   · rename_i hc
     injection hq with hq;subst hq;have h3:=hv v (pO hv1);have T0:Turns x (x+1) s { s with slots:=s.slots.set x (v.slot:Int) }:=Turns.set _ _ _ _ _ (.inl rfl) (.inr ⟨_,rfl⟩) (.inl rfl);obtain⟨o1,o2,o3,o4,o5⟩:=aAn ih hseg hu (hfx.turn T0 (.inr (Nat.le_refl _))) (hv.eq rfl rfl) hr;exact tQ hn hx hax (by simp) T0 rfl rfl o1 o2 o3 hf (by simp[KTy,tyK];rw[←hc.2];simpa using o4) ⟨v.slot,(o1.turns.out x (.inr (Nat.le_refl _))).2.1.trans (List.getElem?_set_self hlen),fun _=>by omega,fun e=>by cases e⟩ (fun _=>by show 1≤1∧1≤4;omega) (by show 1≤4;omega)
   · cases hq
  | len line u hu=>
   simp[dB] at hq
   obtain⟨r,hr,hq⟩:=CkR.bind_eq hq;split at hq
   · rename_i hc
     injection hq with hq;subst hq;exact un (r:=r) rfl hu hr (by simp) rfl (fun ty e=>by simp[KTy,tyK,e,hc]) (by simp)
   · cases hq
  | neg line u hu=>
   simp[dB] at hq
   obtain⟨r,hr,hq⟩:=CkR.bind_eq hq;split at hq
   · rename_i hc
     injection hq with hq;subst hq;exact un (r:=r) rfl hu hr (by simp) rfl (fun ty e=>by simp[KTy,tyK,e,hc]) (by simp)
   · cases hq
  | not line u hu=>
   simp[dB] at hq
   obtain⟨r,hr,hq⟩:=CkR.bind_eq hq;split at hq
   · rename_i hc
     injection hq with hq;subst hq;exact un (r:=r) rfl hu hr (by simp) rfl (fun ty e=>by simp[KTy,tyK,e,hc]) (by simp)
   · cases hq
  | new line u hu=>
   simp[dB] at hq
   obtain⟨r,hr,hq⟩:=CkR.bind_eq hq;split at hq
   · rename_i hc
     injection hq with hq;subst hq;exact un (r:=r) rfl hu hr (by simp) rfl (fun ty e=>by simp[KTy,tyK,e,hc]) (by simp)
   · cases hq
  | bin line y u v hy hu hv2=>
   simp[dB] at hq
   obtain⟨r,hr,hq⟩:=CkR.bind_eq hq;obtain⟨p,hp,hq⟩:=CkR.bind_eq hq;split at hq
   · cases hq
   · rename_i hc
     injection hq with hq;subst hq;obtain⟨o1,o2,o3,o4,o5,o6,o7⟩:=aFf hn ih hseg hu hv2 hfx hv hr hp;obtain⟨b1,b2,b3,b4,b5⟩:=aOr hc;refine tQ hn hx hax (by simp) (Turns.refl _ _ _) rfl rfl o1 o2 o3 hf ?_ ⟨-1,(o1.turns.out x (.inr (Nat.le_refl _))).2.1.trans hz,(fun e=>by cases e),fun _=>rfl⟩ (fun _=>⟨b4,by show iI y r.1 p.1≤4;omega⟩) (by show iI y r.1 p.1≤4;omega)
     show 1≤iI y r.1 p.1∧iI y r.1 p.1≤3∧p.2.types.getD u 0=p.2.types.getD v 0∧p.2.types.getD u 0≤3∧iI y r.1 p.1=iI y (p.2.types.getD u 0) (p.2.types.getD v 0)
     rw[o4,o5];exact⟨b4,b5,b1,b3,rfl⟩
  | call line y l hl=>
   simp[dB,mY] at hq
   cases hF:findF fs y with
   | none=>rw[hF] at hq;cases hq
   | some j=>
     rw[hF] at hq;dsimp only at hq;obtain⟨r,hr,hq⟩:=CkR.bind_eq hq;split at hq
     · rename_i hc1
       split at hq
       · rename_i hc2
         injection hq with hq;subst hq;have hj:j<fs.length:=by
           unfold findF at hF;exact (List.findIdx?_eq_some_iff_getElem.1 hF).1
         have hj2:fs[j]?=some fs[j]:=gE hj;have hcl2:∀z∈l,∃nd,ns[z]?=some nd∧iQ nd.kind=true:=fun z hz=>by
           obtain⟨c,hc,hk⟩:=hl z hz;have hlt:z<(ns.take x).length:=(gK hc);rw[List.getElem?_take] at hc;split at hc
           · exact⟨c,hc,hk⟩
           · cases hc
         obtain⟨o1,o2,o3,o4⟩:=aBz hn ih hseg hcl2 hfx hv hr;refine tQ hn hx hax (by simp) (Turns.refl _ _ _) rfl rfl o1 o2 o3 hf ?_ ⟨-1,(o1.turns.out x (.inr (Nat.le_refl _))).2.1.trans hz,(fun e=>by cases e),fun _=>rfl⟩ (fun e=>by cases e) (by rw[hj2];exact hret _ (List.getElem_mem hj));refine⟨j,fs[j],hF,hj2,?_,?_⟩
         · rw[←o4]
           have:=hc2;rw[hj2] at this;exact this
         · show _=_
           rw[hj2];rfl
       · cases hq
     · cases hq
  | _=>simp[nH,iQ] at hcl
end
section
variable {ns:List aF}{fs:List aD}{k a b c:Nat}{s s0 s1 s2 s':CkS}{ex:Nat→CkS→CkR (Nat×CkS)}{bl:Nat→CkS→CkR CkS}
theorem aAt (hn:aZ ns){x:Nat}{nd:aF} (hx:ns[x]?=some nd) (hax:a≤x) (fr:iF ns a (x+1) s) (T0:Turns x (x+1) s s0) (z0:s0.size=s.size) (t0:s0.types=s.types) (f0:s0.fn=s.fn.set x k) (D:Did ns fs k a x s0 s1)
   (T1:Turns x (x+1) s1 s') (z1:s'.size=s1.size+if nd.kind=10 then 1 else 0) (t1:s'.types=s1.types) (f1:s'.fn=s1.fn) (hk:KTy fs (fun i=>s1.types.getD i 0) nd 0)
   (hs:∃v:Int,s'.slots[x]?=some v∧(qU nd.kind=true→0≤v∧v<s'.size)∧(qU nd.kind=false→v = -1)) (hL:nd.kind=10→s'.slots[x]?=some (s1.size:Int)):Did ns fs k a (x+1) s s':=by
 have hb:=fr.hb;refine Did.node hn hx hax T0 z0 D T1 z1 ⟨?_,⟨0,?_,?_⟩,hs⟩ hL
 · rw[f1,(D.turns.out x (.inr (Nat.le_refl _))).2.2,f0]
   exact List.getElem?_set_self (by rw[fr.lf];omega)
 · rw[t1,(D.turns.out x (.inr (Nat.le_refl _))).1,t0]
   exact (fr.new x hax (Nat.lt_succ_self x)).1
 · rw[t1];exact hk
structure aAd (ns:List aF) (fs:List aD) (k a b:Nat) (s s':CkS):Prop where
 did:Did ns fs k a b s s'
 vars:gN s'
 more:∃m,s'.vars=s.vars++m
def aRi (ns:List aF) (fs:List aD) (k:Nat) (bl:Nat→CkS→CkR CkS):Prop:=
 ∀x s s' nd a,ns[x]?=some nd→nd.kind=18→Seg ns a nd.l x→iF ns a (x+1) s→gN s→bl x s = .good s'→Did ns fs k a (x+1) s s'∧s'.vars=s.vars
theorem gN.up (h:gN s) (e1:s'.vars=s.vars) (e2:s.size≤s'.size):gN s':=fun v hv=>by
 have:=h v (by rw[←e1];exact hv);omega
theorem oV (hn:aZ ns) (hbl:aRi ns fs k bl):∀{l:List Nat}{a b:Nat}{s s':CkS},Seg ns a l b→(∀x∈l,∃nd,ns[x]?=some nd∧nd.kind=18)→iF ns a b s→gN s→iG bl l s = .good s'→Did ns fs k a b s s'∧s'.vars=s.vars
 | [],a,b,s,s',h,_,hf,_,he=>by
  have:=aFu h;subst this;injection he with he;subst he;exact⟨Did.nil _ _ _ _ _,rfl⟩
 | x :: l,a,b,s,s',h,hc,hf,hv,he=>by
  cases h with
  | cons _ _ _ _ nd hx h h2=>
   unfold iG at he;obtain⟨q,hq,he⟩:=CkR.bind_eq he;obtain⟨nd',hx',hcl⟩:=hc x (List.mem_cons_self ..);rw[hx] at hx';injection hx' with hx';subst hx';have hxb:x+1≤b:=h2.le;have hax:a≤x:=h.le;obtain⟨o1,o2⟩:=hbl x s q nd a hx hcl h (hf.sub (Nat.le_refl _) hxb) hv hq;obtain⟨i1,i2⟩:=oV hn hbl h2 (fun y hy=>hc y (List.mem_cons_of_mem _ hy)) ((hf.sub (by omega) (Nat.le_refl _)).turn o1.turns (.inl (Nat.le_refl _))) (hv.up o2 (by rw[o1.size];omega)) he;exact⟨o1.trans hn (by omega) hxb i1,i2.trans o2⟩
theorem aBj {cls:Nat→Bool}{x i:Nat} (h:Kid (ns.take i) cls x):∃nd,ns[x]?=some nd∧cls nd.kind=true:=by
 obtain⟨c,hc,hk⟩:=h;rw[List.getElem?_take] at hc;split at hc
 · exact⟨c,hc,hk⟩
 · cases hc
theorem aLw {x i:Nat} (h:Kid (ns.take i) nY x):∃nd,ns[x]?=some nd∧nd.kind=18:=by
 obtain⟨c,hc,hk⟩:=aBj h;exact⟨c,hc,by simpa[nY] using hk⟩
theorem aNn (hn:aZ ns) (hex:aOz ns fs k ex) (hbl:aRi ns fs k bl){x:Nat}{nd:aF} (hx:ns[x]?=some nd) (hcl:xG nd.kind=true) (hseg:Seg ns a nd.l x) (hf:iF ns a (x+1) s) (hv:gN s)
  (he:jF fs k ex bl x nd s = .good s'):aAd ns fs k a (x+1) s s':=by
 have hax:=hseg.le;have hN:=hn x nd hx;have hfx:iF ns a x s:=hf.sub (Nat.le_refl _) (Nat.le_succ _);have hz:s.slots[x]?=some (-1):=(hf.new x hax (Nat.lt_succ_self x)).2;have hlen:x<s.slots.length:=by rw[hf.ls];have:=hf.hb;omega
 have T0:Turns x (x+1) s { s with fn:=s.fn.set x k }:=Turns.set _ _ _ _ _ (.inl rfl) (.inl rfl) (.inr ⟨_,rfl⟩);have hf0:iF ns a x { s with fn:=s.fn.set x k }:=hfx.turn T0 (.inr (Nat.le_refl _));have hv0:gN { s with fn:=s.fn.set x k }:=hv
 -- without a slot: what is below it is all
 have plain:∀{r:CkS},nd.kind≠10→qU nd.kind=false→Did ns fs k a x { s with fn:=s.fn.set x k } r→KTy fs (fun i=>r.types.getD i 0) nd 0→Did ns fs k a (x+1) s r:=fun {r} h1 h2 h3 h4=>
  aAt hn hx hax hf T0 rfl rfl rfl h3 (Turns.refl _ _ _) (by rw[if_neg h1];rfl) rfl rfl h4 ⟨-1,(h3.turns.out x (.inr (Nat.le_refl _))).2.1.trans hz,(fun e=>by rw[h2] at e;cases e),fun _=>rfl⟩ (fun e=>absurd e h1)
 -- with a slot that is noted first
 have slot:∀{r:CkS} {v:dL},nd.kind≠10→qU nd.kind=true→v∈s.vars→Did ns fs k a x { s with fn:=s.fn.set x k,slots:=s.slots.set x (v.slot:Int) } r→KTy fs (fun i=>r.types.getD i 0) nd 0→Did ns fs k a (x+1) s r:=fun {r v} h1 h2 hm h3 h4=>
  aAt hn hx hax hf (Turns.set _ _ _ _ _ (.inl rfl) (.inr ⟨_,rfl⟩) (.inr ⟨_,rfl⟩)) rfl rfl rfl h3 (Turns.refl _ _ _) (by rw[if_neg h1];rfl) rfl rfl h4 ⟨v.slot,(h3.turns.out x (.inr (Nat.le_refl _))).2.1.trans (List.getElem?_set_self hlen),(fun _=>by
    have h5:=(hv v hm).2.2;have h6:r.size=s.size+_:=h3.size;omega),(fun e=>by rw[h2] at e;cases e)⟩ (fun e=>absurd e h1)
 have T2:∀v:dL,Turns x (x+1) s { s with fn:=s.fn.set x k,slots:=s.slots.set x (v.slot:Int) }:=fun v=>Turns.set _ _ _ _ _ (.inl rfl) (.inr ⟨_,rfl⟩) (.inr ⟨_,rfl⟩)
 cases hN with
 | let_ line y u hu=>
  simp[jF,aOd] at he
  obtain⟨r,hr,he⟩:=CkR.bind_eq he;obtain⟨o1,o2,o3,o4,ole⟩:=yA hex hseg hu hf0 hv0 hr;split at he
  · cases he
  · rename_i h0
    split at he
    · cases he
    · split at he
      · cases he
      · injection he with he
        subst he;have hlen1:x<r.2.slots.length:=by rw[o1.turns.ls];exact hlen
        refine⟨aAt hn hx hax hf T0 rfl rfl rfl o1 (Turns.set _ _ _ _ _ (.inl rfl) (.inr ⟨_,rfl⟩) (.inl rfl)) rfl rfl rfl (by simp[KTy]) ⟨_,List.getElem?_set_self hlen1,fun _=>by show 0≤(r.2.size:Int)∧(r.2.size:Int)<((r.2.size+1:Nat):Int);omega,fun e=>by cases e⟩ (fun _=>List.getElem?_set_self hlen1),?_,⟨[⟨y,r.1,r.2.size⟩],by show r.2.vars++_=_;rw[o2]⟩⟩;intro v hv2;rcases List.mem_append.1 hv2 with hv2|hv2
        · rw[o2] at hv2
          have:=hv v hv2;have h7:r.2.size=s.size:=o3
          show 1≤v.ty∧v.ty≤4∧v.slot<r.2.size+1
          omega
        · rw[List.mem_singleton.1 hv2]
          show 1≤r.1∧r.1≤4∧r.2.size<r.2.size+1
          omega
 | set line y u hu=>
  simp[jF] at he
  obtain⟨t,ht,he⟩:=CkR.bind_eq he;obtain⟨r,hr,he⟩:=CkR.bind_eq he;obtain⟨v,hv1,rfl⟩:=pI ht;split at he
  · injection he with he
    subst he;obtain⟨o1,o2,o3,o4,ole⟩:=yA hex hseg hu (hfx.turn (T2 v) (.inr (Nat.le_refl _))) (hv.eq rfl rfl) hr;exact⟨slot (by simp) rfl (pO hv1) o1 (by simp[KTy]),hv.eq o2 o3,[],by rw[List.append_nil];exact o2⟩
  · cases he
 | put line y u w hu hw=>
  simp[jF] at he
  obtain⟨t,ht,he⟩:=CkR.bind_eq he;obtain⟨r,hr,he⟩:=CkR.bind_eq he;obtain⟨q,hq,he⟩:=CkR.bind_eq he;obtain⟨v,hv1,rfl⟩:=pI ht;split at he
  · rename_i hc
    injection he with he;subst he;obtain⟨o1,o2,o3,o4,o5,o6⟩:=aFf hn hex hseg hu hw (hfx.turn (T2 v) (.inr (Nat.le_refl _))) (hv.eq rfl rfl) hr hq;exact⟨slot (by simp) rfl (pO hv1) o1 (by simp only[List.getD_eq_getElem?_getD] at o4 o5;simp[KTy,tyK,o4,o5,hc]),hv.eq o2 o3,[],by rw[List.append_nil];exact o2⟩
  · cases he
 | do_ line u hu=>
  simp[jF] at he
  obtain⟨r,hr,he⟩:=CkR.map_eq he;subst he;have hu2:Kid (ns.take x) nH u:=by
    obtain⟨c,hc,hk⟩:=hu;exact⟨c,hc,by simp[aOn] at hk;rw[hk];rfl⟩
  obtain⟨o1,o2,o3,o4,ole⟩:=yA hex hseg hu2 hf0 hv0 hr;exact⟨plain (by simp) rfl o1 (by simp[KTy]),hv.eq o2 o3,[],by rw[List.append_nil];exact o2⟩
 | print line u hu=>
  simp[jF] at he
  obtain⟨r,hr,he⟩:=CkR.bind_eq he;split at he
  · cases he
  · rename_i hc
    injection he with he;subst he;obtain⟨o1,o2,o3,o4,o5⟩:=aAn hex hseg hu hf0 hv0 hr;exact⟨plain (by simp) rfl o1 (by simp only[List.getD_eq_getElem?_getD] at o4;simp[KTy,tyK,o4];omega),hv.eq o2 o3,[],by rw[List.append_nil];exact o2⟩
 | ret0 line=>
  simp[jF,aCy] at he
  split at he
  · injection he with he
    subst he;have e:=aFu hseg;subst e;exact⟨plain (by simp) rfl (Did.nil _ _ _ _ _) (by simp[KTy]),hv,[],by rw[List.append_nil]⟩
  · cases he
 | ret1 line u hu=>
  simp[jF,aCy] at he
  split at he
  · cases he
  · obtain⟨r,hr,he⟩:=CkR.bind_eq he
    split at he
    · injection he with he
      subst he;obtain⟨o1,o2,o3,o4,o5⟩:=aAn hex hseg hu hf0 hv0 hr;exact⟨plain (by simp) rfl o1 (by simp[KTy]),hv.eq o2 o3,[],by rw[List.append_nil];exact o2⟩
    · cases he
 | if2 line u v hu hw=>
  simp[jF] at he
  obtain⟨r,hr,he⟩:=CkR.bind_eq he;split at he
  · rename_i hc
    cases hseg with
    | cons _ _ _ _ n1 hu1 h1 h2=>
      have l1:=h1.le;have l2:=h2.le;have hcu:=lW hu hu1;have o:=hex u _ r.1 r.2 n1 a hu1 (xH hcu) h1 (hf0.sub (Nat.le_refl _) l2) hv0 hr;obtain⟨i1,i2⟩:=oV hn hbl h2 (fun y hy=>by rw[List.mem_singleton.1 hy];exact aLw hw) ((hf0.sub (a':=u+1) (by omega) (Nat.le_refl _)).turn o.did.turns (.inl (Nat.le_refl _))) (hv0.eq o.vars o.size) he;have D:=o.did.trans hn (by omega) l2 i1;have ht:=getD_some ((i1.turns.out u (.inl (Nat.lt_succ_self u))).1.trans o.ty);rw[List.getD_eq_getElem?_getD] at ht;exact⟨plain (by simp) rfl D (by simp[KTy,tyK,ht,hc]),hv.up (i2.trans o.vars) (by have h6:=D.size;show s.size≤s'.size;rw[h6];exact Nat.le_add_right _ _),[],by rw[List.append_nil];exact i2.trans o.vars⟩
  · cases he
 | if3 line u v w3 hu hw hw3=>
  simp[jF] at he
  obtain⟨r,hr,he⟩:=CkR.bind_eq he;split at he
  · rename_i hc
    cases hseg with
    | cons _ _ _ _ n1 hu1 h1 h2=>
      have l1:=h1.le;have l2:=h2.le;have hcu:=lW hu hu1;have o:=hex u _ r.1 r.2 n1 a hu1 (xH hcu) h1 (hf0.sub (Nat.le_refl _) l2) hv0 hr;obtain⟨i1,i2⟩:=oV hn hbl h2 (fun y hy=>by
        rcases List.mem_cons.1 hy with rfl|hy
        · exact aLw hw
        · rw[List.mem_singleton.1 hy];exact aLw hw3) ((hf0.sub (a':=u+1) (by omega) (Nat.le_refl _)).turn o.did.turns (.inl (Nat.le_refl _))) (hv0.eq o.vars o.size) he
      have D:=o.did.trans hn (by omega) l2 i1;have ht:=getD_some ((i1.turns.out u (.inl (Nat.lt_succ_self u))).1.trans o.ty);rw[List.getD_eq_getElem?_getD] at ht;exact⟨plain (by simp) rfl D (by simp[KTy,tyK,ht,hc]),hv.up (i2.trans o.vars) (by have h6:=D.size;show s.size≤s'.size;rw[h6];exact Nat.le_add_right _ _),[],by rw[List.append_nil];exact i2.trans o.vars⟩
  · cases he
 | loop line u v hu hw=>
  simp[jF] at he
  obtain⟨r,hr,he⟩:=CkR.bind_eq he;split at he
  · rename_i hc
    cases hseg with
    | cons _ _ _ _ n1 hu1 h1 h2=>
      have l1:=h1.le;have l2:=h2.le;have hcu:=lW hu hu1;have o:=hex u _ r.1 r.2 n1 a hu1 (xH hcu) h1 (hf0.sub (Nat.le_refl _) l2) hv0 hr;obtain⟨i1,i2⟩:=oV hn hbl h2 (fun y hy=>by rw[List.mem_singleton.1 hy];exact aLw hw) ((hf0.sub (a':=u+1) (by omega) (Nat.le_refl _)).turn o.did.turns (.inl (Nat.le_refl _))) (hv0.eq o.vars o.size) he;have D:=o.did.trans hn (by omega) l2 i1;have ht:=getD_some ((i1.turns.out u (.inl (Nat.lt_succ_self u))).1.trans o.ty);rw[List.getD_eq_getElem?_getD] at ht;exact⟨plain (by simp) rfl D (by simp[KTy,tyK,ht,hc]),hv.up (i2.trans o.vars) (by have h6:=D.size;show s.size≤s'.size;rw[h6];exact Nat.le_add_right _ _),[],by rw[List.append_nil];exact i2.trans o.vars⟩
  · cases he
 | _=>simp[xG] at hcl
end
section
variable {ns:List aF}{fs:List aD}{k a b c:Nat}{s s0 s1 s2 s':CkS}{ex:Nat→CkS→CkR (Nat×CkS)}{bl:Nat→CkS→CkR CkS}
theorem aAd.trans (hn:aZ ns) (hab:a≤b) (hbc:b≤c) (h:aAd ns fs k a b s s1) (g:aAd ns fs k b c s1 s2):aAd ns fs k a c s s2:=by
 obtain⟨m,hm⟩:=h.more;obtain⟨m2,hm2⟩:=g.more;exact⟨h.did.trans hn hab hbc g.did,g.vars,m++m2,by rw[hm2,hm,List.append_assoc]⟩
theorem aAv (hn:aZ ns){st:Nat→CkS→CkR CkS} (hst:∀x s s' nd a,ns[x]?=some nd→xG nd.kind=true→Seg ns a nd.l x→iF ns a (x+1) s→gN s→st x s = .good s'→aAd ns fs k a (x+1) s s'):
  ∀{l:List Nat} {a b:Nat} {s s':CkS},Seg ns a l b→(∀x∈l,∃nd,ns[x]?=some nd∧xG nd.kind=true)→iF ns a b s→gN s→iG st l s = .good s'→aAd ns fs k a b s s'
 | [],a,b,s,s',h,_,hf,hv,he=>by
  have:=aFu h;subst this;injection he with he;subst he;exact⟨Did.nil _ _ _ _ _,hv,[],by rw[List.append_nil]⟩
 | x :: l,a,b,s,s',h,hc,hf,hv,he=>by
  cases h with
  | cons _ _ _ _ nd hx h h2=>
   unfold iG at he;obtain⟨q,hq,he⟩:=CkR.bind_eq he;obtain⟨nd',hx',hcl⟩:=hc x (List.mem_cons_self ..);rw[hx] at hx';injection hx' with hx';subst hx';have hxb:x+1≤b:=h2.le;have hax:a≤x:=h.le;have o:=hst x s q nd a hx hcl h (hf.sub (Nat.le_refl _) hxb) hv hq;have i:=aAv hn hst h2 (fun y hy=>hc y (List.mem_cons_of_mem _ hy)) ((hf.sub (by omega) (Nat.le_refl _)).turn o.did.turns (.inl (Nat.le_refl _))) o.vars he;exact o.trans hn (by omega) hxb i
theorem tT (hn:aZ ns) (hret:∀f∈fs,f.ret≤4):∀f,aRi ns fs k (gM ns fs k f)
 | 0=>fun x s s' nd a hx hk hseg hf hv he=>by cases he
 | f+1=>fun x s s' nd a hx hk hseg hf hv he=>by
  have ih:=tT hn hret f;simp only[gM,hx] at he;obtain⟨r,hr,he⟩:=CkR.map_eq he;subst he;have hax:=hseg.le;have T0:Turns x (x+1) s { s with fn:=s.fn.set x k }:=Turns.set _ _ _ _ _ (.inl rfl) (.inl rfl) (.inr ⟨_,rfl⟩);have hz:s.slots[x]?=some (-1):=(hf.new x hax (Nat.lt_succ_self x)).2;have hl:∀y∈nd.l,∃c,ns[y]?=some c∧xG c.kind=true:=by
   have hN:=hn x nd hx;cases hN with
   | block line l h=>exact fun y hy=>aBj (h y hy)
   | _=>simp at hk
  have i:=aAv (fs:=fs) (k:=k) hn (st:=fun a s=>match ns[a]? with
    | none=> .bad 95 0
    | some na=>jF fs k (gJ ns fs k ns.length) (gM ns fs k f) a na s) (fun y s s' nd a hy hcl hs hf hv he=>by
     simp only[hy] at he;exact aNn hn (xC hn hret _) ih hy hcl hs hf hv he) hseg hl ((hf.sub (Nat.le_refl _) (Nat.le_succ _)).turn T0 (.inr (Nat.le_refl _))) (show gN { s with fn:=s.fn.set x k } from hv) hr
  obtain⟨m,hm⟩:=i.more;have hkn:qU nd.kind=false:=by rw[hk];rfl
  have D:Did ns fs k a (x+1) s r:=aAt hn hx hax hf T0 rfl rfl rfl i.did (Turns.refl _ _ _) (by rw[if_neg (by omega)];rfl) rfl rfl (by simp[KTy,hk]) ⟨-1,(i.did.turns.out x (.inr (Nat.le_refl _))).2.1.trans hz,(fun e=>by rw[hkn] at e;cases e),fun _=>rfl⟩ (fun e=>by omega);exact⟨D.vars _,by show r.vars.take s.vars.length=s.vars;rw[hm];exact List.take_left' rfl⟩
theorem sU {body:Nat}:∀{l:List (List UInt8×Nat)}{vs vs':List dL},jL body l vs = .good vs'→(∀p∈l,1≤p.2∧p.2≤4)→(∀v∈vs,1≤v.ty∧v.ty≤4∧v.slot<vs.length)→vs'.length=vs.length+l.length∧∀v∈vs',1≤v.ty∧v.ty≤4∧v.slot<vs'.length
 | [],vs,vs',h,_,hv=>by
  injection h with h;subst h;exact⟨rfl,hv⟩
 | p :: l,vs,vs',h,hp,hv=>by
  unfold jL at h;split at h
  · cases h
  · have:=sU h (fun q hq=>hp q (List.mem_cons_of_mem _ hq)) (fun v hv2=>by
     rcases List.mem_append.1 hv2 with hv2|hv2
     · have:=hv v hv2
       rw[List.length_append,List.length_singleton];omega
     · rw[List.mem_singleton.1 hv2]
       have:=hp p (List.mem_cons_self ..);rw[List.length_append,List.length_singleton];exact⟨this.1,this.2,Nat.lt_succ_self _⟩)
    rw[List.length_append,List.length_singleton] at this;exact⟨by rw[this.1,List.length_cons];omega,this.2⟩
structure tZ (ns:List aF) (fs:List aD) (s:CkS) (k z:Nat) (f:aD) (a b:Nat):Prop where
 at_:∀y nd,a≤y→y<b→ns[y]?=some nd→tY fs k z s y nd
 size:z=f.params.length+jS ns a b
 lets:∀y nd,a≤y→y<b→ns[y]?=some nd→nd.kind=10→s.slots[y]?=some ((f.params.length+jS ns a y:Nat):Int)
 body:f.body+1=b
 le:a≤b
theorem tZ.keep {z:Nat}{f:aD} (hn:aZ ns) (h:tZ ns fs s k z f a b) (t:Turns b c s s'):tZ ns fs s' k z f a b:=
 ⟨fun y nd h1 h2 hy=>(h.at_ y nd h1 h2 hy).keep h2 (wU hn hy) t (Nat.le_refl _),h.size,fun y nd h1 h2 hy hk=>(t.out y (.inl h2)).2.1.trans (h.lets y nd h1 h2 hy hk),h.body,h.le⟩
inductive gQ (ns:List aF) (fs:List aD) (s:CkS):Nat→List aD→List Nat→Nat→Nat→Prop where
 | nil (k a:Nat):gQ ns fs s k [] [] a a
 | cons (k z:Nat) (f:aD) (l:List aD) (zs:List Nat) (a c b:Nat) (h:tZ ns fs s k z f a c) (h2:gQ ns fs s (k+1) l zs c b):gQ ns fs s k (f :: l) (z :: zs) a b
theorem aMg (hn:aZ ns) (hret:∀f∈fs,f.ret≤4){f:aD} (hp:∀p∈f.params,1≤p.2∧p.2≤4) (hb:Kid ns nY f.body) (hseg:Seg ns a [f.body] b) (hf:iF ns a b s) (he:iA ns fs k f s = .good s'):
  tZ ns fs s' k s'.size f a b∧Turns a b s s':=by
 obtain⟨nd,hx,h1,rfl⟩:=aQj hseg;obtain⟨c,hc,hk⟩:=hb;rw[hx] at hc;injection hc with hc;subst hc;unfold iA at he;obtain⟨vs,hvs,he⟩:=CkR.bind_eq he;obtain⟨e1,e2⟩:=sU hvs hp (fun v hv=>by cases hv);have e1:vs.length=f.params.length:=by simpa using e1
 obtain⟨o1,o2⟩:=tT hn hret ns.length f.body { s with vars:=vs,size:=vs.length } s' nd a hx (by simpa[nY] using hk) h1 ⟨hf.lt,hf.ls,hf.lf,hf.hb,hf.new⟩ e2 he;have hz:s'.size=f.params.length+jS ns a (f.body+1):=by rw[o1.size,←e1]
 exact⟨⟨o1.at_,hz,fun y nd h1 h2 hy hk=>by rw[←e1];exact o1.lets y nd h1 h2 hy hk,rfl,Nat.le_succ_of_le h1.le⟩,o1.turns.lt,o1.turns.ls,o1.turns.lf,o1.turns.out⟩
theorem gQ.keep (hn:aZ ns){l:List aD}{zs:List Nat} (h:gQ ns fs s k l zs a b) (t:Turns b c s s'):gQ ns fs s' k l zs a b∧a≤b:=by
 induction h with
 | nil k a=>exact⟨.nil _ _,Nat.le_refl _⟩
 | cons k z f l zs a d b h h2 ih=>
  obtain⟨i1,i2⟩:=ih t;exact⟨.cons _ _ _ _ _ _ _ _ (h.keep hn (c:=c) (t.mono i2 (Nat.le_refl _) |>.mono (Nat.le_refl _) (Nat.le_refl _))) i1,Nat.le_trans h.le i2⟩
theorem wY (hn:aZ ns) (hret:∀f∈fs,f.ret≤4):∀{l:List aD}{k a b:Nat}{zs0 zs:List Nat}{s s':CkS},(∀f∈l,(∀p∈f.params,1≤p.2∧p.2≤4)∧Kid ns nY f.body)→Seg ns a (l.map (·.body)) b→iF ns a b s→dN ns fs k l zs0 s = .good (zs,s') →
  ∃zs1,zs=zs0++zs1∧gQ ns fs s' k l zs1 a b∧Turns a b s s'
 | [],k,a,b,zs0,zs,s,s',_,h,hf,he=>by
  have:=aFu h;subst this;injection he with he;injection he with h1 h2;subst h1;subst h2;exact⟨[],by rw[List.append_nil],.nil _ _,Turns.refl _ _ _⟩
 | f :: l,k,a,b,zs0,zs,s,s',hp,h,hf,he=>by
  unfold dN at he;obtain⟨r,hr,he⟩:=CkR.bind_eq he;cases h with
  | cons _ _ _ _ nd hx h h2=>
   obtain⟨hp1,hk⟩:=hp f (List.mem_cons_self ..);have l2:=h2.le;obtain⟨o1,o2⟩:=aMg (k:=k) (b:=f.body+1) hn hret hp1 hk (.cons _ _ _ _ nd hx h (.nil _)) (hf.sub (Nat.le_refl _) l2) hr;obtain⟨zs1,e,i1,i2⟩:=wY hn hret (fun g hg=>hp g (List.mem_cons_of_mem _ hg)) h2 ((hf.sub (Nat.le_trans h.le (Nat.le_succ _)) (Nat.le_refl _)).turn o2 (.inl (Nat.le_refl _))) he;exact⟨r.size :: zs1,by rw[e];simp,.cons _ _ _ _ _ _ _ _ (o1.keep hn i2) i1,(o2.mono (Nat.le_refl _) l2).trans (i2.mono (Nat.le_trans h.le (Nat.le_succ _)) (Nat.le_refl _))⟩
end
def fK.st (p:fK):CkS:=⟨p.types,p.slots,p.fn,[],0⟩
structure nC (p:fK):Prop where
 tree:xP p.ns p.fs
 lt:p.types.length=p.ns.length
 ls:p.slots.length=p.ns.length
 lf:p.fn.length=p.ns.length
 done:gQ p.ns p.fs p.st 0 p.fs p.sizes 0 p.ns.length
 heads:lJ p.fs = .good ()
theorem gQ.st {ns:List aF}{fs l:List aD}{k a b:Nat}{zs:List Nat}{s s':CkS} (h:gQ ns fs s k l zs a b) (h1:s'.types=s.types) (h2:s'.slots=s.slots) (h3:s'.fn=s.fn):gQ ns fs s' k l zs a b:=by
 obtain⟨t,sl,f,v,z⟩:=s;obtain⟨t',sl',f',v',z'⟩:=s';dsimp only at h1 h2 h3;subst h1;subst h2;subst h3;induction h with
 | nil k a=>exact .nil _ _
 | cons k z f l zs a d b h h2 ih=>exact .cons _ _ _ _ _ _ _ _ ⟨fun y nd h1 h2 h3=>⟨(h.at_ y nd h1 h2 h3).fn,(h.at_ y nd h1 h2 h3).ty,(h.at_ y nd h1 h2 h3).sl⟩,h.size,h.lets,h.body,h.le⟩ ih
theorem yG (ns:List aF):iF ns 0 ns.length (fG ns):=
 ⟨List.length_replicate,List.length_replicate,List.length_replicate,Nat.le_refl _,fun y _ h=>⟨by show (List.replicate ns.length 0)[y]?=_;rw[List.getElem?_replicate,if_pos h],by show (List.replicate ns.length (-1:Int))[y]?=_;rw[List.getElem?_replicate,if_pos h]⟩⟩
theorem aBq {ns:List aF}{fs:List aD}{p:fK} (ht:xP ns fs) (h:dW ns fs = .good p):nC p∧p.ns=ns∧p.fs=fs:=by
 unfold dW at h;obtain⟨_,hh,h⟩:=CkR.bind_eq h;obtain⟨r,hr,h⟩:=CkR.map_eq h;subst h;obtain⟨zs1,e,i1,i2⟩:=wY (zs:=r.1) (s':=r.2) ht.ok.nodes (fun f hf=>(ht.ok.types f hf).1) (fun f hf=>⟨fun p hp=>⟨ht.pos f hf p hp,(ht.ok.types f hf).2 p hp⟩,ht.ok.bodies f hf⟩) ht.seg (yG ns) hr;rw[List.nil_append] at e;refine⟨⟨ht,i2.lt.trans List.length_replicate,i2.ls.trans List.length_replicate,i2.lf.trans List.length_replicate,?_,hh⟩,rfl,rfl⟩
 show gQ ns fs _ 0 fs r.1 0 ns.length
 rw[e];exact i1.st rfl rfl rfl
section
variable {w0 w w1 w':World}{v u:Value}{n m:Nat}{l k:List aQp}
end
structure PgV where
 nb:Nat
 nc:Nat
 fb:Nat
 fc:Nat
 tb:Nat
 tc:Nat
 sb:Nat
 sc:Nat
 ua:Option Addr
 un:Nat
 uc:Nat
 za:Option Addr
 zn:Nat
 zc:Nat
 lvs:List Value
 pvs:List Value
 p:fK
def PgV.val (g:PgV):Value:= .agg #[.slice (some ⟨g.nb,0,none⟩) g.p.ns.length g.nc,.slice (some ⟨g.fb,0,none⟩) g.p.fs.length g.fc,.slice (some ⟨g.tb,0,none⟩) g.p.ns.length g.tc,.slice (some ⟨g.sb,0,none⟩) g.p.ns.length g.sc,.slice g.ua g.un g.uc,.slice g.za g.zn g.zc]
structure xU (g:PgV) (w:World):Prop where
 is:nC g.p
 tree:dH 0 w (.slice (some ⟨g.nb,0,none⟩) g.p.ns.length g.nc) (.slice (some ⟨g.fb,0,none⟩) g.p.fs.length g.fc) g.lvs g.pvs g.p.ns g.p.fs
 types:Own w 3 1 (.slice (some ⟨g.tb,0,none⟩) g.p.ns.length g.tc) g.p.ns.length (ints g.p.types)
 slots:Own w 3 1 (.slice (some ⟨g.sb,0,none⟩) g.p.ns.length g.sc) g.p.ns.length (eH g.p.slots)
section
variable {g:PgV}{w w':World}
theorem xU.no (h:xU g w) (f:Fr nob w w'):xU g w':=⟨h.is,h.tree.no f,h.types.fr f (fun _ _ x=>x),h.slots.fr f (fun _ _ x=>x)⟩
theorem xU.len (h:xU g w):(g.p.ns.length:Int)≤300:=by have:=h.is.tree.ok.few;omega
theorem xU.slot (h:xU g w){x:Nat} (hx:x<g.p.ns.length):w.cell? ⟨g.sb,x,none⟩=some (.int .i64 (aKo g.p x)):=by
 obtain⟨b,e,hc⟩:=h.slots.some (by omega);injection e with e;injection e with e;subst e;have hl:x<g.p.slots.length:=by rw[h.is.ls];exact hx
 have:=hc x (.int .i64 (aKo g.p x)) (by unfold eH aKo;rw[List.getElem?_map,List.getD_eq_getElem?_getD,gE hl];rfl);simpa using this
theorem xU.type (h:xU g w){x:Nat} (hx:x<g.p.ns.length):w.cell? ⟨g.tb,x,none⟩=some (.int .i64 (aNj g.p x:Nat)):=by
 obtain⟨b,e,hc⟩:=h.types.some (by omega);injection e with e;injection e with e;subst e;have hl:x<g.p.types.length:=by rw[h.is.lt];exact hx
 have:=hc x (.int .i64 (aNj g.p x:Nat)) (by unfold ints aNj;rw[List.getElem?_map,List.getD_eq_getElem?_getD,gE hl];rfl);simpa using this
theorem xU.node (h:xU g w){x:Nat}{nd:aF} (hx:g.p.ns[x]?=some nd):∃lv,Own w 3 1 lv nd.l.length (ints nd.l) ∧
  w.cell? ⟨g.nb,x*5,none⟩=some (.int .i64 nd.kind)∧w.cell? ⟨g.nb,x*5+1,none⟩=some (.int .i64 nd.line)∧w.cell? ⟨g.nb,x*5+2,none⟩=some (.int .i64 nd.n)∧w.cell? ⟨g.nb,x*5+3,none⟩=some (.string (bs nd.name))∧w.cell? ⟨g.nb,x*5+4,none⟩=some lv∧g.nb<w.heap.size∧x<g.p.ns.length:=by
 have hlt:=(gK hx);obtain⟨lv,hlv⟩:∃lv,g.lvs[x]?=some lv:=⟨_,gE (by have:=h.tree.same;omega)⟩;obtain⟨a,b,c,d,e,f⟩:=h.tree.node3 hx hlv;exact⟨lv,a,b,c,d,e,f,World.block_lt_of_cell? w ⟨g.nb,x*5,none⟩ b,hlt⟩
end
section
variable {g:PgV}{w w':World}{B k line n:Nat}{nm:List UInt8}{kv:Value}{l:List Nat}
end
section
variable {p:fK}{a b:Nat}
end
end Go.Proofs.YtlbjicjinnnboaaGreatDoor
