/- MaF: PAll, TrT, PWf2, PSz2, CkModel. -/
import Derived.Test.YtlbjicjinnnboaaGreatDoorMaE
set_option maxHeartbeats 8000000
set_option maxRecDepth 100000
set_option linter.unusedVariables false
set_option linter.unusedSimpArgs false
/- The parser: All. -/
namespace Go.Proofs.YtlbjicjinnnboaaGreatDoor
open Go.RowKit Go.Proofs.Tryz
variable {w:World}{B:Nat}{nv fv:Value}
section
variable {src:ByteArray}{tb tc b0:Nat}{ts:List Tok}{w0:World}
theorem aJh (ht:wW b0 w0 (.slice (some ⟨tb,0,none⟩) ts.length tc) ts) (hk:dA ts) (hs:src.size≤281474976710656):
  St src tb tc ts w0.heap.size (λ_=>False) w0 (w0.alloc (.cells #[.string src,.slice (some ⟨tb,0,none⟩) ts.length tc,.int .i64 0,.slice none 0 0,.int .i64 0,.int .i64 0,.int .i64 0] 88)) ⟨0,[],0,0,0⟩:=by
 have hf:Fr nob w0 (w0.alloc (.cells #[.string src,.slice (some ⟨tb,0,none⟩) ts.length tc,.int .i64 0,.slice none 0 0,.int .i64 0,.int .i64 0,.int .i64 0] 88)):=(fR w0).alloc _;have hb:=Blk.new w0 88 #[.string src,.slice (some ⟨tb,0,none⟩) ts.length tc,.int .i64 0,.slice none 0 0,.int .i64 0,.int .i64 0,.int .i64 0];refine⟨⟨[],⟨⟨.slice none 0 0,hb,Own.nil _ _ _⟩,trivial,rfl,⟨_,ht.no hf⟩,λnv h1 k hk=>?_⟩,λv hv=>by cases hv⟩,λk hk=>hk.elim,⟨hk.pos,by decide,λ_=>by decide,by decide,by decide⟩,hk,hs,FrR.no hf⟩;have h3:=hb.cell 3;rw[h3] at h1;simp at h1
 subst h1;simp[blk] at hk
end
theorem aAh {g:Nat}{w1 w2:World}{o:Obj} (h1:Fr nob (w.alloc o) w1) (h2:FrR g w1 w2) (hg:w.heap.size≤g):Fr nob w w2:=by
 refine Fr.trans (((fR w).alloc o).tr h1) h2 (λ_ _ x=>x) (λk hk hm=>?_);rcases hm with e|⟨e,_⟩<;>omega
theorem bW.far {w':World}{lvs pvs:List Value}{ns:List aG}{fs:List aH} (h:bW B w nv fv lvs pvs ns fs){M:Nat->Prop} (f:Fr M w w') (hM:∀k,M k->∃cs,Blk w k 26 cs):bW B w' nv fv lvs pvs ns fs:=by
 have farO:∀{e size n:Nat} {v:Value} {xs:List Value},Own w e size v n xs->e≠26->∀k,blk v=some k->¬M k:=λho hne k hk hm=>by
  obtain⟨cs,hc⟩:=hM k hm;exact ho.aD hc hne hk
 have hbel:∀{ns:List aG} {vs:List Value},bB w ns vs->bB w' ns vs:=by
  intro ns;induction ns with
  | nil=>intro vs hb;cases vs with
   | nil=>trivial
   | cons _ _=>exact hb.elim
  | cons n ns ih=>intro vs hb;cases vs with
   | nil=>exact hb.elim
   | cons u vs=>exact⟨hb.1.fr f (farO hb.1 (by decide)),ih hb.2⟩
 exact⟨h.nodes.fr f (farO h.nodes (by decide)),hbel h.below,h.same,h.fns.fr f (farO h.fns (by decide)),h.pars.to f (λk cs hk hm=>by
  obtain⟨cs2,hc⟩:=hM k hm;exact hk.ne hc (by decide) rfl),h.samef,h.newn,h.newf⟩
theorem Blk.new1 (w:World) (o:Obj) (t:TypeId) (cs:Array Value):Blk ((w.alloc o).alloc (.cells cs t)) (w.heap.size+1) t cs:=by
 have h:=Blk.new (w.alloc o) t cs;rwa [show (w.alloc o).heap.size=w.heap.size+1 by simp] at h
theorem St.aQd {src:ByteArray}{tb tc:Nat}{ts:List Tok}{g:Nat}{R:Nat->Prop}{w0:World}{s:PS} (h:St src tb tc ts g R w0 w s):w.cell? ⟨g,6,none⟩=some (.int .i64 s.place):=by
 obtain⟨lvs,hr,_⟩:=h.rdr;obtain⟨nv,hb⟩:=hr.blk;have:=hb.cell 6;simpa using this
theorem zX (src:ByteArray) (w:World) (hs:src.size≤281474976710656){r:tN} (hr:parseM src.data.toList=some r):
  Calls prog 30 #[.string src] w λe w'=>zG w.heap.size w' e r∧Fr nob w w':=by
 have HL:=hD (λw'=>aJs src w' hs);have HS:=hD hs;unfold parseM at hr;cases hl:uM src.data.toList with
 | bad p er=>
  rw[hl] at hr HL;simp only[Option.some.injEq] at hr;subst hr;have hne:((er:Int)==0)=false:=by
   have:=uL hl;exact bN.2 (by omega)
  clear hl hs;go_enter func30,ntmps30;go_wp2_with fail
  refine (HL _).mono ?_;rintro e w1 ⟨rfl,hf⟩;have F1:=hD hf;have hB:=(Blk.new w 26 #[.slice none 0 0,.slice none 0 0]).fr hf (λx=>x);have t0:=hB.frozen 0;have t1:=hB.frozen 1;have u0:=hB.cell 0;have u1:=hB.cell 1;have ul:=hB.lt;simp at u0 u1
  clear hf hB;go_wp2_with fail
  have F2:=hD (show Fr nob w ((w1.setCell ⟨w.heap.size,0,none⟩ (.slice none 0 0)).setCell ⟨w.heap.size,1,none⟩ (.slice none 0 0)) from
   ((((fR w).alloc _).tr F1).setCell _ _ (λh=>absurd h (Nat.lt_irrefl _))).setCell _ _ (λh=>absurd h (Nat.lt_irrefl _)))
  have hB2:=((((Blk.new w 26 #[.slice none 0 0,.slice none 0 0]).fr F1 (λx=>x)).setCell 0 (.slice none 0 0)).setCell 1 (.slice none 0 0));clear t0 t1 u0 u1 ul;generalize (w1.setCell ⟨w.heap.size,0,none⟩ (.slice none 0 0)).setCell ⟨w.heap.size,1,none⟩ (.slice none 0 0)=w2 at *;have z0:=hB2.cell 0;have z1:=hB2.cell 1;simp at z0 z1
  refine bodyPost_ret (v:= .tuple #[.agg #[.slice none 0 0,.slice none 0 0],.int .i64 p,.int .i64 er]) (by simp[results,results30,go_sem,z0,z1]) rfl ⟨rfl,F2⟩
 | good ts=>
  rw[hl] at hr HL;have TK:=hD (kJ hl);have hfew:=aAc hl;simp only[nY,mS] at hr;obtain⟨q,hq,hRR⟩:=hr;have HRR:=hD hRR;have HQ:=hD hq;have HN:=hD (aNg (kJ hl) hq);have hfu:gF ts≤40000:=by unfold gF;omega
  have HFU:=hD hfu;clear hl hs hfu hfew hq hRR;generalize gF ts=n0 at *;go_enter func30,ntmps30;go_wp2_with fail
  refine (HL _).mono ?_;rintro e w1 ⟨⟨v,rfl,htk⟩,hf⟩;obtain⟨A,tc,rfl,hc1,hc2⟩:=htk.slice;obtain⟨tb,rfl,_,_,_⟩:=htk.some TK.o.pos;have F1:=hD hf;have TA:=hD htk;have hsz:=F1.o.size;simp at hsz
  have HG:=hD (show w.heap.size<w1.heap.size by omega);clear hf htk hc1 hc2 hsz;go_wp2_with fail
  have AS:=hD (show ASt src tb tc ts w1.heap.size w1 w.heap.size (w1.heap.size+1) ((w1.alloc (.cells #[.string src,.slice (some ⟨tb,0,none⟩) ts.length tc,.int .i64 0,.slice none 0 0,.int .i64 0,.int .i64 0,.int .i64 0] 88)).alloc (.cells #[.slice none 0 0,.slice none 0 0] 26)) ⟨0,[],0,0,0⟩ (.slice none 0 0) [] [] from by
   have hS:=aJh TA TK HS.o;have hB:=(((Blk.new w 26 #[.slice none 0 0,.slice none 0 0]).fr F1 (λx=>x)).alloc (.cells #[.string src,.slice (some ⟨tb,0,none⟩) ts.length tc,.int .i64 0,.slice none 0 0,.int .i64 0,.int .i64 0,.int .i64 0] 88)).alloc (.cells #[.slice none 0 0,.slice none 0 0] 26);have h9:=Blk.new (w1.alloc (.cells #[.string src,.slice (some ⟨tb,0,none⟩) ts.length tc,.int .i64 0,.slice none 0 0,.int .i64 0,.int .i64 0,.int .i64 0] 88)) 26 #[.slice none 0 0,.slice none 0 0];rw[show (w1.alloc (.cells #[.string src,.slice (some ⟨tb,0,none⟩) ts.length tc,.int .i64 0,.slice none 0 0,.int .i64 0,.int .i64 0,.int .i64 0] 88)).heap.size=w1.heap.size+1 by simp] at h9;exact⟨hS.alloc _,hB,h9,Nat.le_succ _,by have:=HG.o;omega,Own.nil _ _ _,trivial,rfl,λk hk=>by simp[blk] at hk⟩)
  clear TA;go_loopg [10] n0 (λk x wr=>∃(fns:List aH) (pvs:List Value) (s':PS) (fv:Value),Hd (fns.length+k≤n0)∧Hd (ASt src tb tc ts w1.heap.size w1 w.heap.size (w1.heap.size+1) wr s' fv fns pvs)∧Hd (dP src.data.toList ts k fns s'=some q))
  case atStart=>exact⟨[],[],_,_,hD (by simp),AS,HQ⟩
  case round=>
   obtain⟨fns,pvs,s',fv,HK,S,HR⟩:=hrel;clear AS HQ HL;generalize w1.heap.size+1=T9 at *;generalize w1.heap.size=g at *;have hr:=HR.o;cases gk with
   | zero=>simp[dP] at hr
   | succ k=>
     simp only[dP] at hr;by_cases h0:s'.e=0
     case neg=>
       rw[if_pos h0] at hr;simp only[Option.some.injEq] at hr;subst hr;have HR2:=hD (show r = .bad s'.place s'.e by rw[<-HRR.o,if_pos h0]);have he:((s'.e:Int)==0)=false:=bN.2 (by omega);have he2:((s'.e:Int) != 0)=true:=by rw[bne,he];rfl
       obtain⟨hg,c1,c2,c4,c5,f2,f4⟩:=S.o.st.cells;have c6:=S.o.st.aQd;have t0:=S.o.bt.frozen 0;have t1:=S.o.bt.frozen 1;have u0:=S.o.bt.cell 0;have u1:=S.o.bt.cell 1;have hTl:=S.o.bt.lt;have HGT:=hD (show w.heap.size≠g by have:=HG.o;omega);simp at u0 u1
       go_wp2_with fail
       have m5:(⟨w.heap.size,0,none⟩:Addr)≠⟨g,5,none⟩:=by intro e;injection e with e;exact HGT e
       have m6:(⟨w.heap.size,0,none⟩:Addr)≠⟨g,6,none⟩:=by intro e;injection e with e;exact HGT e
       have p5:(⟨w.heap.size,1,none⟩:Addr)≠⟨g,5,none⟩:=by intro e;injection e with e;exact HGT e
       have p6:(⟨w.heap.size,1,none⟩:Addr)≠⟨g,6,none⟩:=by intro e;injection e with e;exact HGT e
       have D5:=hD c5;have D6:=hD c6;have E5:=hD ((World.cell?_setCell_other (wr.drew.setCell ⟨w.heap.size,0,none⟩ (.slice none 0 0)) ⟨w.heap.size,1,none⟩ ⟨g,5,none⟩ (.slice none 0 0) p5).trans ((World.cell?_setCell_other wr.drew ⟨w.heap.size,0,none⟩ ⟨g,5,none⟩ (.slice none 0 0) m5).trans c5));have E6:=hD ((World.cell?_setCell_other (wr.drew.setCell ⟨w.heap.size,0,none⟩ (.slice none 0 0)) ⟨w.heap.size,1,none⟩ ⟨g,6,none⟩ (.slice none 0 0) p6).trans ((World.cell?_setCell_other wr.drew ⟨w.heap.size,0,none⟩ ⟨g,6,none⟩ (.slice none 0 0) m6).trans c6));clear m5 m6 p5 p6;go_region_held3 (λwx=>wx.cell? ⟨g,5,none⟩=some (.int .i64 s'.e)∧wx.cell? ⟨g,6,none⟩=some (.int .i64 s'.place)) (first|exact⟨D5,D6⟩|exact⟨E5,E6⟩) (first|fail)
       -- END A
       clear D5 D6 E5 E6 hg c1 c2 c4 c5 f2 f4 c6 t0 t1 u0 u1 hTl he he2;go_wp2_with fail
       have FE:=hD (aAh F1 S.o.st.fr (Nat.le_of_lt HG));have hB2:=((S.o.bt.setCell 0 (.slice none 0 0)).setCell 1 (.slice none 0 0));have F2:Hd (Fr nob w (((wr.setCell ⟨w.heap.size,0,none⟩ (.slice none 0 0)).setCell ⟨w.heap.size,1,none⟩ (.slice none 0 0)).drew)):=((FE.o.setCell ⟨w.heap.size,0,none⟩ (.slice none 0 0) (λh=>absurd h (Nat.lt_irrefl _))).setCell ⟨w.heap.size,1,none⟩ (.slice none 0 0) (λh=>absurd h (Nat.lt_irrefl _))).drew;have hB3:Blk (((wr.setCell ⟨w.heap.size,0,none⟩ (.slice none 0 0)).setCell ⟨w.heap.size,1,none⟩ (.slice none 0 0)).drew) w.heap.size 26 #[.slice none 0 0,.slice none 0 0]:=hB2;clear hB2;generalize ((wr.setCell ⟨w.heap.size,0,none⟩ (.slice none 0 0)).setCell ⟨w.heap.size,1,none⟩ (.slice none 0 0)).drew=we at *;have z0:=hB3.cell 0;have z1:=hB3.cell 1;simp at z0 z1
       clear hB3;refine bodyPost_ret (v:= .tuple #[.agg #[.slice none 0 0,.slice none 0 0],.int .i64 s'.place,.int .i64 s'.e]) (by simp[results,results30,go_sem,z0,z1]) rfl ⟨by rw[HR2.o];rfl,F2⟩
     case pos=>
       rw[if_neg (by omega)] at hr;have he:((s'.e:Int)==0)=true:=by rw[h0];rfl
       have he2:((s'.e:Int) != 0)=false:=by rw[bne,he];rfl
       obtain⟨hg,c1,c2,c4,c5,f2,f4⟩:=S.o.st.cells;by_cases hk:bJ ts 0 s'=true
       . rw[if_pos hk] at hr
         simp only[Option.some.injEq] at hr;subst hr;have HKI:=hD hk;have HRR2:=hD (show r=if 300<s'.nodes.length∨6<fns.length∨fns.any (λf=>decide (3<f.params.length))=true then .bad 0 4 else .good s'.nodes fns by rw[<-HRR.o,if_neg (λh=>h h0)]);clear HRR HR hk h0;go_wp2_with fail
         refine stepM (S.o.step (S.o.st.here.kind 0 HKI)) λw4 S4=>?_;clear hg c1 c2 c4 c5 f2 f4;obtain⟨lvs,hrd,_⟩:=S4.o.st.rdr;obtain⟨nv,hgb,hon⟩:=hrd.cells;have hnew:=hrd.newer nv (hgb.cell 3);obtain⟨NA,NC,rfl,_,_⟩:=hon.cap;obtain⟨FA,FC,rfl,hf1,hf2⟩:=S4.o.own.cap;have hc2f:=Nat.le_trans hf1 hf2;clear hf1 hf2;have TR:=hD (show bW w.heap.size w4 (.slice NA s'.nodes.length NC) (.slice FA fns.length FC) lvs pvs s'.nodes fns from
           ⟨hon,hrd.below,hrd.same,S4.o.own,S4.o.pars,S4.o.same,λk hk=>by have:=hnew k hk;have:=HG.o;omega,λk hk=>by have:=S4.o.newf k hk;have:=F1.o.size;simp at this;omega⟩)
         have c3:=hgb.cell 3;have c5:=hgb.cell 5;have u0:=S4.o.b9.cell 0;have u1:=S4.o.b9.cell 1;have t0:=S4.o.b9.frozen 0;have h9l:=S4.o.b9.lt;simp at c3 c5 u0 u1
         have FE:=hD (aAh F1 S4.o.st.fr (Nat.le_of_lt HG));have FB:Hd (Blk (w4.setCell ⟨T9,0,none⟩ (.slice NA s'.nodes.length NC)) T9 26 #[.slice NA s'.nodes.length NC,.slice FA fns.length FC]):=S4.o.b9.setCell 0 _;have TB:Hd (Blk (w4.setCell ⟨T9,0,none⟩ (.slice NA s'.nodes.length NC)) w.heap.size 26 #[.slice none 0 0,.slice none 0 0]):=S4.o.bt.far (p:=⟨T9,0,none⟩) S4.o.ne _;have TR2:=hD (TR.o.far (M:=bQ T9) ((Fr.refl _ w4).setCell ⟨T9,0,none⟩ (.slice NA s'.nodes.length NC) (λ_=>rfl)) (λk hk=>by rw[show k=T9 from hk];exact⟨_,S4.o.b9⟩));have FE2:Hd (Fr nob w (w4.setCell ⟨T9,0,none⟩ (.slice NA s'.nodes.length NC))):=FE.o.setCell ⟨T9,0,none⟩ _ (λh=>by have h':T9<w.heap.size:=h;have:=S4.o.h9;have h3:=F1.o.size;simp at h3;omega);clear hrd hgb hon hnew S FE TR HK HN HKI;by_cases q3:300<s'.nodes.length
         . have n3:(300:Int)<(s'.nodes.length:Int):=by omega
           have HB0:=hD (show (true || fns.any (λf=>decide (3<f.params.length)))=decide (300<s'.nodes.length∨6<fns.length∨fns.any (λf=>decide (3<f.params.length))=true) by rw[Bool.eq_iff_iff,decide_eq_true_eq];simp[q3]);clear q3;go_wp2_with fail
           clear c3 c5 u0 u1 t0 h9l S4 he he2;generalize w4.setCell ⟨T9,0,none⟩ (.slice NA s'.nodes.length NC)=w5 at *;have HD:=hD (show w5.cell? ⟨T9,1,none⟩=some (.slice FA fns.length FC) by simpa using FB.o.cell 1);have hFL:(fns.length:Int)≤9223372036854775807:=by have:=hc2f;unfold maxLen at this;omega
           clear hc2f;go_loop [12,13] (λb i=>∃j:Nat,j≤fns.length∧i = .int .i64 j∧b = .bool (true || (fns.take j).any (λf=>decide (3<f.params.length)))) (λ_ i=>fns.length - (intOf i).toNat)
           case atStart=>exact⟨0,Nat.zero_le _,rfl,by first|(simp;done)|(simp;omega)⟩
           case round=>
             obtain⟨j,hj,rfl,rfl⟩:=hrel;have d1:=HD.o;by_cases hlt:j<fns.length
             . have hlt2:(j:Int)<(fns.length:Int):=by omega
               have hls:j<pvs.length:=by have:=TR2.o.samef;omega
               obtain⟨f,hf⟩:∃f,fns[j]?=some f:=⟨_,gE hlt⟩;obtain⟨pv,hpv⟩:∃pv,pvs[j]?=some pv:=⟨_,gE hls⟩;obtain⟨PA,PC,rfl,_,_⟩:=(TR2.o.pars.get hf hpv).cap;obtain⟨fb,rfl,hcell⟩:=TR2.o.fns.some (by omega);have e2:=hcell (j*5+2) _ (jY hf hpv);have HTK:=hD (show ∀p:aH->Bool,(fns.take (j+1)).any p=((fns.take j).any p || p f) from λp=>by
                 rw[List.take_add_one,hf,List.any_append];simp)
               clear hls hf hpv hcell;obtain⟨cur,hcur⟩:∃cur,(true || (fns.take j).any (λf=>decide (3<f.params.length)))=cur:=⟨_,rfl⟩;rw[hcur];have HCUR:=hD hcur;clear hcur;cases cur with
               | true=>
                 go_wp2
                 go_round
                 case rel=>exact⟨j+1,by omega,by go_num,by rw[HTK.o,<-Bool.or_assoc,HCUR.o];rfl⟩
                 case measure=>simp[intOf];omega
               | false=>
                 by_cases h3:3<f.params.length
                 case' pos=>
                  have h3b:(3:Int)<(f.params.length:Int):=by omega
                  have h3d:=hD (decide_eq_true h3)
                 case' neg=>
                  have h3b:(f.params.length:Int)≤3:=by omega
                  have h3d:=hD (decide_eq_false h3)
                 all_goals
                  clear h3;go_wp2
                  go_round
                  case rel=>exact⟨j+1,by omega,by go_num,by rw[HTK.o,<-Bool.or_assoc,HCUR.o,h3d.o];first|done|rfl|(simp;done)|(simp;omega)⟩
                  case measure=>simp[intOf];omega
             . have hle:(fns.length:Int)≤(j:Int):=by omega
               have htk:=List.take_of_length_le (show fns.length≤j by omega);rw[htk,HB0.o];have t0:=TB.o.frozen 0;have t1:=TB.o.frozen 1;have u0:=TB.o.cell 0;have u1:=TB.o.cell 1;have ul:=TB.o.lt;have d0:w5.cell? ⟨T9,0,none⟩=some (.slice NA s'.nodes.length NC):=by simpa using FB.o.cell 0
               simp at u0 u1
               clear htk;obtain⟨bg,hbg⟩:∃bg,decide (300<s'.nodes.length∨6<fns.length∨fns.any (λf=>decide (3<f.params.length))=true)=bg:=⟨_,rfl⟩;rw[hbg];cases bg with
               | true=>
                 have HR2:=hD (show r = .bad 0 4 by rw[HRR2.o,if_pos (of_decide_eq_true hbg)]);have FE:=FE2;clear hbg;go_wp2
                 clear t0 t1 u0 u1 ul d0 d1;have hB2:=((TB.o.setCell 0 (.slice none 0 0)).setCell 1 (.slice none 0 0));have F2:Hd (Fr nob w (((w5.setCell ⟨w.heap.size,0,none⟩ (.slice none 0 0)).setCell ⟨w.heap.size,1,none⟩ (.slice none 0 0)))):=((FE.o.setCell ⟨w.heap.size,0,none⟩ (.slice none 0 0) (λh=>absurd h (Nat.lt_irrefl _))).setCell ⟨w.heap.size,1,none⟩ (.slice none 0 0) (λh=>absurd h (Nat.lt_irrefl _)));have hB3:Blk (((w5.setCell ⟨w.heap.size,0,none⟩ (.slice none 0 0)).setCell ⟨w.heap.size,1,none⟩ (.slice none 0 0))) w.heap.size 26 #[.slice none 0 0,.slice none 0 0]:=hB2;clear hB2;generalize ((w5.setCell ⟨w.heap.size,0,none⟩ (.slice none 0 0)).setCell ⟨w.heap.size,1,none⟩ (.slice none 0 0))=we at *;have z0:=hB3.cell 0;have z1:=hB3.cell 1;simp at z0 z1
                 clear hB3;refine bodyPost_ret (v:= .tuple #[.agg #[.slice none 0 0,.slice none 0 0],.int .i64 0,.int .i64 4]) (by simp[results,results30,go_sem,z0,z1]) rfl ⟨by rw[HR2.o];rfl,F2⟩
               | false=>
                 have HR2:=hD (show r = .good s'.nodes fns by rw[HRR2.o,if_neg (of_decide_eq_false hbg)]);clear hbg;go_wp2
                 clear t0 t1 u0 u1 ul d0 d1;have hB2:=((TB.o.setCell 0 (.slice NA s'.nodes.length NC)).setCell 1 (.slice FA fns.length FC));have F2:Hd (Fr nob w ((w5.setCell ⟨w.heap.size,0,none⟩ (.slice NA s'.nodes.length NC)).setCell ⟨w.heap.size,1,none⟩ (.slice FA fns.length FC))):=((FE2.o.setCell ⟨w.heap.size,0,none⟩ _ (λh=>absurd h (Nat.lt_irrefl _))).setCell ⟨w.heap.size,1,none⟩ _ (λh=>absurd h (Nat.lt_irrefl _)));have hone:Fr (bQ w.heap.size) w5 ((w5.setCell ⟨w.heap.size,0,none⟩ (.slice NA s'.nodes.length NC)).setCell ⟨w.heap.size,1,none⟩ (.slice FA fns.length FC)):=by
                   have h1:Fr (bQ w.heap.size) w5 (w5.setCell ⟨w.heap.size,0,none⟩ (.slice NA s'.nodes.length NC)):=(Fr.refl _ _).setCell _ _ (λ_=>rfl);exact h1.setCell ⟨w.heap.size,1,none⟩ _ (λ_=>rfl)
                 have TR3:=hD (TR2.o.far hone (λk hk=>by rw[show k=w.heap.size from hk];exact⟨_,TB⟩));have hB3:Blk ((w5.setCell ⟨w.heap.size,0,none⟩ (.slice NA s'.nodes.length NC)).setCell ⟨w.heap.size,1,none⟩ (.slice FA fns.length FC)) w.heap.size 26 #[.slice NA s'.nodes.length NC,.slice FA fns.length FC]:=hB2;clear hB2 hone;generalize (w5.setCell ⟨w.heap.size,0,none⟩ (.slice NA s'.nodes.length NC)).setCell ⟨w.heap.size,1,none⟩ (.slice FA fns.length FC)=we at *;have z0:=hB3.cell 0;have z1:=hB3.cell 1;simp at z0 z1
                 clear hB3;refine bodyPost_ret (v:= .tuple #[.agg #[.slice NA s'.nodes.length NC,.slice FA fns.length FC],.int .i64 0,.int .i64 0]) (by simp[results,results30,go_sem,z0,z1]) rfl ⟨by rw[HR2.o];exact⟨_,_,lvs,pvs,rfl,TR3⟩,F2⟩
         . by_cases q6:6<fns.length
           . have n3:(s'.nodes.length:Int)≤300:=by omega
             have n6:(6:Int)<(fns.length:Int):=by omega
             have HB0:=hD (show (true || fns.any (λf=>decide (3<f.params.length)))=decide (300<s'.nodes.length∨6<fns.length∨fns.any (λf=>decide (3<f.params.length))=true) by rw[Bool.eq_iff_iff,decide_eq_true_eq];simp[q3,q6]);clear q3 q6;go_wp2_with fail
             clear c3 c5 u0 u1 t0 h9l S4 he he2;generalize w4.setCell ⟨T9,0,none⟩ (.slice NA s'.nodes.length NC)=w5 at *;have HD:=hD (show w5.cell? ⟨T9,1,none⟩=some (.slice FA fns.length FC) by simpa using FB.o.cell 1);have hFL:(fns.length:Int)≤9223372036854775807:=by have:=hc2f;unfold maxLen at this;omega
             clear hc2f;go_loop [12,13] (λb i=>∃j:Nat,j≤fns.length∧i = .int .i64 j∧b = .bool (true || (fns.take j).any (λf=>decide (3<f.params.length)))) (λ_ i=>fns.length - (intOf i).toNat)
             case atStart=>exact⟨0,Nat.zero_le _,rfl,by first|(simp;done)|(simp;omega)⟩
             case round=>
               obtain⟨j,hj,rfl,rfl⟩:=hrel;have d1:=HD.o;by_cases hlt:j<fns.length
               . have hlt2:(j:Int)<(fns.length:Int):=by omega
                 have hls:j<pvs.length:=by have:=TR2.o.samef;omega
                 obtain⟨f,hf⟩:∃f,fns[j]?=some f:=⟨_,gE hlt⟩;obtain⟨pv,hpv⟩:∃pv,pvs[j]?=some pv:=⟨_,gE hls⟩;obtain⟨PA,PC,rfl,_,_⟩:=(TR2.o.pars.get hf hpv).cap;obtain⟨fb,rfl,hcell⟩:=TR2.o.fns.some (by omega);have e2:=hcell (j*5+2) _ (jY hf hpv);have HTK:=hD (show ∀p:aH->Bool,(fns.take (j+1)).any p=((fns.take j).any p || p f) from λp=>by
                   rw[List.take_add_one,hf,List.any_append];simp)
                 clear hls hf hpv hcell;obtain⟨cur,hcur⟩:∃cur,(true || (fns.take j).any (λf=>decide (3<f.params.length)))=cur:=⟨_,rfl⟩;rw[hcur];have HCUR:=hD hcur;clear hcur;cases cur with
                 | true=>
                   go_wp2
                   go_round
                   case rel=>exact⟨j+1,by omega,by go_num,by rw[HTK.o,<-Bool.or_assoc,HCUR.o];rfl⟩
                   case measure=>simp[intOf];omega
                 | false=>
                   by_cases h3:3<f.params.length
                   case' pos=>
                    have h3b:(3:Int)<(f.params.length:Int):=by omega
                    have h3d:=hD (decide_eq_true h3)
                   case' neg=>
                    have h3b:(f.params.length:Int)≤3:=by omega
                    have h3d:=hD (decide_eq_false h3)
                   all_goals
                    clear h3;go_wp2
                    go_round
                    case rel=>exact⟨j+1,by omega,by go_num,by rw[HTK.o,<-Bool.or_assoc,HCUR.o,h3d.o];first|done|rfl|(simp;done)|(simp;omega)⟩
                    case measure=>simp[intOf];omega
               . have hle:(fns.length:Int)≤(j:Int):=by omega
                 have htk:=List.take_of_length_le (show fns.length≤j by omega);rw[htk,HB0.o];have t0:=TB.o.frozen 0;have t1:=TB.o.frozen 1;have u0:=TB.o.cell 0;have u1:=TB.o.cell 1;have ul:=TB.o.lt;have d0:w5.cell? ⟨T9,0,none⟩=some (.slice NA s'.nodes.length NC):=by simpa using FB.o.cell 0
                 simp at u0 u1
                 clear htk;obtain⟨bg,hbg⟩:∃bg,decide (300<s'.nodes.length∨6<fns.length∨fns.any (λf=>decide (3<f.params.length))=true)=bg:=⟨_,rfl⟩;rw[hbg];cases bg with
                 | true=>
                   have HR2:=hD (show r = .bad 0 4 by rw[HRR2.o,if_pos (of_decide_eq_true hbg)]);have FE:=FE2;clear hbg;go_wp2
                   clear t0 t1 u0 u1 ul d0 d1;have hB2:=((TB.o.setCell 0 (.slice none 0 0)).setCell 1 (.slice none 0 0));have F2:Hd (Fr nob w (((w5.setCell ⟨w.heap.size,0,none⟩ (.slice none 0 0)).setCell ⟨w.heap.size,1,none⟩ (.slice none 0 0)))):=((FE.o.setCell ⟨w.heap.size,0,none⟩ (.slice none 0 0) (λh=>absurd h (Nat.lt_irrefl _))).setCell ⟨w.heap.size,1,none⟩ (.slice none 0 0) (λh=>absurd h (Nat.lt_irrefl _)));have hB3:Blk (((w5.setCell ⟨w.heap.size,0,none⟩ (.slice none 0 0)).setCell ⟨w.heap.size,1,none⟩ (.slice none 0 0))) w.heap.size 26 #[.slice none 0 0,.slice none 0 0]:=hB2;clear hB2;generalize ((w5.setCell ⟨w.heap.size,0,none⟩ (.slice none 0 0)).setCell ⟨w.heap.size,1,none⟩ (.slice none 0 0))=we at *;have z0:=hB3.cell 0;have z1:=hB3.cell 1;simp at z0 z1
                   clear hB3;refine bodyPost_ret (v:= .tuple #[.agg #[.slice none 0 0,.slice none 0 0],.int .i64 0,.int .i64 4]) (by simp[results,results30,go_sem,z0,z1]) rfl ⟨by rw[HR2.o];rfl,F2⟩
                 | false=>
                   have HR2:=hD (show r = .good s'.nodes fns by rw[HRR2.o,if_neg (of_decide_eq_false hbg)]);clear hbg;go_wp2
                   clear t0 t1 u0 u1 ul d0 d1;have hB2:=((TB.o.setCell 0 (.slice NA s'.nodes.length NC)).setCell 1 (.slice FA fns.length FC));have F2:Hd (Fr nob w ((w5.setCell ⟨w.heap.size,0,none⟩ (.slice NA s'.nodes.length NC)).setCell ⟨w.heap.size,1,none⟩ (.slice FA fns.length FC))):=((FE2.o.setCell ⟨w.heap.size,0,none⟩ _ (λh=>absurd h (Nat.lt_irrefl _))).setCell ⟨w.heap.size,1,none⟩ _ (λh=>absurd h (Nat.lt_irrefl _)));have hone:Fr (bQ w.heap.size) w5 ((w5.setCell ⟨w.heap.size,0,none⟩ (.slice NA s'.nodes.length NC)).setCell ⟨w.heap.size,1,none⟩ (.slice FA fns.length FC)):=by
                     have h1:Fr (bQ w.heap.size) w5 (w5.setCell ⟨w.heap.size,0,none⟩ (.slice NA s'.nodes.length NC)):=(Fr.refl _ _).setCell _ _ (λ_=>rfl);exact h1.setCell ⟨w.heap.size,1,none⟩ _ (λ_=>rfl)
                   have TR3:=hD (TR2.o.far hone (λk hk=>by rw[show k=w.heap.size from hk];exact⟨_,TB⟩));have hB3:Blk ((w5.setCell ⟨w.heap.size,0,none⟩ (.slice NA s'.nodes.length NC)).setCell ⟨w.heap.size,1,none⟩ (.slice FA fns.length FC)) w.heap.size 26 #[.slice NA s'.nodes.length NC,.slice FA fns.length FC]:=hB2;clear hB2 hone;generalize (w5.setCell ⟨w.heap.size,0,none⟩ (.slice NA s'.nodes.length NC)).setCell ⟨w.heap.size,1,none⟩ (.slice FA fns.length FC)=we at *;have z0:=hB3.cell 0;have z1:=hB3.cell 1;simp at z0 z1
                   clear hB3;refine bodyPost_ret (v:= .tuple #[.agg #[.slice NA s'.nodes.length NC,.slice FA fns.length FC],.int .i64 0,.int .i64 0]) (by simp[results,results30,go_sem,z0,z1]) rfl ⟨by rw[HR2.o];exact⟨_,_,lvs,pvs,rfl,TR3⟩,F2⟩
           . have n3:(s'.nodes.length:Int)≤300:=by omega
             have n6:(fns.length:Int)≤6:=by omega
             have HB0:=hD (show (false || fns.any (λf=>decide (3<f.params.length)))=decide (300<s'.nodes.length∨6<fns.length∨fns.any (λf=>decide (3<f.params.length))=true) by rw[Bool.eq_iff_iff,decide_eq_true_eq];simp[q3,q6]);clear q3 q6;go_wp2_with fail
             clear c3 c5 u0 u1 t0 h9l S4 he he2;generalize w4.setCell ⟨T9,0,none⟩ (.slice NA s'.nodes.length NC)=w5 at *;have HD:=hD (show w5.cell? ⟨T9,1,none⟩=some (.slice FA fns.length FC) by simpa using FB.o.cell 1);have hFL:(fns.length:Int)≤9223372036854775807:=by have:=hc2f;unfold maxLen at this;omega
             clear hc2f;go_loop [12,13] (λb i=>∃j:Nat,j≤fns.length∧i = .int .i64 j∧b = .bool (false || (fns.take j).any (λf=>decide (3<f.params.length)))) (λ_ i=>fns.length - (intOf i).toNat)
             case atStart=>exact⟨0,Nat.zero_le _,rfl,by first|(simp;done)|(simp;omega)⟩
             case round=>
               obtain⟨j,hj,rfl,rfl⟩:=hrel;have d1:=HD.o;by_cases hlt:j<fns.length
               . have hlt2:(j:Int)<(fns.length:Int):=by omega
                 have hls:j<pvs.length:=by have:=TR2.o.samef;omega
                 obtain⟨f,hf⟩:∃f,fns[j]?=some f:=⟨_,gE hlt⟩;obtain⟨pv,hpv⟩:∃pv,pvs[j]?=some pv:=⟨_,gE hls⟩;obtain⟨PA,PC,rfl,_,_⟩:=(TR2.o.pars.get hf hpv).cap;obtain⟨fb,rfl,hcell⟩:=TR2.o.fns.some (by omega);have e2:=hcell (j*5+2) _ (jY hf hpv);have HTK:=hD (show ∀p:aH->Bool,(fns.take (j+1)).any p=((fns.take j).any p || p f) from λp=>by
                   rw[List.take_add_one,hf,List.any_append];simp)
                 clear hls hf hpv hcell;obtain⟨cur,hcur⟩:∃cur,(false || (fns.take j).any (λf=>decide (3<f.params.length)))=cur:=⟨_,rfl⟩;rw[hcur];have HCUR:=hD hcur;clear hcur;cases cur with
                 | true=>
                   go_wp2
                   go_round
                   case rel=>exact⟨j+1,by omega,by go_num,by rw[HTK.o,<-Bool.or_assoc,HCUR.o];rfl⟩
                   case measure=>simp[intOf];omega
                 | false=>
                   by_cases h3:3<f.params.length
                   case' pos=>
                    have h3b:(3:Int)<(f.params.length:Int):=by omega
                    have h3d:=hD (decide_eq_true h3)
                   case' neg=>
                    have h3b:(f.params.length:Int)≤3:=by omega
                    have h3d:=hD (decide_eq_false h3)
                   all_goals
                    clear h3;go_wp2
                    go_round
                    case rel=>exact⟨j+1,by omega,by go_num,by rw[HTK.o,<-Bool.or_assoc,HCUR.o,h3d.o];first|done|rfl|(simp;done)|(simp;omega)⟩
                    case measure=>simp[intOf];omega
               . have hle:(fns.length:Int)≤(j:Int):=by omega
                 have htk:=List.take_of_length_le (show fns.length≤j by omega);rw[htk,HB0.o];have t0:=TB.o.frozen 0;have t1:=TB.o.frozen 1;have u0:=TB.o.cell 0;have u1:=TB.o.cell 1;have ul:=TB.o.lt;have d0:w5.cell? ⟨T9,0,none⟩=some (.slice NA s'.nodes.length NC):=by simpa using FB.o.cell 0
                 simp at u0 u1
                 clear htk;obtain⟨bg,hbg⟩:∃bg,decide (300<s'.nodes.length∨6<fns.length∨fns.any (λf=>decide (3<f.params.length))=true)=bg:=⟨_,rfl⟩;rw[hbg];cases bg with
                 | true=>
                   have HR2:=hD (show r = .bad 0 4 by rw[HRR2.o,if_pos (of_decide_eq_true hbg)]);have FE:=FE2;clear hbg;go_wp2
                   clear t0 t1 u0 u1 ul d0 d1;have hB2:=((TB.o.setCell 0 (.slice none 0 0)).setCell 1 (.slice none 0 0));have F2:Hd (Fr nob w (((w5.setCell ⟨w.heap.size,0,none⟩ (.slice none 0 0)).setCell ⟨w.heap.size,1,none⟩ (.slice none 0 0)))):=((FE.o.setCell ⟨w.heap.size,0,none⟩ (.slice none 0 0) (λh=>absurd h (Nat.lt_irrefl _))).setCell ⟨w.heap.size,1,none⟩ (.slice none 0 0) (λh=>absurd h (Nat.lt_irrefl _)));have hB3:Blk (((w5.setCell ⟨w.heap.size,0,none⟩ (.slice none 0 0)).setCell ⟨w.heap.size,1,none⟩ (.slice none 0 0))) w.heap.size 26 #[.slice none 0 0,.slice none 0 0]:=hB2;clear hB2;generalize ((w5.setCell ⟨w.heap.size,0,none⟩ (.slice none 0 0)).setCell ⟨w.heap.size,1,none⟩ (.slice none 0 0))=we at *;have z0:=hB3.cell 0;have z1:=hB3.cell 1;simp at z0 z1
                   clear hB3;refine bodyPost_ret (v:= .tuple #[.agg #[.slice none 0 0,.slice none 0 0],.int .i64 0,.int .i64 4]) (by simp[results,results30,go_sem,z0,z1]) rfl ⟨by rw[HR2.o];rfl,F2⟩
                 | false=>
                   have HR2:=hD (show r = .good s'.nodes fns by rw[HRR2.o,if_neg (of_decide_eq_false hbg)]);clear hbg;go_wp2
                   clear t0 t1 u0 u1 ul d0 d1;have hB2:=((TB.o.setCell 0 (.slice NA s'.nodes.length NC)).setCell 1 (.slice FA fns.length FC));have F2:Hd (Fr nob w ((w5.setCell ⟨w.heap.size,0,none⟩ (.slice NA s'.nodes.length NC)).setCell ⟨w.heap.size,1,none⟩ (.slice FA fns.length FC))):=((FE2.o.setCell ⟨w.heap.size,0,none⟩ _ (λh=>absurd h (Nat.lt_irrefl _))).setCell ⟨w.heap.size,1,none⟩ _ (λh=>absurd h (Nat.lt_irrefl _)));have hone:Fr (bQ w.heap.size) w5 ((w5.setCell ⟨w.heap.size,0,none⟩ (.slice NA s'.nodes.length NC)).setCell ⟨w.heap.size,1,none⟩ (.slice FA fns.length FC)):=by
                     have h1:Fr (bQ w.heap.size) w5 (w5.setCell ⟨w.heap.size,0,none⟩ (.slice NA s'.nodes.length NC)):=(Fr.refl _ _).setCell _ _ (λ_=>rfl);exact h1.setCell ⟨w.heap.size,1,none⟩ _ (λ_=>rfl)
                   have TR3:=hD (TR2.o.far hone (λk hk=>by rw[show k=w.heap.size from hk];exact⟨_,TB⟩));have hB3:Blk ((w5.setCell ⟨w.heap.size,0,none⟩ (.slice NA s'.nodes.length NC)).setCell ⟨w.heap.size,1,none⟩ (.slice FA fns.length FC)) w.heap.size 26 #[.slice NA s'.nodes.length NC,.slice FA fns.length FC]:=hB2;clear hB2 hone;generalize (w5.setCell ⟨w.heap.size,0,none⟩ (.slice NA s'.nodes.length NC)).setCell ⟨w.heap.size,1,none⟩ (.slice FA fns.length FC)=we at *;have z0:=hB3.cell 0;have z1:=hB3.cell 1;simp at z0 z1
                   clear hB3;refine bodyPost_ret (v:= .tuple #[.agg #[.slice NA s'.nodes.length NC,.slice FA fns.length FC],.int .i64 0,.int .i64 0]) (by simp[results,results30,go_sem,z0,z1]) rfl ⟨by rw[HR2.o];exact⟨_,_,lvs,pvs,rfl,TR3⟩,F2⟩
       . rw[if_neg hk] at hr
         simp only[bS] at hr;obtain⟨fs,hfs,hr⟩:=hr;have HN2:=hD (Nat.le_trans (aT (nO _ _ _ _ hr)) HN);have HKI:=hD (show bJ ts 0 s'=false by simpa using hk);have HFS:=hD hfs;have HR2:=hD hr;have HB2:=hD (show fns.length≤40000 by have:=HK.o;have:=HFU.o;omega);clear hr hk h0 hfs HR;go_wp2_with fail
         refine stepM (S.o.step (S.o.st.here.kind 0 HKI)) λw4 S4=>?_;clear hg c1 c2 c4 c5 f2 f4 S he he2;go_wp2_with fail
         refine (aKx (aKs k) S4.o.st.here HFS HN2).mono ?_;rintro e w5 ⟨⟨pv,rfl,hpo,hpn⟩,h5⟩;obtain⟨PA,PC,rfl,_,_⟩:=hpo.cap;have S5:=hD (S4.o.to h5);have HPO:=hD hpo;clear h5 hpo hpn S4;obtain⟨FA,FC,rfl,hf1,hf2⟩:=S5.o.own.cap;clear hf1 hf2;have u0:=S5.o.b9.cell 0;have u1:=S5.o.b9.cell 1;have t1:=S5.o.b9.frozen 1;have h9l:=S5.o.b9.lt;simp at u0 u1
         go_wp2_with (at_builtin;go_loud (refine aI (m:=1) (news:=[.string (bs fs.1.name),.int .i64 fs.1.line,.slice PA fs.1.params.length PC,.int .i64 fs.1.ret,.int .i64 fs.1.body]) rfl _ _ rfl aQn rfl rfl ((S5.o.own.alloc _).alloc _) (Rd.eD (n:=1) (cs:=[.string (bs fs.1.name),.int .i64 fs.1.line,.slice PA fs.1.params.length PC,.int .i64 fs.1.ret,.int .i64 fs.1.body]) (Blk.new1 _ _ _ _) rfl (by decide)) (by simp[Value.oneCell']) (by have h9:=HB2.o;omega) (by have h9:=HB2.o;unfold maxLen;omega) ?_);go_loud (intro A6 c6 w6 ho6 hf6 hv6;have S6:=hD (S5.o.app (f:=fs.1) HPO ho6 hf6 hv6);have g2:=(((S5.o.b9.alloc _).alloc _).fr hf6 (λhm=>S5.o.own.aD S5.o.b9 (by decide) hm)).frozen 1;have g3:=(((S5.o.b9.alloc _).alloc _).fr hf6 (λhm=>S5.o.own.aD S5.o.b9 (by decide) hm)).cell 1;have g4:=(((S5.o.b9.alloc _).alloc _).fr hf6 (λhm=>S5.o.own.aD S5.o.b9 (by decide) hm)).lt;simp at g3;clear ho6 hf6 hv6 u0 u1 t1 h9l))
         go_roundg k
         case measure=>omega
         case rel=>exact⟨fns++[fs.1],pvs++[.slice PA fs.1.params.length PC],fs.2,_,hD (by have:=HK.o;rw[List.length_append];simp;omega),S6,HR2⟩
theorem dF:∀{fs:List aH}{vs:List Value}{j:Nat}{f:aH}{v:Value},fs[j]?=some f->vs[j]?=some v->∀i u,(jL f v)[i]?=some u->(cO fs vs)[j*5+i]?=some u
 | [],_,_,_,_,h,_=>by simp at h
 | _ :: _,[],_,_,_,_,h=>by simp at h
 | a :: fs,b :: vs,0,f,v,h,h2=>by
  simp at h h2;subst h;subst h2
  intro i u hu;rw[cO,List.getElem?_append_left (by have:=(gK hu);omega),Nat.zero_mul,Nat.zero_add];exact hu
 | a :: fs,b :: vs,j+1,f,v,h,h2=>by
  intro i u hu;have:=dF (fs:=fs) (vs:=vs) (j:=j) (by simpa using h) (by simpa using h2) i u hu;rw[cO,List.getElem?_append_right (by simp[jL];omega),show (jL a b).length=5 from rfl,show (j+1)*5+i - 5=j*5+i by omega];exact this
theorem aN:∀{l:List (List UInt8×Nat)}{i:Nat}{q:List UInt8×Nat},l[i]?=some q->(aM l)[i*2]?=some (.string (bs q.1))∧(aM l)[i*2+1]?=some (.int .i64 (q.2:Nat))
 | [],_,_,h=>by simp at h
 | a :: l,0,q,h=>by simp at h;subst h;exact⟨rfl,rfl⟩
 | a :: l,i+1,q,h=>by
  have ih:=aN (l:=l) (i:=i) (by simpa using h);have e:aM (a :: l) = .string (bs a.1) :: .int .i64 (a.2:Nat) :: aM l:=rfl;rw[e,show (i+1)*2=i*2+1+1 by omega,List.getElem?_cons_succ,List.getElem?_cons_succ,show i*2+1+1+1=(i*2+1)+1+1 by omega,List.getElem?_cons_succ,List.getElem?_cons_succ];exact ih
theorem gY:∀{ns:List aG}{vs:List Value}{j:Nat}{nd:aG}{v:Value},ns[j]?=some nd->vs[j]?=some v->∀i u,(kH nd v)[i]?=some u->(bY ns vs)[j*5+i]?=some u
 | [],_,_,_,_,h,_=>by simp at h
 | _ :: _,[],_,_,_,_,h=>by simp at h
 | a :: ns,b :: vs,0,nd,v,h,h2=>by
  simp at h h2;subst h;subst h2
  intro i u hu;rw[bY,List.getElem?_append_left (by have:=(gK hu);omega),Nat.zero_mul,Nat.zero_add];exact hu
 | a :: ns,b :: vs,j+1,nd,v,h,h2=>by
  intro i u hu;have:=gY (ns:=ns) (vs:=vs) (j:=j) (by simpa using h) (by simpa using h2) i u hu;rw[bY,List.getElem?_append_right (by simp[kH];omega),show (kH a b).length=5 from rfl,show (j+1)*5+i - 5=j*5+i by omega];exact this
theorem bB.get:∀{ns:List aG}{vs:List Value}{j:Nat}{nd:aG}{v:Value},bB w ns vs->ns[j]?=some nd->vs[j]?=some v->Own w 3 1 v nd.l.length (ints nd.l)
 | [],_,_,_,_,_,h,_=>by simp at h
 | _ :: _,[],_,_,_,_,_,h=>by simp at h
 | a :: ns,b :: vs,0,nd,v,hp,h,h2=>by simp at h h2;subst h;subst h2;exact hp.1
 | a :: ns,b :: vs,j+1,nd,v,hp,h,h2=>bB.get hp.2 (by simpa using h) (by simpa using h2)
section
variable {g:Nat}{lvs pvs:List Value}{ns:List aG}{fs:List aH}{w0 w w':World}{out:List UInt8}{NA FA:Option Addr}{NC FC:Nat}
theorem bW.node (h:bW B w nv fv lvs pvs ns fs){x:Nat}{nd:aG} (hx:ns[x]?=some nd):∃nb c lv,nv = .slice (some ⟨nb,0,none⟩) ns.length c∧ns.length≤c∧Own w 3 1 lv nd.l.length (ints nd.l) ∧
  w.cell? ⟨nb,x*5,none⟩=some (.int .i64 nd.kind)∧w.cell? ⟨nb,x*5+1,none⟩=some (.int .i64 nd.line)∧w.cell? ⟨nb,x*5+2,none⟩=some (.int .i64 nd.n)∧w.cell? ⟨nb,x*5+3,none⟩=some (.string (bs nd.name))∧w.cell? ⟨nb,x*5+4,none⟩=some lv:=by
 have hlt:=(gK hx);obtain⟨A,c,rfl,hc,_⟩:=h.nodes.cap;obtain⟨nb,rfl,hcell⟩:=h.nodes.some (by omega);obtain⟨lv,hlv⟩:∃lv,lvs[x]?=some lv:=⟨_,gE (by have:=h.same;omega)⟩;have key:=gY hx hlv;exact⟨nb,c,lv,rfl,hc,h.below.get hx hlv,hcell _ _ (key 0 _ rfl),hcell _ _ (key 1 _ rfl),hcell _ _ (key 2 _ rfl),hcell _ _ (key 3 _ rfl),hcell _ _ (key 4 _ rfl)⟩
theorem cB {v:Value}{l:List Nat} (h:Own w 3 1 v l.length (ints l)) (h0:0<l.length):∃kb c,v = .slice (some ⟨kb,0,none⟩) l.length c∧l.length≤c∧∀j a,l[j]?=some a->w.cell? ⟨kb,j,none⟩=some (.int .i64 (a:Nat)):=by
 obtain⟨A,c,rfl,hc,_⟩:=h.cap;obtain⟨kb,rfl,hcell⟩:=h.some h0;exact⟨kb,c,rfl,hc,λj a ha=>hcell _ _ (by simp[ints,ha])⟩
end
section
variable {nv fv:Value}{lvs pvs:List Value}{ns:List aG}{fs:List aH}{w w':World}
theorem bW.no (h:bW 0 w nv fv lvs pvs ns fs) (f:Fr nob w w'):bW 0 w' nv fv lvs pvs ns fs:=
 ⟨h.nodes.fr f (λ_ _ x=>x),h.below.no f,h.same,h.fns.fr f (λ_ _ x=>x),h.pars.to f (λ_ _ _ x=>x),h.samef,h.newn,h.newf⟩
theorem bW.node3 {nb c:Nat}{fv:Value} (h:bW B w (.slice (some ⟨nb,0,none⟩) ns.length c) fv lvs pvs ns fs){x:Nat}{nd:aG} (hx:ns[x]?=some nd){lv:Value} (hlv:lvs[x]?=some lv):Own w 3 1 lv nd.l.length (ints nd.l) ∧
  w.cell? ⟨nb,x*5,none⟩=some (.int .i64 nd.kind)∧w.cell? ⟨nb,x*5+1,none⟩=some (.int .i64 nd.line)∧w.cell? ⟨nb,x*5+2,none⟩=some (.int .i64 nd.n)∧w.cell? ⟨nb,x*5+3,none⟩=some (.string (bs nd.name))∧w.cell? ⟨nb,x*5+4,none⟩=some lv:=by
 have hlt:=(gK hx);obtain⟨nb',e,hcell⟩:=h.nodes.some (by omega);injection e with e;injection e with e;subst e;have key:=gY hx hlv;exact⟨h.below.get hx hlv,hcell _ _ (key 0 _ rfl),hcell _ _ (key 1 _ rfl),hcell _ _ (key 2 _ rfl),hcell _ _ (key 3 _ rfl),hcell _ _ (key 4 _ rfl)⟩
theorem bW.fn {fb c:Nat}{w:World} (h:bW B w nv (.slice (some ⟨fb,0,none⟩) fs.length c) lvs pvs ns fs){j:Nat}{f:aH} (hf:fs[j]?=some f):∃pv,Own w 101 2 pv f.params.length (aM f.params) ∧
  w.cell? ⟨fb,j*5,none⟩=some (.string (bs f.name))∧w.cell? ⟨fb,j*5+1,none⟩=some (.int .i64 f.line)∧w.cell? ⟨fb,j*5+2,none⟩=some pv∧w.cell? ⟨fb,j*5+3,none⟩=some (.int .i64 f.ret)∧w.cell? ⟨fb,j*5+4,none⟩=some (.int .i64 f.body):=by
 have hlt:=(gK hf);obtain⟨fb',e,hcell⟩:=h.fns.some (by omega);injection e with e;injection e with e;subst e;obtain⟨pv,hpv⟩:∃pv,pvs[j]?=some pv:=⟨_,gE (by have:=h.samef;omega)⟩;have key:=dF hf hpv;exact⟨pv,h.pars.get hf hpv,hcell _ _ (key 0 _ rfl),hcell _ _ (key 1 _ rfl),hcell _ _ (key 2 _ rfl),hcell _ _ (key 3 _ rfl),hcell _ _ (key 4 _ rfl)⟩
end
theorem bW.zero {lvs pvs:List Value}{ns:List aG}{fs:List aH} (h:bW B w nv fv lvs pvs ns fs):bW 0 w nv fv lvs pvs ns fs:=
 ⟨h.nodes,h.below,h.same,h.fns,h.pars,h.samef,λ_ _=>Nat.zero_le _,λ_ _=>Nat.zero_le _⟩
end Go.Proofs.YtlbjicjinnnboaaGreatDoor
/- The parser: what holds of the tree of a source. -/
namespace Go.Proofs.YtlbjicjinnnboaaGreatDoor
namespace Pw
open Go.RowKit Go.Proofs.Tryz
variable {ns:List aG}{cls:Nat->Bool}{s:PS}{x:Nat}
def lH (k:Nat):Bool:=decide (1≤k) && decide (k≤9)
def oD (k:Nat):Bool:=lH k || (decide (19≤k) && decide (k≤21))
def aMf (k:Nat):Bool:=decide (10≤k) && decide (k≤17)
def xA (k:Nat):Bool:=decide (k=18)
def aNo (k:Nat):Bool:=decide (k=21)
def jD:List (List UInt8):=[[124,124],[38,38],[60],[60,61],[61,61],[33,61],[43],[45],[42],[47],[37]]
def Kid (ns:List aG) (cls:Nat->Bool) (x:Nat):Prop:=∃c,ns[x]?=some c∧cls c.kind=true
inductive dU (ns:List aG):aG->Prop where
 | int (line n:Nat) (h:n≤9223372036854775807):dU ns ⟨1,line,n,[],[]⟩
 | bool (line n:Nat) (h:n≤1):dU ns ⟨2,line,n,[],[]⟩
 | text (line:Nat) (x:List UInt8):dU ns ⟨3,line,0,x,[]⟩
 | var (line:Nat) (x:List UInt8):dU ns ⟨4,line,0,x,[]⟩
 | index (line:Nat) (x:List UInt8) (a:Nat) (h:Kid ns lH a):dU ns ⟨5,line,0,x,[a]⟩
 | len (line a:Nat) (h:Kid ns lH a):dU ns ⟨6,line,0,[],[a]⟩
 | neg (line a:Nat) (h:Kid ns lH a):dU ns ⟨7,line,0,[],[a]⟩
 | not (line a:Nat) (h:Kid ns lH a):dU ns ⟨8,line,0,[],[a]⟩
 | bin (line:Nat) (x:List UInt8) (a b:Nat) (hx:x∈jD) (h:Kid ns lH a) (h2:Kid ns lH b):dU ns ⟨9,line,0,x,[a,b]⟩
 | let_ (line:Nat) (x:List UInt8) (a:Nat) (h:Kid ns oD a):dU ns ⟨10,line,0,x,[a]⟩
 | set (line:Nat) (x:List UInt8) (a:Nat) (h:Kid ns oD a):dU ns ⟨11,line,0,x,[a]⟩
 | put (line:Nat) (x:List UInt8) (a b:Nat) (h:Kid ns lH a) (h2:Kid ns lH b):dU ns ⟨12,line,0,x,[a,b]⟩
 | do_ (line a:Nat) (h:Kid ns aNo a):dU ns ⟨13,line,0,[],[a]⟩
 | print (line a:Nat) (h:Kid ns lH a):dU ns ⟨14,line,0,[],[a]⟩
 | if2 (line a b:Nat) (h:Kid ns lH a) (h2:Kid ns xA b):dU ns ⟨15,line,0,[],[a,b]⟩
 | if3 (line a b c:Nat) (h:Kid ns lH a) (h2:Kid ns xA b) (h3:Kid ns xA c):dU ns ⟨15,line,0,[],[a,b,c]⟩
 | loop (line a b:Nat) (h:Kid ns lH a) (h2:Kid ns xA b):dU ns ⟨16,line,0,[],[a,b]⟩
 | ret0 (line:Nat):dU ns ⟨17,line,0,[],[]⟩
 | ret1 (line a:Nat) (h:Kid ns lH a):dU ns ⟨17,line,0,[],[a]⟩
 | block (line:Nat) (l:List Nat) (h:∀a∈l,Kid ns aMf a):dU ns ⟨18,line,0,[],l⟩
 | input (line:Nat):dU ns ⟨19,line,0,[],[]⟩
 | new (line a:Nat) (h:Kid ns lH a):dU ns ⟨20,line,0,[],[a]⟩
 | call (line:Nat) (x:List UInt8) (l:List Nat) (h:∀a∈l,Kid ns lH a):dU ns ⟨21,line,0,x,l⟩
def dX (ns:List aG):Prop:=∀i nd,ns[i]?=some nd->dU (ns.take i) nd
theorem dX.snoc {nd:aG} (h:dX ns) (hn:dU ns nd):dX (ns++[nd]):=by
 intro i x hx;by_cases hi:i<ns.length
 . rw[List.getElem?_append_left hi] at hx
   rw[List.take_append_of_le_length (by omega)];exact h i x hx
 . rw[List.getElem?_append_right (by omega)] at hx
   by_cases he:i=ns.length
   . subst he
     rw[Nat.sub_self] at hx;simp at hx
     subst hx;rw[List.take_left];exact hn
   . rw[List.getElem?_eq_none (by simp;omega)] at hx;cases hx
theorem Kid.mono (h:Kid ns cls x) (y:List aG):Kid (ns++y) cls x:=by
 obtain⟨c,hc,hk⟩:=h;exact⟨c,by rw[List.getElem?_append_left (gK hc)];exact hc,hk⟩
theorem Kid.ext {t:PS} (h:Kid s.nodes cls x) (e:Ext s t):Kid t.nodes cls x:=by
 obtain⟨y,hy⟩:=e.nodes;rw[hy];exact h.mono y
theorem Kid.new (ns:List aG) (nd:aG) (h:cls nd.kind=true):Kid (ns++[nd]) cls ns.length:=⟨nd,by simp,h⟩
theorem Kid.le {c1 c2:Nat->Bool} (h:Kid ns c1 x) (hc:∀k,c1 k=true->c2 k=true):Kid ns c2 x:=by
 obtain⟨c,h1,h2⟩:=h;exact⟨c,h1,hc _ h2⟩
section
variable {src:List UInt8}{ts:List Tok}
def aIp (ns:List aG) (cls:Nat->Bool) (l:List Nat):Prop:=∀a∈l,Kid ns cls a
def aQk (k:Task) (s:PS):Prop:=match k with
 | .more _ _ x=>Kid s.nodes lH x
 | .args l=>aIp s.nodes lH l
 | .stmts l=>aIp s.nodes aMf l
 | _=>True
def resT (k:Task):Nat->Bool:=match k with
 | .call=>aNo
 | .right=>oD
 | .block=>xA
 | .stmts _=>aMf
 | .named _=>aMf
 | .stmt=>aMf
 | _=>lH
theorem eH {k line n:Nat}{name:List UInt8}{l:List Nat} (h:dX s.nodes) (hn:dU s.nodes ⟨k,line,n,name,l⟩) (hc:cls k=true):
  dX (bO k line n name l s).2.nodes∧aIp (bO k line n name l s).2.nodes cls (bO k line n name l s).1:=
 ⟨h.snoc hn,λa ha=>by rw[List.mem_singleton.1 ha];exact Kid.new _ _ hc⟩
theorem lD (k:Nat) (s:PS):(aS ts k s).nodes=s.nodes:=by unfold aS;split<;>rfl
theorem aB (x:List UInt8) (s:PS):(aA ts x s).nodes=s.nodes:=by
 unfold aA;split
 . rfl
 . exact lD 20 s
theorem bX (s:PS):(aF ts s).nodes=s.nodes:=by
 unfold aF;split
 . rfl
 . exact lD 20 s
theorem jW (s:PS):(bL ts s).nodes=s.nodes:=by
 unfold bL;split
 . exact lD 20 s
 . rfl
theorem dJ (s:PS):(aW ts s).nodes=s.nodes:=by
 unfold aW;simp only;split
 . rw[lD]
 . rfl
theorem qP {k:Nat} (hk:k≠0) (h:(aS ts k s).e=0):False:=by
 unfold aS at h;split at h
 . exact hk h
 . rename_i h0;exact h0 h
theorem qK {l:List Nat} (h:aIp ns cls l) (h1:l=[oneOf l]):Kid ns cls (oneOf l):=h _ (by rw[h1];exact List.mem_singleton.2 rfl)
theorem wB {lv:Nat} (h:fI ts lv s≠[]):fI ts lv s∈jD:=by
 unfold fI at h ⊢;cases hf:(dO lv).find? λx=>pIs ts x s with
 | none=>rw[hf] at h;simp at h
 | some x=>
  have hm:=List.mem_of_find?_eq_some hf
  show x∈jD
  unfold dO at hm;have key:∀l:List (List UInt8),(∀y∈l,y∈jD)->x∈l->x∈jD:=λl h1 h2=>h1 x h2
  split at hm<;>exact key _ (by decide) hm
theorem aLv (ht:dA ts):∀(n:Nat) (k:Task) (s:PS) (r:List Nat×PS),run src ts n k s=some r->bZ ts s->r.2.e=0->dX s.nodes->aQk k s->dX r.2.nodes∧aIp r.2.nodes (resT k) r.1:=by
 intro n;induction n with
 | zero=>intro k s r h;simp[run] at h
 | succ n ih=>
  intro k s r h hs he hw hp;have ih2:∀{k:Task} {s:PS} {r:List Nat×PS} {ns:List aG},run src ts n k s=some r->bZ ts s->r.2.e=0->s.nodes=ns->dX ns->aQk k s->dX r.2.nodes∧aIp r.2.nodes (resT k) r.1:=λh1 h2 h3 h4 h5 h6=>ih _ _ _ h1 h2 h3 (by rw[h4];exact h5) h6
  cases k with
  | atom=>
   simp only[run] at h;split at h
   . rename_i h0
     simp only[Option.some.injEq] at h;subst h;exact absurd he h0
   . rename_i h0
     have h0:s.e=0:=by simpa using h0
     split at h
     . rename_i h1
       simp only[Option.some.injEq] at h;subst h;have hm:bF ts s∈ts:=by
         unfold bF;rw[List.getD,gE hs.room];exact List.getElem_mem _
       exact eH hw (.int _ _ (ht.nums _ hm h1).2.2) rfl
     . split at h
       . simp only[Option.some.injEq] at h;subst h;exact eH hw (.text _ _) rfl
       . split at h
         . rename_i h3
           split at h
           . rename_i hx
             simp only[mS] at h;obtain⟨q,hq,rfl⟩:=h;have hq1:=aK _ _ _ _ hq trivial;have e1:q.2.e=0:=((Ext.refl q.2).must (ts:=ts) [93]).e0 he;obtain⟨a,b⟩:=ih2 hq (((hs.kM ht h3 (by omega)).down ht h0).must ht _) e1 (by rw[aB,dJ];rfl) hw trivial;rw[hq1];refine eH (s:=pUp (aA ts [93] q.2)) (by show dX (aA ts [93] q.2).nodes;rw[aB];exact a) (.index _ _ _ ?_) rfl
             show Kid (aA ts [93] q.2).nodes _ _
             rw[aB];exact qK b hq1
           . simp only[Option.some.injEq] at h;subst h;exact eH hw (.var _ _) rfl
         . split at h
           . simp only[Option.some.injEq] at h;subst h;exact eH hw (.bool _ _ (by omega)) rfl
           . split at h
             . simp only[Option.some.injEq] at h;subst h;exact eH hw (.bool _ _ (by omega)) rfl
             . split at h
               . rename_i hl
                 split at h
                 . simp only[mS] at h
                   obtain⟨q,hq,rfl⟩:=h;have hq1:=aK _ _ _ _ hq trivial;have e1:q.2.e=0:=((Ext.refl q.2).must (ts:=ts) [41]).e0 he;obtain⟨a,b⟩:=ih2 hq (((hs.uN ht hl).down ht h0).must ht _) e1 (by rw[aB,dJ];rfl) hw trivial;rw[hq1];refine eH (s:=pUp (aA ts [41] q.2)) (by show dX (aA ts [41] q.2).nodes;rw[aB];exact a) (.len _ _ ?_) rfl
                   show Kid (aA ts [41] q.2).nodes _ _
                   rw[aB];exact qK b hq1
                 . simp only[Option.some.injEq] at h;subst h;exact (qP (by decide) he).elim
               . split at h
                 . simp only[mS] at h
                   obtain⟨q,hq,rfl⟩:=h;have e1:q.2.e=0:=((Ext.refl q.2).must (ts:=ts) [41]).e0 he;obtain⟨a,b⟩:=ih2 hq ((hs.down ht h0).must ht _) e1 (by rw[aB,dJ]) hw trivial;refine⟨by show dX (aA ts [41] q.2).nodes;rw[aB];exact a,?_⟩
                   show aIp (aA ts [41] q.2).nodes _ _
                   rw[aB];exact b
                 . simp only[Option.some.injEq] at h;subst h;exact (qP (by decide) he).elim
  | factor=>
   simp only[run] at h;split at h
   . rename_i hx
     simp only[mS] at h;obtain⟨q,hq,rfl⟩:=h;have hq1:=aK _ _ _ _ hq trivial;obtain⟨a,b⟩:=ih2 hq (hs.goDown ht hx) he (show (aW ts s).nodes=s.nodes from dJ s) hw trivial;rw[hq1];exact eH (s:=pUp q.2) a (.neg _ _ (qK b hq1)) rfl
   . split at h
     . rename_i hx
       simp only[mS] at h;obtain⟨q,hq,rfl⟩:=h;have hq1:=aK _ _ _ _ hq trivial;obtain⟨a,b⟩:=ih2 hq (hs.goDown ht hx) he (show (aW ts s).nodes=s.nodes from dJ s) hw trivial;rw[hq1];exact eH (s:=pUp q.2) a (.not _ _ (qK b hq1)) rfl
     . (have h9:=ih _ _ _ h hs he hw trivial;exact h9)
  | chain lv=>
   simp only[run] at h;split at h
   . (have h9:=ih _ _ _ h hs he hw trivial;exact h9)
   . simp only[bS] at h
     obtain⟨q,hq,h⟩:=h;have hq1:=aK _ _ _ _ hq trivial;have e1:q.2.e=0:=(aJ _ _ _ _ h).e0 he;obtain⟨a,b⟩:=ih2 hq hs e1 rfl hw trivial
     (have h9:=ih _ _ _ h (iC ht _ _ _ _ hq hs) he a (qK b hq1);exact h9)
  | more lv line x=>
   simp only[run] at h;split at h
   . simp only[Option.some.injEq] at h;subst h
     exact⟨hw,λa ha=>by rw[List.mem_singleton.1 ha];exact hp⟩
   . rename_i hx
     simp only[bS] at h;obtain⟨q,hq,h⟩:=h;have hq1:=aK _ _ _ _ hq trivial;have hok:=iC ht _ _ _ _ hq (hs.sS ht hx);have hkx:Kid q.2.nodes lH x:=Kid.ext (s:=pGo s) hp (aJ _ _ _ _ hq);split at h
     . simp only[Option.some.injEq] at h;subst h
       obtain⟨a,b⟩:=ih2 hq (hs.sS ht hx) he (show (pGo s).nodes=s.nodes from rfl) hw trivial;exact eH a (.bin _ _ _ _ (wB hx) hkx (qK b hq1)) rfl
     . have e1:q.2.e=0:=(aJ _ _ _ _ h).e0 he
       obtain⟨a,b⟩:=ih2 hq (hs.sS ht hx) e1 (show (pGo s).nodes=s.nodes from rfl) hw trivial;obtain⟨c,d⟩:=eH (line:=line) (n:=0) (cls:=lH) a (.bin _ _ _ _ (wB hx) hkx (qK b hq1)) rfl
       (have h9:=ih _ _ _ h (hok.put _ _ _ _ _) he c (d _ (List.mem_singleton.2 rfl));exact h9)
  | args l=>
   simp only[run,bS] at h;obtain⟨q,hq,h⟩:=h;have hq1:=aK _ _ _ _ hq trivial;have hok:=iC ht _ _ _ _ hq hs;have hle:=aJ _ _ _ _ hq;split at h
   . rename_i hx
     have e1:q.2.e=0:=(aL hx).1;obtain⟨a,b⟩:=ih2 hq hs e1 rfl hw trivial;have h9:=ih _ _ _ h (hok.uN ht hx) he a (show aIp q.2.nodes lH (l++q.1) from λy hy=>by
       rcases List.mem_append.1 hy with hy|hy
       . exact (hp y hy).ext hle
       . exact b y hy)
     exact h9
   . simp only[Option.some.injEq] at h;subst h
     obtain⟨a,b⟩:=ih2 hq hs he rfl hw trivial;refine⟨a,λy hy=>?_⟩;rcases List.mem_append.1 hy with hy|hy
     . exact (hp y hy).ext hle
     . exact b y hy
  | call=>
   simp only[run,mS] at h;obtain⟨q,hq,rfl⟩:=h;have e1:q.2.e=0:=((Ext.refl q.2).must (ts:=ts) [41]).e0 he;have hw2:dX (aA ts [40] (aF ts s)).nodes:=by rw[aB,bX];exact hw
   have key:dX q.2.nodes∧aIp q.2.nodes lH q.1:=by
     split at hq
     . exact ih2 hq ((hs.named ht).must ht _) e1 rfl hw2 (λy hy=>by cases hy)
     . simp only[Option.some.injEq] at hq;subst hq
       exact⟨hw2,λy hy=>by cases hy⟩
   refine eH (s:=aA ts [41] q.2) (by rw[aB];exact key.1) (.call _ _ _ (λy hy=>?_)) rfl;rw[aB];exact key.2 y hy
  | right=>
   simp only[run] at h;split at h
   . simp only[Option.some.injEq] at h;subst h;exact eH hw (.input _) rfl
   . split at h
     . rename_i hx
       simp only[mS] at h;obtain⟨q,hq,rfl⟩:=h;have hq1:=aK _ _ _ _ hq trivial;have e1:q.2.e=0:=((Ext.refl q.2).must (ts:=ts) [41]).e0 he;obtain⟨a,b⟩:=ih2 hq ((hs.uN ht hx).must ht _) e1 (by rw[aB];rfl) hw trivial;rw[hq1];refine eH (s:=aA ts [41] q.2) (by rw[aB];exact a) (.new _ _ ?_) rfl;rw[aB];exact qK b hq1
     . split at h
       . obtain⟨a,b⟩:=ih2 h hs he rfl hw trivial
         exact ⟨a, λy hy => (b y hy).le (λk hk => by have : k = 21 := by simpa [resT, aNo] using hk
                                                     subst this; rfl)⟩
       . obtain⟨a,b⟩:=ih2 h hs he rfl hw trivial
         exact ⟨a, λy hy => (b y hy).le (λk hk => by have : lH k = true := hk
                                                     show oD k = true
                                                     unfold oD; rw [this]; rfl)⟩
  | block=>
   simp only[run] at h;split at h
   . rename_i hx
     simp only[mS] at h;obtain⟨q,hq,rfl⟩:=h;have e1:q.2.e=0:=((Ext.refl q.2).must (ts:=ts) [125]).e0 he;obtain⟨a,b⟩:=ih2 hq ((hs.aAi ht hx).must ht _) e1 (by rw[aB,dJ]) hw (λy hy=>by cases hy);refine eH (s:=pUp (aA ts [125] q.2)) (by show dX (aA ts [125] q.2).nodes;rw[aB];exact a) (.block _ _ (λy hy=>?_)) rfl
     show Kid (aA ts [125] q.2).nodes _ _
     rw[aB];exact b y hy
   . simp only[Option.some.injEq] at h;subst h;exact (qP (by decide) he).elim
  | stmts l=>
   simp only[run] at h;split at h
   . rename_i h0
     simp only[Option.some.injEq] at h;subst h;exact absurd he h0
   . split at h
     . simp only[Option.some.injEq] at h;subst h;exact⟨hw,hp⟩
     . simp only[bS] at h
       obtain⟨q,hq,h⟩:=h;have e1:q.2.e=0:=(aJ _ _ _ _ h).e0 he;obtain⟨a,b⟩:=ih2 hq hs e1 rfl hw trivial;have h9:=ih _ _ _ h (iC ht _ _ _ _ hq hs) he a (show aIp q.2.nodes aMf (l++q.1) from λy hy=>by
         rcases List.mem_append.1 hy with hy|hy
         . exact (hp y hy).ext (aJ _ _ _ _ hq)
         . exact b y hy)
       exact h9
  | named line=>
   simp only[run] at h;split at h
   . simp only[mS] at h
     obtain⟨q,hq,rfl⟩:=h;have hq1:=aK _ _ _ _ hq trivial;have e1:q.2.e=0:=((Ext.refl q.2).must (ts:=ts) [59]).e0 he;obtain⟨a,b⟩:=ih2 hq hs e1 rfl hw trivial;rw[hq1];refine eH (s:=aA ts [59] q.2) (by rw[aB];exact a) (.do_ _ _ ?_) rfl;rw[aB];exact qK b hq1
   . split at h
     . rename_i hx
       simp only[mS,bS] at h;obtain⟨q,hq,u,hu,rfl⟩:=h;have hq1:=aK _ _ _ _ hq trivial;have hu1:=aK _ _ _ _ hu trivial;have e2:u.2.e=0:=((Ext.refl u.2).must (ts:=ts) [59]).e0 he;have hx2:=((((Ext.refl q.2).must (ts:=ts) [93]).up).must (ts:=ts) [61]);have e1:q.2.e=0:=hx2.e0 ((aJ _ _ _ _ hu).e0 e2);have hsn:bZ ts (aF ts s):=hs.named ht;obtain⟨a,b⟩:=ih2 hq ((hsn.aAi ht hx).must ht _) e1 (by rw[aB,dJ,bX]) hw trivial;have hokq:=iC ht _ _ _ _ hq ((hsn.aAi ht hx).must ht _);obtain⟨c,d⟩:=ih2 hu (((hokq.must ht _).up).must ht _) e2 (show (aA ts [61] (pUp (aA ts [93] q.2))).nodes=q.2.nodes by rw[aB];exact aB _ _) a trivial;rw[hq1,hu1];refine eH (s:=aA ts [59] u.2) (by rw[aB];exact c) (.put _ _ _ _ ?_ ?_) rfl
       . rw[aB]
         exact (qK b hq1).ext (hx2.trans (aJ _ _ _ _ hu))
       . rw[aB];exact qK d hu1
     . simp only[mS] at h
       obtain⟨q,hq,rfl⟩:=h;have hq1:=aK _ _ _ _ hq trivial;have e1:q.2.e=0:=((Ext.refl q.2).must (ts:=ts) [59]).e0 he;obtain⟨a,b⟩:=ih2 hq ((hs.named ht).must ht _) e1 (by rw[aB,bX]) hw trivial;rw[hq1];refine eH (s:=aA ts [59] q.2) (by rw[aB];exact a) (.set _ _ _ ?_) rfl;rw[aB];exact qK b hq1
  | stmt=>
   simp only[run] at h;split at h
   . rename_i hwd
     simp only[mS] at h;obtain⟨q,hq,rfl⟩:=h;have hq1:=aK _ _ _ _ hq trivial;have e1:q.2.e=0:=((Ext.refl q.2).must (ts:=ts) [59]).e0 he;obtain⟨a,b⟩:=ih2 hq (((hs.iW ht hwd (by simp)).named ht).must ht _) e1 (by rw[aB,bX];rfl) hw trivial;rw[hq1];refine eH (s:=aA ts [59] q.2) (by rw[aB];exact a) (.let_ _ _ _ ?_) rfl;rw[aB];exact qK b hq1
   . split at h
     . rename_i hwd
       simp only[mS] at h;obtain⟨q,hq,rfl⟩:=h;have hq1:=aK _ _ _ _ hq trivial;have e1:q.2.e=0:=((Ext.refl q.2).must (ts:=ts) [59]).e0 he;obtain⟨a,b⟩:=ih2 hq (hs.iW ht hwd (by simp)) e1 (show (pGo s).nodes=s.nodes from rfl) hw trivial;rw[hq1];refine eH (s:=aA ts [59] q.2) (by rw[aB];exact a) (.print _ _ ?_) rfl;rw[aB];exact qK b hq1
     . split at h
       . rename_i hwd
         simp only[mS,bS] at h;obtain⟨q,hq,u,hu,rfl⟩:=h;have hq1:=aK _ _ _ _ hq trivial;have hu1:=aK _ _ _ _ hu trivial;have e1:q.2.e=0:=(aJ _ _ _ _ hu).e0 he;obtain⟨a,b⟩:=ih2 hq (hs.iW ht hwd (by simp)) e1 (show (pGo s).nodes=s.nodes from rfl) hw trivial;obtain⟨c,d⟩:=ih2 hu (iC ht _ _ _ _ hq (hs.iW ht hwd (by simp))) he rfl a trivial;rw[hq1,hu1];exact eH (s:=u.2) c (.loop _ _ _ ((qK b hq1).ext (aJ _ _ _ _ hu)) (qK d hu1)) rfl
       . split at h
         . rename_i hwd
           simp only[bS] at h;obtain⟨q,hq,u,hu,h⟩:=h;have hq1:=aK _ _ _ _ hq trivial;have hu1:=aK _ _ _ _ hu trivial;have hokq:=iC ht _ _ _ _ hq (hs.iW ht hwd (by simp));have hoku:=iC ht _ _ _ _ hu hokq;split at h
           . rename_i hx
             simp only[mS] at h;obtain⟨v,hv,rfl⟩:=h;have hv1:=aK _ _ _ _ hv trivial;have e2:u.2.e=0:=(aL hx).1;have e1:q.2.e=0:=(aJ _ _ _ _ hu).e0 e2;obtain⟨a,b⟩:=ih2 hq (hs.iW ht hwd (by simp)) e1 (show (pGo s).nodes=s.nodes from rfl) hw trivial;obtain⟨c,d⟩:=ih2 hu hokq e2 rfl a trivial;obtain⟨f,g⟩:=ih2 hv (hoku.uN ht hx) he (show (pGo u.2).nodes=u.2.nodes from rfl) c trivial;have e3:Ext u.2 v.2:=((Ext.refl u.2).go).trans (aJ _ _ _ _ hv);rw[hq1,hu1,hv1];exact eH (s:=v.2) f (.if3 _ _ _ _ (((qK b hq1).ext (aJ _ _ _ _ hu)).ext e3) ((qK d hu1).ext e3) (qK g hv1)) rfl
           . simp only[Option.some.injEq] at h;subst h
             have e1:q.2.e=0:=(aJ _ _ _ _ hu).e0 he;obtain⟨a,b⟩:=ih2 hq (hs.iW ht hwd (by simp)) e1 (show (pGo s).nodes=s.nodes from rfl) hw trivial;obtain⟨c,d⟩:=ih2 hu hokq he rfl a trivial;rw[hq1,hu1];exact eH (s:=u.2) c (.if2 _ _ _ ((qK b hq1).ext (aJ _ _ _ _ hu)) (qK d hu1)) rfl
         . split at h
           . rename_i hwd
             split at h
             . simp only[Option.some.injEq] at h;subst h
               exact eH (s:=aA ts [59] (pGo s)) (by rw[aB];exact hw) (.ret0 _) rfl
             . simp only[mS] at h
               obtain⟨q,hq,rfl⟩:=h;have hq1:=aK _ _ _ _ hq trivial;have e1:q.2.e=0:=((Ext.refl q.2).must (ts:=ts) [59]).e0 he;obtain⟨a,b⟩:=ih2 hq (hs.iW ht hwd (by simp)) e1 (show (pGo s).nodes=s.nodes from rfl) hw trivial;rw[hq1];refine eH (s:=aA ts [59] q.2) (by rw[aB];exact a) (.ret1 _ _ ?_) rfl;rw[aB];exact qK b hq1
           . (have h9:=ih _ _ _ h hs he hw trivial;exact h9)
end
structure jN (ns:List aG) (fs:List aH):Prop where
 nodes:dX ns
 bodies:∀f∈fs,Kid ns xA f.body
 few:ns.length≤300
 fewf:fs.length≤6
 pars:∀f∈fs,f.params.length≤3
 types:∀f∈fs,f.ret≤4∧∀p∈f.params,p.2≤4
section
variable {src:List UInt8}{ts:List Tok}
theorem nZ:∀(n:Nat) (acc:List (List UInt8×Nat)) (s:PS) (p:List (List UInt8×Nat)×PS),aQ ts n acc s=some p->(∀q∈acc,q.2≤4)->∀q∈p.1,q.2≤4
 | 0,_,_,_,h,_=>by simp[aQ] at h
 | n+1,acc,s,p,h,ha=>by
  have h2:∀q∈acc++[(dI ts s,eB ts (aF ts s))],q.2≤4:=λq hq=>by
    rcases List.mem_append.1 hq with hq|hq
    . exact ha q hq
    . rw[List.mem_singleton.1 hq];exact tO _
  simp only[aQ] at h;split at h
  . exact nZ n _ _ _ h h2
  . simp only[Option.some.injEq] at h
    subst h;exact h2
theorem kG:∀(n:Nat) (acc:List (List UInt8×Nat)) (s:PS) (p:List (List UInt8×Nat)×PS),aQ ts n acc s=some p->p.2.nodes=s.nodes
 | 0,_,_,_,h=>by simp[aQ] at h
 | n+1,acc,s,p,h=>by
  simp only[aQ] at h;split at h
  . rw[kG n _ _ _ h]
    show (bL ts (aF ts s)).nodes=_
    rw[jW,bX]
  . simp only[Option.some.injEq] at h
    subst h
    show (bL ts (aF ts s)).nodes=_
    rw[jW,bX]
theorem aNf (ht:dA ts){n:Nat}{fs:aH×PS} (h:eT src ts n s=some fs) (hs:bZ ts s) (he:fs.2.e=0) (hw:dX s.nodes):
   dX fs.2.nodes∧Kid fs.2.nodes xA fs.1.body∧fs.1.ret≤4∧∀p∈fs.1.params,p.2≤4:=by
 simp only[eT,bS,mS] at h;obtain⟨p,hp,b,hb,rfl⟩:=h;have h1:bZ ts (aA ts [40] (aF ts (aA ts [102,110] s))):=((hs.must ht _).named ht).must ht _;have hn1:(aA ts [40] (aF ts (aA ts [102,110] s))).nodes=s.nodes:=by rw[aB,bX,aB]
 have h2:bZ ts p.2∧p.2.nodes=s.nodes∧∀q∈p.1,q.2≤4:=by
   split at hp
   . exact⟨qD ht _ _ _ _ hp h1,by rw[kG _ _ _ _ hp,hn1],nZ _ _ _ _ hp (λq hq=>by cases hq)⟩
   . simp only[Option.some.injEq] at hp
     subst hp;exact⟨h1,hn1,λq hq=>by cases hq⟩
 have hb1:=aK _ _ _ _ hb trivial;have key:dX b.2.nodes∧aIp b.2.nodes xA b.1:=by
   split at hb
   . exact aLv ht _ _ _ _ hb (h2.1.must ht _) he (by rw[aB,h2.2.1];exact hw) trivial
   . exact aLv ht _ _ _ _ hb ((h2.1.must ht _).typed ht) he (by rw[jW,aB,h2.2.1];exact hw) trivial
 refine⟨key.1,qK key.2 hb1,?_,h2.2.2⟩
 show (if pIs ts [123] (aA ts [41] p.2)=true then 0 else eB ts (aA ts [41] p.2))≤4
 split
 . omega
 . exact tO _
theorem aMe (ht:dA ts):∀(n:Nat) (acc:List aH) (s:PS) (r:List aH×PS),dP src ts n acc s=some r->bZ ts s->r.2.e=0->dX s.nodes->(∀f∈acc,Kid s.nodes xA f.body∧f.ret≤4∧∀p∈f.params,p.2≤4) ->
  dX r.2.nodes∧∀f∈r.1,Kid r.2.nodes xA f.body∧f.ret≤4∧∀p∈f.params,p.2≤4
 | 0,_,_,_,h,_,_,_,_=>by simp[dP] at h
 | n+1,acc,s,r,h,hs,he,hw,ha=>by
  simp only[dP] at h;split at h
  . simp only[Option.some.injEq] at h;subst h;exact⟨hw,ha⟩
  . split at h
    . simp only[Option.some.injEq] at h;subst h;exact⟨hw,ha⟩
    . simp only[bS] at h
      obtain⟨fs,hfs,h⟩:=h;have e1:fs.2.e=0:=(nO _ _ _ _ h).e0 he;obtain⟨a,b,c,d⟩:=aNf ht hfs hs e1 hw;refine aMe ht n _ _ _ h (aHe ht hfs hs).1 he a (λf hf=>?_);rcases List.mem_append.1 hf with hf|hf
      . obtain⟨x,y⟩:=ha f hf
        exact⟨x.ext (wJ hfs),y⟩
      . rw[List.mem_singleton.1 hf];exact⟨b,c,d⟩
theorem aKb {src:List UInt8}{fs:List aH} (h:parseM src=some (.good ns fs)):jN ns fs:=by
 unfold parseM at h;cases hl:uM src with
 | bad p e=>rw[hl] at h;simp at h
 | good ts=>
  rw[hl] at h;have ht:=kJ hl;simp only[nY,mS] at h;obtain⟨q,hq,h⟩:=h;split at h
  . cases h
  . rename_i h0
    have h0:q.2.e=0:=by simpa using h0
    split at h
    . cases h
    . rename_i hb
      injection h with h1 h2;subst h1;subst h2;have hs:bZ ts ⟨0,[],0,0,0⟩:=⟨ht.pos,by decide,λ_=>by decide,by decide,by decide⟩;obtain⟨a,b⟩:=aMe ht _ _ _ _ hq hs h0 (λi nd hi=>by simp at hi) (λf hf=>by cases hf);refine⟨a,λf hf=>(b f hf).1,by omega,by omega,λf hf=>?_,λf hf=>(b f hf).2⟩;by_cases h3:f.params.length≤3
      . exact h3
      . exact absurd (List.any_eq_true.2 ⟨f,hf,by simp;omega⟩) (λe=>hb (.inr (.inr e)))
end
end Pw
end Go.Proofs.YtlbjicjinnnboaaGreatDoor
/- The parser: values that are made node by node; how great a tree is. -/
namespace Go.Proofs.YtlbjicjinnnboaaGreatDoor
namespace Pw
open Go.RowKit Go.Proofs.Tryz
section
variable {α:Type} (g:(Nat->α)->aG->α) (d:α)
end
theorem Kid.lt {ns:List aG}{cls:Nat->Bool}{x:Nat} (h:Kid ns cls x):x<ns.length:=by
 obtain⟨c,hc,_⟩:=h;exact (gK hc)
theorem Kid.take {ns:List aG}{cls:Nat->Bool}{x i:Nat} (h:Kid (ns.take i) cls x):x<i∧Kid ns cls x:=by
 obtain⟨c,hc,hk⟩:=h;rw[List.getElem?_take] at hc;split at hc
 . exact⟨by assumption,c,hc,hk⟩
 . cases hc
section
variable {src:List UInt8}{ts:List Tok}
def dV:Task->List Nat
 | .more _ _ x=>[x] | .args l=>l | .stmts l=>l|_=>[]
end
end Pw
open Pw
inductive CkR (α:Type) where
 | bad (e p:Nat)
 | good (a:α)
namespace CkR
def bind {α β:Type}:CkR α->(α->CkR β)->CkR β
 | .bad e p,_=> .bad e p
 | .good a,f=>f a
def map {α β:Type} (f:α->β):CkR α->CkR β
 | .bad e p=> .bad e p
 | .good a=> .good (f a)
@[simp] theorem uW {α β : Type} (e p : Nat) (f : α -> CkR β) : (CkR.bad e p).bind f = .bad e p := rfl
@[simp] theorem aC {α β : Type} (a : α) (f : α -> CkR β) : (CkR.good a).bind f = f a := rfl
@[simp] theorem aMz {α β : Type} (e p : Nat) (f : α -> β) : (CkR.bad e p).map f = .bad e p := rfl
@[simp] theorem bK {α β : Type} (a : α) (f : α -> β) : (CkR.good a).map f = .good (f a) := rfl
theorem bind_eq {α β:Type}{r:CkR α}{f:α->CkR β}{b:β} (h:r.bind f = .good b):∃a,r = .good a∧f a = .good b:=by
 cases r with
 | bad e p=>cases h
 | good a=>exact⟨a,rfl,h⟩
theorem map_eq {α β:Type}{r:CkR α}{f:α->β}{b:β} (h:r.map f = .good b):∃a,r = .good a∧f a=b:=by
 cases r with
 | bad e p=>cases h
 | good a=>injection h with h;exact⟨a,rfl,h⟩
end CkR
structure dS where
 name:List UInt8
 ty:Nat
 slot:Nat
 deriving DecidableEq
structure CkS where
 types:List Nat
 slots:List Int
 fn:List Nat
 vars:List dS
 size:Nat
def eF (vars:List dS) (name:List UInt8):Option dS:=vars.find? λv=>decide (v.name=name)
def findF (fs:List aH) (name:List UInt8):Option Nat:=fs.findIdx? λf=>decide (f.name=name)
def bP (sign:List UInt8) (a b:Nat):Nat:=
 if a≠b then 0
 else if sign=[124,124]∨sign=[38,38] then (if a=2 then 2 else 0)
 else if sign=[60]∨sign=[60,61] then (if a=1 then 2 else 0)
 else if sign=[61,61]∨sign=[33,61] then (if a=1∨a=2∨a=3 then 2 else 0)
 else if sign=[43] then (if a=1∨a=3 then a else 0)
 else if a=1 then 1 else 0
section
variable (ns:List aG) (fs:List aH) (k:Nat)
def aU (x:Nat) (name:List UInt8) (s:CkS):CkR (Nat×CkS):=
 match eF s.vars name with
 | none=> .bad 40 x
 | some v=> .good (v.ty,{ s with slots:=s.slots.set x v.slot })
section
variable (ex:Nat->CkS->CkR (Nat×CkS))
def bH:List Nat->CkS->CkR (List Nat×CkS)
 | [],s=> .good ([],s)
 | a :: l,s=>(ex a s).bind λr=>(bH l r.2).map λq=>(r.1 :: q.1,q.2)
def kU (x:Nat) (nd:aG) (s:CkS):CkR (Nat×CkS):=
 match findF fs nd.name with
 | none=> .bad 40 x
 | some j=>(bH ex nd.l s).bind λr=>
  if r.1.length≠((fs[j]?.map (·.params)).getD []).length then .bad 43 x
  else if r.1≠((fs[j]?.map (·.params)).getD []).map (·.2) then .bad 42 x
  else .good ((fs[j]?.map (·.ret)).getD 0,r.2)
def bR (x:Nat) (nd:aG) (s:CkS):CkR (Nat×CkS):=
 if nd.kind=1∨nd.kind=19 then .good (1,s)
 else if nd.kind=2 then .good (2,s)
 else if nd.kind=3 then .good (3,s)
 else if nd.kind=4 then aU x nd.name s
 else if nd.kind=21 then kU fs ex x nd s
 else if nd.kind=5 then (aU x nd.name s).bind λt=>(ex (nd.l.headD 0) t.2).bind λr=>if t.1=4∧r.1=1 then .good (1,r.2) else .bad 42 x
 else if nd.kind=9 then (ex (nd.l.headD 0) s).bind λa=>(ex (nd.l.getD 1 0) a.2).bind λb=>
  if bP nd.name a.1 b.1=0 then .bad 42 x else .good (bP nd.name a.1 b.1,b.2)
 else (ex (nd.l.headD 0) s).bind λr=>
  if nd.kind=6 then (if r.1=3∨r.1=4 then .good (1,r.2) else .bad 42 x)
  else if nd.kind=7 then (if r.1=1 then .good (1,r.2) else .bad 42 x)
  else if nd.kind=8 then (if r.1=2 then .good (2,r.2) else .bad 42 x)
  else (if r.1=1 then .good (4,r.2) else .bad 42 x)
end
def fD:Nat->Nat->CkS->CkR (Nat×CkS)
 | 0,_,_=> .bad 99 0
 | f+1,x,s=>
  match ns[x]? with
  | none=> .bad 98 0
  | some nd=>(bR fs (fD f) x nd s).map λr=>(r.1,{ r.2 with types:=r.2.types.set x r.1,fn:=r.2.fn.set x k })
section
variable (ex:Nat->CkS->CkR (Nat×CkS)) (bl:Nat->CkS->CkR CkS)
def aIq (x:Nat) (nd:aG) (s:CkS):CkR CkS:=
 (ex (nd.l.headD 0) s).bind λr=>
   if r.1=0 then .bad 42 x
   else if (eF r.2.vars nd.name).isSome then .bad 41 x
   else if 24≤r.2.size then .bad 4 x
   else .good { r.2 with slots:=r.2.slots.set x r.2.size,vars:=r.2.vars++[⟨nd.name,r.1,r.2.size⟩],size:=r.2.size+1 }
def eG (st:Nat->CkS->CkR CkS):List Nat->CkS->CkR CkS
 | [],s=> .good s
 | a :: l,s=>(st a s).bind λs=>eG st l s
def xR (x:Nat) (nd:aG) (s:CkS):CkR CkS:=
 if (nd.l.length=1)↔((fs[k]?.map (·.ret)).getD 0≠0) then
  (if nd.l.length=1 then (ex (nd.l.headD 0) s).bind λr=>if r.1=(fs[k]?.map (·.ret)).getD 0 then .good r.2 else .bad 42 x else .good s)
 else .bad 43 x
def jA (x:Nat) (nd:aG) (s:CkS):CkR CkS:=
 let s:={ s with fn:=s.fn.set x k }
 if nd.kind=10 then aIq ex x nd s
 else if nd.kind=11 then (aU x nd.name s).bind λt=>(ex (nd.l.headD 0) t.2).bind λr=>if t.1=r.1 then .good r.2 else .bad 42 x
 else if nd.kind=12 then (aU x nd.name s).bind λt=>(ex (nd.l.headD 0) t.2).bind λr=>(ex (nd.l.getD 1 0) r.2).bind λq=>if t.1=4∧r.1=1∧q.1=1 then .good q.2 else .bad 42 x
 else if nd.kind=13 then (ex (nd.l.headD 0) s).map (·.2)
 else if nd.kind=14 then (ex (nd.l.headD 0) s).bind λr=>if r.1≠4 then .good r.2 else .bad 42 x
 else if nd.kind=17 then xR fs k ex x nd s
 else (ex (nd.l.headD 0) s).bind λr=>if r.1=2 then eG bl nd.l.tail r.2 else .bad 42 x
end
def gI:Nat->Nat->CkS->CkR CkS
 | 0,_,_=> .bad 97 0
 | f+1,x,s=>
  match ns[x]? with
  | none=> .bad 96 0
  | some nd=>(eG (λa s=>match ns[a]? with
   | none=> .bad 95 0
   | some na=>jA fs k (fD ns fs k ns.length) (gI f) a na s) nd.l { s with fn:=s.fn.set x k }).map λr=>{ r with vars:=r.vars.take s.vars.length }
end
structure fF where
 ns:List aG
 fs:List aH
 types:List Nat
 slots:List Int
 fn:List Nat
 sizes:List Nat
def jC (body:Nat):List (List UInt8×Nat)->List dS->CkR (List dS)
 | [],vs=> .good vs
 | p :: l,vs=>if (eF vs p.1).isSome then .bad 41 body else jC body l (vs++[⟨p.1,p.2,vs.length⟩])
section
variable (ns:List aG) (fs:List aH)
def iG (k:Nat) (f:aH) (s:CkS):CkR CkS:=
 (jC f.body f.params []).bind λvs=>gI ns fs k ns.length f.body { s with vars:=vs,size:=vs.length }
def kE:Nat->List aH->List Nat->CkS->CkR (List Nat×CkS)
 | _,[],zs,s=> .good (zs,s)
 | k,f :: l,zs,s=>(iG ns fs k f s).bind λr=>kE (k+1) l (zs++[r.size]) r
def iE (f:aH):Bool:=decide (f.name=[109,97,105,110]) && decide (f.params.length=0) && decide (f.ret=0)
def dN:List (List UInt8)->List aH->Option Nat
 | _,[]=>none
 | seen,f :: l=>if f.name∈seen then some f.body else dN (seen++[f.name]) l
def kD:CkR Unit:=
 match dN [] fs with
 | some b=> .bad 41 b
 | none=>if fs.any iE then .good () else .bad 44 0
def jZ:CkS:=⟨List.replicate ns.length 0,List.replicate ns.length (-1),List.replicate ns.length 0,[],0⟩
def dQ:CkR fF:=
 (kD fs).bind λ_=>(kE ns fs 0 fs [] (jZ ns)).map λr=>⟨ns,fs,r.2.types,r.2.slots,r.2.fn,r.1⟩
end
inductive eU where
 | bad (p e:Nat)
 | good (p:fF)
def iF (src:List UInt8):Option eU:=
 (parseM src).map fun
   | .bad p e=> .bad p e
   | .good ns fs=>match dQ ns fs with
    | .bad e x=>if e=44 then .bad 0 44 else .bad ((ns[x]?.map (·.line)).getD 0) e
    | .good p=> .good p
end Go.Proofs.YtlbjicjinnnboaaGreatDoor
