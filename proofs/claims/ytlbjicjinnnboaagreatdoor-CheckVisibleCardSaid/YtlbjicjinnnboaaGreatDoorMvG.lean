/- MvG: laws and walks for CheckVisible. -/
import Derived.Test.YtlbjicjinnnboaaGreatDoorMvF
set_option maxHeartbeats 8000000
set_option maxRecDepth 100000
set_option linter.unusedVariables false
set_option linter.unusedSimpArgs false
namespace Go.Proofs.YtlbjicjinnnboaaGreatDoor
open Go.RowKit Go.Proofs.Tryz
variable {w:World}{B:Nat}{nv fv:Value}
section
variable {src:ByteArray}{tb tc b0:Nat}{ts:List Tok}{w0:World}
theorem aLm (ht:zF b0 w0 (tb,ts.length,tc) ts) (hk:dF ts) (hs:src.size<=281474976710656):
  St src tb tc ts w0.heap.size (λ_=>False) w0 (w0.alloc (.cells #[src,(tb,ts.length,tc),U0,Un,U0,U0,U0] 88)) ⟨0,[],0,0,0⟩:=by
 have hf:Fr nob w0 (w0.alloc (.cells #[src,(tb,ts.length,tc),U0,Un,U0,U0,U0] 88)):=(fR w0).alloc _;have hb:=Blk.new w0 88 #[src,(tb,ts.length,tc),U0,Un,U0,U0,U0];refine⟨⟨[],⟨⟨Un,hb,Own.nil _ _ _⟩,trivial,rfl,⟨_,ht.no hf⟩,λnv h1 k hk=>?_⟩,λv hv=>by cases hv⟩,λk hk=>hk.elim,⟨hk.pos,by decide,λ_=>by decide,by decide,by decide⟩,hk,hs,FrR.no hf⟩;have h3:=hb.cell 3;rw[h3] at h1;simp at h1
 subst h1;simp[blk] at hk
end
theorem aCk {g:Nat}{w1 w2:World}{o:Obj} (h1:Fr nob (w.alloc o) w1) (h2:FrR g w1 w2) (hg:w.heap.size<=g):Fr nob w w2:=by
 refine Fr.trans (((fR w).alloc o).tr h1) h2 (λ_ _ x=>x) (λk hk hm=>?_);rcases hm with e|⟨e,_⟩<;>omega
theorem cZ.far {w':World}{lvs pvs:List Value}{ns:List aF}{fs:List aG} (h:cZ B w nv fv lvs pvs ns fs){M:Nat->Prop} (f:Fr M w w') (hM:∀k,M k->∃cs,Blk w k 26 cs):cZ B w' nv fv lvs pvs ns fs:=by
 have farO:∀{e size n:Nat} {v:Value} {xs:List Value},Own w e size v n xs->e≠26->∀k,blk v=some k->¬M k:=λho hne k hk hm=>by
  obtain⟨cs,hc⟩:=hM k hm;exact ho.aD hc hne hk
 have hbel:∀{ns:List aF} {vs:List Value},bD w ns vs->bD w' ns vs:=by
  intro ns;induction ns with
  | nil=>intro vs hb;cases vs with
   | nil=>trivial
   | cons _ _=>exact hb.elim
  | cons n ns ih=>intro vs hb;cases vs with
   | nil=>exact hb.elim
   | cons u vs=>exact⟨hb.1.fr f (farO hb.1 (by decide)),ih hb.2⟩
 exact⟨h.nodes.fr f (farO h.nodes (by decide)),hbel h.below,h.same,h.fns.fr f (farO h.fns (by decide)),h.pars.to f (λk cs hk hm=>by
  obtain⟨cs2,hc⟩:=hM k hm;exact hk.ne hc (by decide) rfl),h.samef,h.newn,h.newf⟩
theorem Blk.new1 (w:World) (o:Obj) (t:TypeId) (cs:Array Value):Blk ((w.alloc o).alloc (.cells cs t)) (w.heap.size+1) t cs:=by
 have h:=Blk.new (w.alloc o) t cs;rwa [show (w.alloc o).heap.size=w.heap.size+1 by simp] at h
theorem St.aSq {src:ByteArray}{tb tc:Nat}{ts:List Tok}{g:Nat}{R:Nat->Prop}{w0:World}{s:PS} (h:St src tb tc ts g R w0 w s):w.cell? (g,6)=s.place:=by
 obtain⟨lvs,hr,_⟩:=h.rdr;obtain⟨nv,hb⟩:=hr.blk;have:=hb.cell 6;simpa using this
theorem aMi (src:ByteArray) (w:World) (hs:src.size<=281474976710656){r:zG} (hr:parseM src.data.toList=some r):
  Calls prog 30 #[src] w λe w'=>aKu w.heap.size w' e r∧Fr nob w w':=by
 have HL:=hD (λw'=>aLw src w' hs);have HS:=hD hs;unfold parseM at hr;cases hl:wM src.data.toList with
 | bad p er=>
  rw[hl] at hr HL;simp only[aA0] at hr;subst hr;have hne:((er:Int)==0)=false:=by
   have:=wL hl;exact bN.2 (by omega)
  clear hl hs;go_enter func30,ntmps30;go_wp2_with fail
  refine (HL _).mono ?_;rintro e w1 ⟨rfl,hf⟩;have F1:=hD hf;have hB:=(Blk.new w 26 #[Un,Un]).fr hf (λx=>x);have t0:=hB.frozen 0;have t1:=hB.frozen 1;have u0:=hB.cell 0;have u1:=hB.cell 1;have ul:=hB.lt;simp at u0 u1
  clear hf hB;go_wp2_with fail
  have F2:=hD (show Fr nob w ((w1.setCell (w.heap.size,()) Un).setCell (w.heap.size,U1) Un) from
   ((((fR w).alloc _).tr F1).setCell _ _ (λh=>absurd h (Nat.lt_irrefl _))).setCell _ _ (λh=>absurd h (Nat.lt_irrefl _)))
  have hB2:=((((Blk.new w 26 #[Un,Un]).fr F1 (λx=>x)).setCell 0 Un).setCell 1 Un);clear t0 t1 u0 u1 ul;generalize (w1.setCell (w.heap.size,()) Un).setCell (w.heap.size,U1) Un=w2 at *;have z0:=hB2.cell 0;have z1:=hB2.cell 1;simp at z0 z1
  refine bodyPost_ret (v:= .tuple #[.agg #[Un,Un],p,er]) (by simp[results,results30,go_sem,z0,z1]) rfl ⟨rfl,F2⟩
 | good ts=>
  rw[hl] at hr HL;have TK:=hD (lJ hl);have hfew:=aCe hl;simp only[qA,mS] at hr;obtain⟨q,hq,hRR⟩:=hr;have HRR:=hD hRR;have HQ:=hD hq;have HN:=hD (aPu (lJ hl) hq);have hfu:gP ts<=40000:=by unfold gP;omega
  have HFU:=hD hfu;clear hl hs hfu hfew hq hRR;generalize gP ts=n0 at *;go_enter func30,ntmps30;go_wp2_with fail
  refine (HL _).mono ?_;rintro e w1 ⟨⟨v,rfl,htk⟩,hf⟩;obtain⟨A,tc,rfl,hc1,hc2⟩:=htk.slice;obtain⟨tb,rfl,_,_,_⟩:=htk.some TK.o.pos;have F1:=hD hf;have TA:=hD htk;have hsz:=F1.o.size;simp at hsz
  have HG:=hD (show w.heap.size<w1.heap.size by omega);clear hf htk hc1 hc2 hsz;go_wp2_with fail
  have AS:=hD (show ASt src tb tc ts w1.heap.size w1 w.heap.size (w1.heap.size+1) ((w1.alloc (.cells #[src,(tb,ts.length,tc),U0,Un,U0,U0,U0] 88)).alloc (.cells #[Un,Un] 26)) ⟨0,[],0,0,0⟩ Un [] [] from by
   have hS:=aLm TA TK HS.o;have hB:=(((Blk.new w 26 #[Un,Un]).fr F1 (λx=>x)).alloc (.cells #[src,(tb,ts.length,tc),U0,Un,U0,U0,U0] 88)).alloc (.cells #[Un,Un] 26);have h9:=Blk.new (w1.alloc (.cells #[src,(tb,ts.length,tc),U0,Un,U0,U0,U0] 88)) 26 #[Un,Un];rw[show (w1.alloc (.cells #[src,(tb,ts.length,tc),U0,Un,U0,U0,U0] 88)).heap.size=w1.heap.size+1 by simp] at h9;exact⟨hS.alloc _,hB,h9,Nat.le_succ _,by have:=HG.o;omega,Own.nil _ _ _,trivial,rfl,λk hk=>by simp[blk] at hk⟩)
  clear TA;go_loopg [10] n0 (λk x wr=>∃(fns:List aG) (pvs:List Value) (s':PS) (fv:Value),Hd (fns.length+k<=n0)∧Hd (ASt src tb tc ts w1.heap.size w1 w.heap.size (w1.heap.size+1) wr s' fv fns pvs)∧Hd (dR src.data.toList ts k fns s'=some q))
  case atStart=>exact⟨[],[],_,_,hD (by simp),AS,HQ⟩
  case round=>
   obtain⟨fns,pvs,s',fv,HK,S,HR⟩:=hrel;clear AS HQ HL;generalize w1.heap.size+1=T9 at *;generalize w1.heap.size=g at *;have hr:=HR.o;cases gk with
   | zero=>simp[dR] at hr
   | succ k=>
     simp only[dR] at hr;by_cases h0:s'.e=0
     case neg=>
       rw[if_pos h0] at hr;simp only[aA0] at hr;subst hr;have HR2:=hD (show r = .bad s'.place s'.e by rw[<-HRR.o,if_pos h0]);have he:((s'.e:Int)==0)=false:=bN.2 (by omega);have he2:((s'.e:Int) != 0)=true:=by rw[bne,he];rfl
       obtain⟨hg,c1,c2,c4,c5,f2,f4⟩:=S.o.st.cells;have c6:=S.o.st.aSq;have t0:=S.o.bt.frozen 0;have t1:=S.o.bt.frozen 1;have u0:=S.o.bt.cell 0;have u1:=S.o.bt.cell 1;have hTl:=S.o.bt.lt;have HGT:=hD (show w.heap.size≠g by have:=HG.o;omega);simp at u0 u1
       go_wp2_with fail
       have m5:((w.heap.size,()):Addr)≠(g,U5):=by intro e;injection e with e;exact HGT e
       have m6:((w.heap.size,()):Addr)≠(g,U6):=by intro e;injection e with e;exact HGT e
       have p5:((w.heap.size,U1):Addr)≠(g,U5):=by intro e;injection e with e;exact HGT e
       have p6:((w.heap.size,U1):Addr)≠(g,U6):=by intro e;injection e with e;exact HGT e
       have D5:=hD c5;have D6:=hD c6;have E5:=hD ((aA2 (wr.drew.setCell (w.heap.size,()) Un) (w.heap.size,U1) (g,U5) Un p5).trans ((aA2 wr.drew (w.heap.size,()) (g,U5) Un m5).trans c5));have E6:=hD ((aA2 (wr.drew.setCell (w.heap.size,()) Un) (w.heap.size,U1) (g,U6) Un p6).trans ((aA2 wr.drew (w.heap.size,()) (g,U6) Un m6).trans c6));clear m5 m6 p5 p6;go_region_held3 (λwx=>wx.cell? (g,5)=s'.e∧wx.cell? (g,6)=s'.place) (first|exact⟨D5,D6⟩|exact⟨E5,E6⟩) (first|fail)
       -- END A
       clear D5 D6 E5 E6 hg c1 c2 c4 c5 f2 f4 c6 t0 t1 u0 u1 hTl he he2;go_wp2_with fail
       have FE:=hD (aCk F1 S.o.st.fr (Nat.le_of_lt HG));have hB2:=((S.o.bt.setCell 0 Un).setCell 1 Un);have F2:Hd (Fr nob w (((wr.setCell (w.heap.size,()) Un).setCell (w.heap.size,U1) Un).drew)):=((FE.o.setCell (w.heap.size,()) Un (λh=>absurd h (Nat.lt_irrefl _))).setCell (w.heap.size,U1) Un (λh=>absurd h (Nat.lt_irrefl _))).drew;have hB3:Blk (((wr.setCell (w.heap.size,()) Un).setCell (w.heap.size,U1) Un).drew) w.heap.size 26 #[Un,Un]:=hB2;clear hB2;generalize ((wr.setCell (w.heap.size,()) Un).setCell (w.heap.size,U1) Un).drew=we at *;have z0:=hB3.cell 0;have z1:=hB3.cell 1;simp at z0 z1
       clear hB3;refine bodyPost_ret (v:= .tuple #[.agg #[Un,Un],s'.place,s'.e]) (by simp[results,results30,go_sem,z0,z1]) rfl ⟨by rw[HR2.o];rfl,F2⟩
     case pos=>
       rw[if_neg (by omega)] at hr;have he:((s'.e:Int)==0)=true:=by rw[h0];rfl
       have he2:((s'.e:Int) != 0)=false:=by rw[bne,he];rfl
       obtain⟨hg,c1,c2,c4,c5,f2,f4⟩:=S.o.st.cells;by_cases hk:bM ts 0 s'=true
       . rw[if_pos hk] at hr
         simp only[aA0] at hr;subst hr;have HKI:=hD hk;have HRR2:=hD (show r=if 300<s'.nodes.length∨6<fns.length∨fns.any (λf=>decide (3<f.params.length))=true then .bad 0 4 else .good s'.nodes fns by rw[<-HRR.o,if_neg (λh=>h h0)]);clear HRR HR hk h0;go_wp2_with fail
         refine stepM (S.o.step (S.o.st.here.kind 0 HKI)) λw4 S4=>?_;clear hg c1 c2 c4 c5 f2 f4;obtain⟨lvs,hrd,_⟩:=S4.o.st.rdr;obtain⟨nv,hgb,hon⟩:=hrd.cells;have hnew:=hrd.newer nv (hgb.cell 3);obtain⟨NA,NC,rfl,_,_⟩:=hon.cap;obtain⟨FA,FC,rfl,hf1,hf2⟩:=S4.o.own.cap;have hc2f:=Nat.le_trans hf1 hf2;clear hf1 hf2;have TR:=hD (show cZ w.heap.size w4 (.slice NA s'.nodes.length NC) (.slice FA fns.length FC) lvs pvs s'.nodes fns from
           ⟨hon,hrd.below,hrd.same,S4.o.own,S4.o.pars,S4.o.same,λk hk=>by have:=hnew k hk;have:=HG.o;omega,λk hk=>by have:=S4.o.newf k hk;have:=F1.o.size;simp at this;omega⟩)
         have c3:=hgb.cell 3;have c5:=hgb.cell 5;have u0:=S4.o.b9.cell 0;have u1:=S4.o.b9.cell 1;have t0:=S4.o.b9.frozen 0;have h9l:=S4.o.b9.lt;simp at c3 c5 u0 u1
         have FE:=hD (aCk F1 S4.o.st.fr (Nat.le_of_lt HG));have FB:Hd (Blk (w4.setCell (T9,()) (.slice NA s'.nodes.length NC)) T9 26 #[.slice NA s'.nodes.length NC,.slice FA fns.length FC]):=S4.o.b9.setCell 0 _;have TB:Hd (Blk (w4.setCell (T9,()) (.slice NA s'.nodes.length NC)) w.heap.size 26 #[Un,Un]):=S4.o.bt.far (p:=(T9,())) S4.o.ne _;have TR2:=hD (TR.o.far (M:=bY T9) ((Fr.refl _ w4).setCell (T9,()) (.slice NA s'.nodes.length NC) (λ_=>rfl)) (λk hk=>by rw[show k=T9 from hk];exact⟨_,S4.o.b9⟩));have FE2:Hd (Fr nob w (w4.setCell (T9,()) (.slice NA s'.nodes.length NC))):=FE.o.setCell (T9,()) _ (λh=>by have h':T9<w.heap.size:=h;have:=S4.o.h9;have h3:=F1.o.size;simp at h3;omega);clear hrd hgb hon hnew S FE TR HK HN HKI;by_cases q3:300<s'.nodes.length
         case' pos=>
          have n3:(300:Int)<(s'.nodes.length:Int):=by omega
          obtain⟨zb,hzb⟩:∃zb,zb=true:=⟨_,rfl⟩;have HB0:=hD (show (zb || fns.any (λf=>decide (3<f.params.length)))=decide (300<s'.nodes.length∨6<fns.length∨fns.any (λf=>decide (3<f.params.length))=true) by rw[hzb,Bool.eq_iff_iff,decide_eq_true_eq];simp[q3]);have HZ:=hD hzb;clear q3 hzb
         case' neg=>
          by_cases q6:6<fns.length
          case' pos=>
           have n3:(s'.nodes.length:Int)<=300:=by omega
           have n6:(6:Int)<(fns.length:Int):=by omega
           obtain⟨zb,hzb⟩:∃zb,zb=true:=⟨_,rfl⟩
          case' neg=>
           have n3:(s'.nodes.length:Int)<=300:=by omega
           have n6:(fns.length:Int)<=6:=by omega
           obtain⟨zb,hzb⟩:∃zb,zb=false:=⟨_,rfl⟩
          all_goals
           have HB0:=hD (show (zb || fns.any (λf=>decide (3<f.params.length)))=decide (300<s'.nodes.length∨6<fns.length∨fns.any (λf=>decide (3<f.params.length))=true) by rw[hzb,Bool.eq_iff_iff,decide_eq_true_eq];simp[q3,q6]);have HZ:=hD hzb;clear q3 q6 hzb
         all_goals
          go_wp2_with fail
          clear c3 c5 u0 u1 t0 h9l S4 he he2;generalize w4.setCell (T9,()) (.slice NA s'.nodes.length NC)=w5 at *;have HD:=hD (show w5.cell? (T9,1)=some (.slice FA fns.length FC) by simpa using FB.o.cell 1);have hFL:(fns.length:Int)<=9223372036854775807:=by have:=hc2f;unfold maxLen at this;omega
          clear hc2f;go_loop [12,13] (λb i=>∃j:Nat,j<=fns.length∧i = .int .i64 j∧b = .bool (zb || (fns.take j).any (λf=>decide (3<f.params.length)))) (λ_ i=>fns.length - (intOf i).toNat)
          case atStart=>exact⟨0,aA4 _,rfl,by rw[HZ.o];first|(simp;done)|(simp;omega)⟩
          case round=>
            obtain⟨j,hj,rfl,rfl⟩:=hrel;have d1:=HD.o;by_cases hlt:j<fns.length
            . have hlt2:(j:Int)<(fns.length:Int):=by omega
              have hls:j<pvs.length:=by have:=TR2.o.samef;omega
              obtain⟨f,hf⟩:∃f,fns[j]?=some f:=⟨_,gE hlt⟩;obtain⟨pv,hpv⟩:∃pv,pvs[j]?=some pv:=⟨_,gE hls⟩;obtain⟨PA,PC,rfl,_,_⟩:=(TR2.o.pars.get hf hpv).cap;obtain⟨fb,rfl,hcell⟩:=TR2.o.fns.some (by omega);have e2:=hcell (j*5+2) _ (sU hf hpv);have HTK:=hD (show ∀p:aG->Bool,(fns.take (j+1)).any p=((fns.take j).any p || p f) from λp=>by
                rw[List.take_add_one,hf,List.any_append];simp)
              clear hls hf hpv hcell;obtain⟨cur,hcur⟩:∃cur,(zb || (fns.take j).any (λf=>decide (3<f.params.length)))=cur:=⟨_,rfl⟩;rw[hcur];have HCUR:=hD hcur;clear hcur;cases cur with
              | true=>
                go_wp2
                go_round
                case rel=>exact⟨j+1,by omega,by go_num,by rw[HTK.o,<-Bool.or_assoc,HCUR.o];rfl⟩
                case measure=>simp[intOf];omega
              | false=>
                by_cases h3:3<f.params.length
                case' pos=>
                 have h3b:(3:Int)<(f.params.length:Int):=by omega
                 have h3d:=hD (decide_eq_true h3)
                case' neg=>
                 have h3b:(f.params.length:Int)<=3:=by omega
                 have h3d:=hD (decide_eq_false h3)
                all_goals
                 clear h3;go_wp2
                 go_round
                 case rel=>exact⟨j+1,by omega,by go_num,by rw[HTK.o,<-Bool.or_assoc,HCUR.o,h3d.o];first|done|rfl|(simp;done)|(simp;omega)⟩
                 case measure=>simp[intOf];omega
            . have hle:(fns.length:Int)<=(j:Int):=by omega
              have htk:=aA5 (show fns.length<=j by omega);rw[htk,HB0.o];have t0:=TB.o.frozen 0;have t1:=TB.o.frozen 1;have u0:=TB.o.cell 0;have u1:=TB.o.cell 1;have ul:=TB.o.lt;have d0:w5.cell? (T9,0)=some (.slice NA s'.nodes.length NC):=by simpa using FB.o.cell 0
              simp at u0 u1
              clear htk;obtain⟨bg,hbg⟩:∃bg,decide (300<s'.nodes.length∨6<fns.length∨fns.any (λf=>decide (3<f.params.length))=true)=bg:=⟨_,rfl⟩;rw[hbg];cases bg with
              | true=>
                have HR2:=hD (show r = .bad 0 4 by rw[HRR2.o,if_pos (of_decide_eq_true hbg)]);have FE:=FE2;clear hbg;go_wp2
                clear t0 t1 u0 u1 ul d0 d1;have hB2:=((TB.o.setCell 0 Un).setCell 1 Un);have F2:Hd (Fr nob w (((w5.setCell (w.heap.size,()) Un).setCell (w.heap.size,U1) Un))):=((FE.o.setCell (w.heap.size,()) Un (λh=>absurd h (Nat.lt_irrefl _))).setCell (w.heap.size,U1) Un (λh=>absurd h (Nat.lt_irrefl _)));have hB3:Blk (((w5.setCell (w.heap.size,()) Un).setCell (w.heap.size,U1) Un)) w.heap.size 26 #[Un,Un]:=hB2;clear hB2;generalize ((w5.setCell (w.heap.size,()) Un).setCell (w.heap.size,U1) Un)=we at *;have z0:=hB3.cell 0;have z1:=hB3.cell 1;simp at z0 z1
                clear hB3;refine bodyPost_ret (v:= .tuple #[.agg #[Un,Un],U0,U4]) (by simp[results,results30,go_sem,z0,z1]) rfl ⟨by rw[HR2.o];rfl,F2⟩
              | false=>
                have HR2:=hD (show r = .good s'.nodes fns by rw[HRR2.o,if_neg (of_decide_eq_false hbg)]);clear hbg;go_wp2
                clear t0 t1 u0 u1 ul d0 d1;have hB2:=((TB.o.setCell 0 (.slice NA s'.nodes.length NC)).setCell 1 (.slice FA fns.length FC));have F2:Hd (Fr nob w ((w5.setCell (w.heap.size,()) (.slice NA s'.nodes.length NC)).setCell (w.heap.size,U1) (.slice FA fns.length FC))):=((FE2.o.setCell (w.heap.size,()) _ (λh=>absurd h (Nat.lt_irrefl _))).setCell (w.heap.size,U1) _ (λh=>absurd h (Nat.lt_irrefl _)));have hone:Fr (bY w.heap.size) w5 ((w5.setCell (w.heap.size,()) (.slice NA s'.nodes.length NC)).setCell (w.heap.size,U1) (.slice FA fns.length FC)):=by
                  have h1:Fr (bY w.heap.size) w5 (w5.setCell (w.heap.size,()) (.slice NA s'.nodes.length NC)):=(Fr.refl _ _).setCell _ _ (λ_=>rfl);exact h1.setCell (w.heap.size,U1) _ (λ_=>rfl)
                have TR3:=hD (TR2.o.far hone (λk hk=>by rw[show k=w.heap.size from hk];exact⟨_,TB⟩));have hB3:Blk ((w5.setCell (w.heap.size,()) (.slice NA s'.nodes.length NC)).setCell (w.heap.size,U1) (.slice FA fns.length FC)) w.heap.size 26 #[.slice NA s'.nodes.length NC,.slice FA fns.length FC]:=hB2;clear hB2 hone;generalize (w5.setCell (w.heap.size,()) (.slice NA s'.nodes.length NC)).setCell (w.heap.size,U1) (.slice FA fns.length FC)=we at *;have z0:=hB3.cell 0;have z1:=hB3.cell 1;simp at z0 z1
                clear hB3;refine bodyPost_ret (v:= .tuple #[.agg #[.slice NA s'.nodes.length NC,.slice FA fns.length FC],U0,U0]) (by simp[results,results30,go_sem,z0,z1]) rfl ⟨by rw[HR2.o];exact⟨_,_,lvs,pvs,rfl,TR3⟩,F2⟩
       . rw[if_neg hk] at hr
         simp only[bS] at hr;obtain⟨fs,hfs,hr⟩:=hr;have HN2:=hD (Nat.le_trans (aV (pI _ _ _ _ hr)) HN);have HKI:=hD (show bM ts 0 s'=false by simpa using hk);have HFS:=hD hfs;have HR2:=hD hr;have HB2:=hD (show fns.length<=40000 by have:=HK.o;have:=HFU.o;omega);clear hr hk h0 hfs HR;go_wp2_with fail
         refine stepM (S.o.step (S.o.st.here.kind 0 HKI)) λw4 S4=>?_;clear hg c1 c2 c4 c5 f2 f4 S he he2;go_wp2_with fail
         refine (aNc (aMx k) S4.o.st.here HFS HN2).mono ?_;rintro e w5 ⟨⟨pv,rfl,hpo,hpn⟩,h5⟩;obtain⟨PA,PC,rfl,_,_⟩:=hpo.cap;have S5:=hD (S4.o.to h5);have HPO:=hD hpo;clear h5 hpo hpn S4;obtain⟨FA,FC,rfl,hf1,hf2⟩:=S5.o.own.cap;clear hf1 hf2;have u0:=S5.o.b9.cell 0;have u1:=S5.o.b9.cell 1;have t1:=S5.o.b9.frozen 1;have h9l:=S5.o.b9.lt;simp at u0 u1
         go_wp2_with (at_builtin;go_loud (refine aL (m:=1) (news:=[bs fs.1.name,fs.1.line,.slice PA fs.1.params.length PC,fs.1.ret,fs.1.body]) rfl _ _ rfl aTa rfl rfl ((S5.o.own.alloc _).alloc _) (Rd.eZ (n:=1) (cs:=[bs fs.1.name,fs.1.line,.slice PA fs.1.params.length PC,fs.1.ret,fs.1.body]) (Blk.new1 _ _ _ _) rfl (by decide)) (by simp[Value.oneCell']) (by have h9:=HB2.o;omega) (by have h9:=HB2.o;unfold maxLen;omega) ?_);go_loud (intro A6 c6 w6 ho6 hf6 hv6;have S6:=hD (S5.o.app (f:=fs.1) HPO ho6 hf6 hv6);have g2:=(((S5.o.b9.alloc _).alloc _).fr hf6 (λhm=>S5.o.own.aD S5.o.b9 (by decide) hm)).frozen 1;have g3:=(((S5.o.b9.alloc _).alloc _).fr hf6 (λhm=>S5.o.own.aD S5.o.b9 (by decide) hm)).cell 1;have g4:=(((S5.o.b9.alloc _).alloc _).fr hf6 (λhm=>S5.o.own.aD S5.o.b9 (by decide) hm)).lt;simp at g3;clear ho6 hf6 hv6 u0 u1 t1 h9l))
         go_roundg k
         case measure=>omega
         case rel=>exact⟨fns++[fs.1],pvs++[.slice PA fs.1.params.length PC],fs.2,_,hD (by have:=HK.o;rw[aA3];simp;omega),S6,HR2⟩
theorem dI:∀{fs:List aG}{vs:List Value}{j:Nat}{f:aG}{v:Value},fs[j]?=some f->vs[j]?=some v->∀i u,(jZ f v)[i]?=some u->(dB fs vs)[j*5+i]?=some u
 | [],_,_,_,_,h,_=>by simp at h
 | _ :: _,[],_,_,_,_,h=>by simp at h
 | a :: fs,b :: vs,0,f,v,h,h2=>by
  simp at h h2;subst h;subst h2
  intro i u hu;rw[dB,List.getElem?_append_left (by have:=(gK hu);omega),Nat.zero_mul,Nat.zero_add];exact hu
 | a :: fs,b :: vs,j+1,f,v,h,h2=>by
  intro i u hu;have:=dI (fs:=fs) (vs:=vs) (j:=j) (by simpa using h) (by simpa using h2) i u hu;rw[dB,List.getElem?_append_right (by simp[jZ];omega),show (jZ a b).length=5 from rfl,show (j+1)*5+i - 5=j*5+i by omega];exact this
theorem aP:∀{l:List (List UInt8×Nat)}{i:Nat}{q:List UInt8×Nat},l[i]?=some q->(aN l)[i*2]?=(bs q.1)∧(aN l)[i*2+1]?=q.2
 | [],_,_,h=>by simp at h
 | a :: l,0,q,h=>by simp at h;subst h;exact⟨rfl,rfl⟩
 | a :: l,i+1,q,h=>by
  have ih:=aP (l:=l) (i:=i) (by simpa using h);have e:aN (a :: l) = .string (bs a.1) :: .int .i64 (a.2:Nat) :: aN l:=rfl;rw[e,show (i+1)*2=i*2+1+1 by omega,List.getElem?_cons_succ,List.getElem?_cons_succ,show i*2+1+1+1=(i*2+1)+1+1 by omega,List.getElem?_cons_succ,List.getElem?_cons_succ];exact ih
theorem iH:∀{ns:List aF}{vs:List Value}{j:Nat}{nd:aF}{v:Value},ns[j]?=some nd->vs[j]?=some v->∀i u,(lF nd v)[i]?=some u->(cB ns vs)[j*5+i]?=some u
 | [],_,_,_,_,h,_=>by simp at h
 | _ :: _,[],_,_,_,_,h=>by simp at h
 | a :: ns,b :: vs,0,nd,v,h,h2=>by
  simp at h h2;subst h;subst h2
  intro i u hu;rw[cB,List.getElem?_append_left (by have:=(gK hu);omega),Nat.zero_mul,Nat.zero_add];exact hu
 | a :: ns,b :: vs,j+1,nd,v,h,h2=>by
  intro i u hu;have:=iH (ns:=ns) (vs:=vs) (j:=j) (by simpa using h) (by simpa using h2) i u hu;rw[cB,List.getElem?_append_right (by simp[lF];omega),show (lF a b).length=5 from rfl,show (j+1)*5+i - 5=j*5+i by omega];exact this
theorem bD.get:∀{ns:List aF}{vs:List Value}{j:Nat}{nd:aF}{v:Value},bD w ns vs->ns[j]?=some nd->vs[j]?=some v->Own w 3 1 v nd.l.length (ints nd.l)
 | [],_,_,_,_,_,h,_=>by simp at h
 | _ :: _,[],_,_,_,_,_,h=>by simp at h
 | a :: ns,b :: vs,0,nd,v,hp,h,h2=>by simp at h h2;subst h;subst h2;exact hp.1
 | a :: ns,b :: vs,j+1,nd,v,hp,h,h2=>bD.get hp.2 (by simpa using h) (by simpa using h2)
section
variable {g:Nat}{lvs pvs:List Value}{ns:List aF}{fs:List aG}{w0 w w':World}{out:List UInt8}{NA FA:Option Addr}{NC FC:Nat}
theorem cZ.node (h:cZ B w nv fv lvs pvs ns fs){x:Nat}{nd:aF} (hx:ns[x]?=some nd):∃nb c lv,nv = .slice (some (nb,())) ns.length c∧ns.length<=c∧Own w 3 1 lv nd.l.length (ints nd.l) ∧
  w.cell? ⟨nb,x*5,none⟩=some (.int .i64 nd.kind)∧w.cell? ⟨nb,x*5+1,none⟩=some (.int .i64 nd.line)∧w.cell? ⟨nb,x*5+2,none⟩=some (.int .i64 nd.n)∧w.cell? ⟨nb,x*5+3,none⟩=some (.string (bs nd.name))∧w.cell? ⟨nb,x*5+4,none⟩=some lv:=by
 have hlt:=(gK hx);obtain⟨A,c,rfl,hc,_⟩:=h.nodes.cap;obtain⟨nb,rfl,hcell⟩:=h.nodes.some (by omega);obtain⟨lv,hlv⟩:∃lv,lvs[x]?=some lv:=⟨_,gE (by have:=h.same;omega)⟩;have key:=iH hx hlv;exact⟨nb,c,lv,rfl,hc,h.below.get hx hlv,hcell _ _ (key 0 _ rfl),hcell _ _ (key 1 _ rfl),hcell _ _ (key 2 _ rfl),hcell _ _ (key 3 _ rfl),hcell _ _ (key 4 _ rfl)⟩
theorem dL {v:Value}{l:List Nat} (h:Own w 3 1 v l.length (ints l)) (h0:0<l.length):∃kb c,v = .slice (some ⟨kb,0,none⟩) l.length c∧l.length<=c∧∀j a,l[j]?=some a->w.cell? ⟨kb,j,none⟩=some (.int .i64 (a:Nat)):=by
 obtain⟨A,c,rfl,hc,_⟩:=h.cap;obtain⟨kb,rfl,hcell⟩:=h.some h0;exact⟨kb,c,rfl,hc,λj a ha=>hcell _ _ (by simp[ints,ha])⟩
end
section
variable {nv fv:Value}{lvs pvs:List Value}{ns:List aF}{fs:List aG}{w w':World}
theorem cZ.no (h:cZ 0 w nv fv lvs pvs ns fs) (f:Fr nob w w'):cZ 0 w' nv fv lvs pvs ns fs:=
 ⟨h.nodes.fr f (λ_ _ x=>x),h.below.no f,h.same,h.fns.fr f (λ_ _ x=>x),h.pars.to f (λ_ _ _ x=>x),h.samef,h.newn,h.newf⟩
theorem cZ.node3 {nb c:Nat}{fv:Value} (h:cZ B w (nb,ns.length,c) fv lvs pvs ns fs){x:Nat}{nd:aF} (hx:ns[x]?=some nd){lv:Value} (hlv:lvs[x]?=some lv):Own w 3 1 lv nd.l.length (ints nd.l) ∧
  w.cell? ⟨nb,x*5,none⟩=some (.int .i64 nd.kind)∧w.cell? ⟨nb,x*5+1,none⟩=some (.int .i64 nd.line)∧w.cell? ⟨nb,x*5+2,none⟩=some (.int .i64 nd.n)∧w.cell? ⟨nb,x*5+3,none⟩=some (.string (bs nd.name))∧w.cell? ⟨nb,x*5+4,none⟩=some lv:=by
 have hlt:=(gK hx);obtain⟨nb',e,hcell⟩:=h.nodes.some (by omega);injection e with e;injection e with e;subst e;have key:=iH hx hlv;exact⟨h.below.get hx hlv,hcell _ _ (key 0 _ rfl),hcell _ _ (key 1 _ rfl),hcell _ _ (key 2 _ rfl),hcell _ _ (key 3 _ rfl),hcell _ _ (key 4 _ rfl)⟩
theorem cZ.fn {fb c:Nat}{w:World} (h:cZ B w nv (fb,fs.length,c) lvs pvs ns fs){j:Nat}{f:aG} (hf:fs[j]?=some f):∃pv,Own w 101 2 pv f.params.length (aN f.params) ∧
  w.cell? (fb,j*5)=(bs f.name)∧w.cell? (fb,j*5+1)=f.line∧w.cell? (fb,j*5+2)=some pv∧w.cell? (fb,j*5+3)=f.ret∧w.cell? (fb,j*5+4)=f.body:=by
 have hlt:=(gK hf);obtain⟨fb',e,hcell⟩:=h.fns.some (by omega);injection e with e;injection e with e;subst e;obtain⟨pv,hpv⟩:∃pv,pvs[j]?=some pv:=⟨_,gE (by have:=h.samef;omega)⟩;have key:=dI hf hpv;exact⟨pv,h.pars.get hf hpv,hcell _ _ (key 0 _ rfl),hcell _ _ (key 1 _ rfl),hcell _ _ (key 2 _ rfl),hcell _ _ (key 3 _ rfl),hcell _ _ (key 4 _ rfl)⟩
end
theorem cZ.zero {lvs pvs:List Value}{ns:List aF}{fs:List aG} (h:cZ B w nv fv lvs pvs ns fs):cZ 0 w nv fv lvs pvs ns fs:=
 ⟨h.nodes,h.below,h.same,h.fns,h.pars,h.samef,λ_ _=>aA4 _,λ_ _=>aA4 _⟩
end Go.Proofs.YtlbjicjinnnboaaGreatDoor
namespace Go.Proofs.YtlbjicjinnnboaaGreatDoor
namespace Pw
open Go.RowKit Go.Proofs.Tryz
variable {ns:List aF}{cls:Nat->Bool}{s:PS}{x:Nat}
def iV (k:Nat):Bool:=decide (1<=k) && decide (k<=9)
def kC (k:Nat):Bool:=iV k || (decide (19<=k) && decide (k<=21))
def mM (k:Nat):Bool:=decide (10<=k) && decide (k<=17)
def pO (k:Nat):Bool:=decide (k=18)
def aNn (k:Nat):Bool:=decide (k=21)
def jO:List (List UInt8):=[[124,124],[38,38],[60],[60,61],[61,61],[33,61],[43],[45],[42],[47],[37]]
def Kid (ns:List aF) (cls:Nat->Bool) (x:Nat):Prop:=∃c,ns[x]?=some c∧cls c.kind=true
inductive dW (ns:List aF):aF->Prop where
 | int (line n:Nat) (h:n<=9223372036854775807):dW ns ⟨1,line,n,[],[]⟩
 | bool (line n:Nat) (h:n<=1):dW ns ⟨2,line,n,[],[]⟩
 | text (line:Nat) (x:List UInt8):dW ns ⟨3,line,0,x,[]⟩
 | var (line:Nat) (x:List UInt8):dW ns ⟨4,line,0,x,[]⟩
 | index (line:Nat) (x:List UInt8) (a:Nat) (h:Kid ns iV a):dW ns ⟨5,line,0,x,[a]⟩
 | len (line a:Nat) (h:Kid ns iV a):dW ns ⟨6,line,0,[],[a]⟩
 | neg (line a:Nat) (h:Kid ns iV a):dW ns ⟨7,line,0,[],[a]⟩
 | not (line a:Nat) (h:Kid ns iV a):dW ns ⟨8,line,0,[],[a]⟩
 | bin (line:Nat) (x:List UInt8) (a b:Nat) (hx:x∈jO) (h:Kid ns iV a) (h2:Kid ns iV b):dW ns ⟨9,line,0,x,[a,b]⟩
 | let_ (line:Nat) (x:List UInt8) (a:Nat) (h:Kid ns kC a):dW ns ⟨10,line,0,x,[a]⟩
 | set (line:Nat) (x:List UInt8) (a:Nat) (h:Kid ns kC a):dW ns ⟨11,line,0,x,[a]⟩
 | put (line:Nat) (x:List UInt8) (a b:Nat) (h:Kid ns iV a) (h2:Kid ns iV b):dW ns ⟨12,line,0,x,[a,b]⟩
 | do_ (line a:Nat) (h:Kid ns aNn a):dW ns ⟨13,line,0,[],[a]⟩
 | print (line a:Nat) (h:Kid ns iV a):dW ns ⟨14,line,0,[],[a]⟩
 | if2 (line a b:Nat) (h:Kid ns iV a) (h2:Kid ns pO b):dW ns ⟨15,line,0,[],[a,b]⟩
 | if3 (line a b c:Nat) (h:Kid ns iV a) (h2:Kid ns pO b) (h3:Kid ns pO c):dW ns ⟨15,line,0,[],[a,b,c]⟩
 | loop (line a b:Nat) (h:Kid ns iV a) (h2:Kid ns pO b):dW ns ⟨16,line,0,[],[a,b]⟩
 | ret0 (line:Nat):dW ns ⟨17,line,0,[],[]⟩
 | ret1 (line a:Nat) (h:Kid ns iV a):dW ns ⟨17,line,0,[],[a]⟩
 | block (line:Nat) (l:List Nat) (h:∀a∈l,Kid ns mM a):dW ns ⟨18,line,0,[],l⟩
 | input (line:Nat):dW ns ⟨19,line,0,[],[]⟩
 | new (line a:Nat) (h:Kid ns iV a):dW ns ⟨20,line,0,[],[a]⟩
 | call (line:Nat) (x:List UInt8) (l:List Nat) (h:∀a∈l,Kid ns iV a):dW ns ⟨21,line,0,x,l⟩
def aS (ns:List aF):Prop:=∀i nd,ns[i]?=some nd->dW (ns.take i) nd
theorem aS.snoc {nd:aF} (h:aS ns) (hn:dW ns nd):aS (ns++[nd]):=by
 intro i x hx;by_cases hi:i<ns.length
 . rw[List.getElem?_append_left hi] at hx
   rw[List.take_append_of_le_length (by omega)];exact h i x hx
 . rw[List.getElem?_append_right (by omega)] at hx
   by_cases he:i=ns.length
   . subst he
     rw[Nat.sub_self] at hx;simp at hx
     subst hx;rw[List.take_left];exact hn
   . rw[List.getElem?_eq_none (by simp;omega)] at hx;cases hx
theorem Kid.mono (h:Kid ns cls x) (y:List aF):Kid (ns++y) cls x:=by
 obtain⟨c,hc,hk⟩:=h;exact⟨c,by rw[List.getElem?_append_left (gK hc)];exact hc,hk⟩
theorem Kid.ext {t:PS} (h:Kid s.nodes cls x) (e:Ext s t):Kid t.nodes cls x:=by
 obtain⟨y,hy⟩:=e.nodes;rw[hy];exact h.mono y
theorem Kid.new (ns:List aF) (nd:aF) (h:cls nd.kind=true):Kid (ns++[nd]) cls ns.length:=⟨nd,by simp,h⟩
theorem Kid.le {c1 c2:Nat->Bool} (h:Kid ns c1 x) (hc:∀k,c1 k=true->c2 k=true):Kid ns c2 x:=by
 obtain⟨c,h1,h2⟩:=h;exact⟨c,h1,hc _ h2⟩
section
variable {src:List UInt8}{ts:List Tok}
def aKy (ns:List aF) (cls:Nat->Bool) (l:List Nat):Prop:=∀a∈l,Kid ns cls a
def aSx (k:Task) (s:PS):Prop:=match k with
 | .more _ _ x=>Kid s.nodes iV x
 | .args l=>aKy s.nodes iV l
 | .stmts l=>aKy s.nodes mM l
 | _=>True
def resT (k:Task):Nat->Bool:=match k with
 | .call=>aNn
 | .right=>kC
 | .block=>pO
 | .stmts _=>mM
 | .named _=>mM
 | .stmt=>mM
 | _=>iV
theorem eP {k line n:Nat}{name:List UInt8}{l:List Nat} (h:aS s.nodes) (hn:dW s.nodes ⟨k,line,n,name,l⟩) (hc:cls k=true):
  aS (bR k line n name l s).2.nodes∧aKy (bR k line n name l s).2.nodes cls (bR k line n name l s).1:=
 ⟨h.snoc hn,λa ha=>by rw[List.mem_singleton.1 ha];exact Kid.new _ _ hc⟩
theorem mH (k:Nat) (s:PS):(aR ts k s).nodes=s.nodes:=by unfold aR;split<;>rfl
theorem aB (x:List UInt8) (s:PS):(aA ts x s).nodes=s.nodes:=by
 unfold aA;split
 . rfl
 . exact mH 20 s
theorem bZ (s:PS):(aI ts s).nodes=s.nodes:=by
 unfold aI;split
 . rfl
 . exact mH 20 s
theorem kP (s:PS):(cO ts s).nodes=s.nodes:=by
 unfold cO;split
 . exact mH 20 s
 . rfl
theorem dM (s:PS):(aX ts s).nodes=s.nodes:=by
 unfold aX;simp only;split
 . rw[mH]
 . rfl
theorem sW {k:Nat} (hk:k≠0) (h:(aR ts k s).e=0):False:=by
 unfold aR at h;split at h
 . exact hk h
 . rename_i h0;exact h0 h
theorem sO {l:List Nat} (h:aKy ns cls l) (h1:l=[oneOf l]):Kid ns cls (oneOf l):=h _ (by rw[h1];exact List.mem_singleton.2 rfl)
theorem yC {lv:Nat} (h:fQ ts lv s≠[]):fQ ts lv s∈jO:=by
 unfold fQ at h ⊢;cases hf:(dQ lv).find? λx=>pIs ts x s with
 | none=>rw[hf] at h;simp at h
 | some x=>
  have hm:=List.mem_of_find?_eq_some hf
  show x∈jO
  unfold dQ at hm;have key:∀l:List (List UInt8),(∀y∈l,y∈jO)->x∈l->x∈jO:=λl h1 h2=>h1 x h2
  split at hm<;>exact key _ (by decide) hm
theorem aOc (ht:dF ts):∀(n:Nat) (k:Task) (s:PS) (r:List Nat×PS),run src ts n k s=some r->dA ts s->r.2.e=0->aS s.nodes->aSx k s->aS r.2.nodes∧aKy r.2.nodes (resT k) r.1:=by
 intro n;induction n with
 | zero=>intro k s r h;simp[run] at h
 | succ n ih=>
  intro k s r h hs he hw hp;have ih2:∀{k:Task} {s:PS} {r:List Nat×PS} {ns:List aF},run src ts n k s=some r->dA ts s->r.2.e=0->s.nodes=ns->aS ns->aSx k s->aS r.2.nodes∧aKy r.2.nodes (resT k) r.1:=λh1 h2 h3 h4 h5 h6=>ih _ _ _ h1 h2 h3 (by rw[h4];exact h5) h6
  cases k with
  | atom=>
   simp only[run] at h;split at h
   . rename_i h0
     simp only[aA0] at h;subst h;exact absurd he h0
   . rename_i h0
     have h0:s.e=0:=by simpa using h0
     split at h
     . rename_i h1
       simp only[aA0] at h;subst h;have hm:bI ts s∈ts:=by
         unfold bI;rw[List.getD,gE hs.room];exact List.getElem_mem _
       exact eP hw (.int _ _ (ht.nums _ hm h1).2.2) rfl
     . split at h
       . simp only[aA0] at h;subst h;exact eP hw (.text _ _) rfl
       . split at h
         . rename_i h3
           split at h
           . rename_i hx
             simp only[mS] at h;obtain⟨q,hq,rfl⟩:=h;have hq1:=aJ _ _ _ _ hq trivial;have e1:q.2.e=0:=((Ext.refl q.2).must (ts:=ts) [93]).e0 he;obtain⟨a,b⟩:=ih2 hq (((hs.lQ ht h3 (by omega)).down ht h0).must ht _) e1 (by rw[aB,dM];rfl) hw trivial;rw[hq1];refine eP (s:=pUp (aA ts [93] q.2)) (by show aS (aA ts [93] q.2).nodes;rw[aB];exact a) (.index _ _ _ ?_) rfl
             show Kid (aA ts [93] q.2).nodes _ _
             rw[aB];exact sO b hq1
           . simp only[aA0] at h;subst h;exact eP hw (.var _ _) rfl
         . split at h
           . simp only[aA0] at h;subst h;exact eP hw (.bool _ _ (by omega)) rfl
           . split at h
             . simp only[aA0] at h;subst h;exact eP hw (.bool _ _ (by omega)) rfl
             . split at h
               . rename_i hl
                 split at h
                 . simp only[mS] at h
                   obtain⟨q,hq,rfl⟩:=h;have hq1:=aJ _ _ _ _ hq trivial;have e1:q.2.e=0:=((Ext.refl q.2).must (ts:=ts) [41]).e0 he;obtain⟨a,b⟩:=ih2 hq (((hs.yL ht hl).down ht h0).must ht _) e1 (by rw[aB,dM];rfl) hw trivial;rw[hq1];refine eP (s:=pUp (aA ts [41] q.2)) (by show aS (aA ts [41] q.2).nodes;rw[aB];exact a) (.len _ _ ?_) rfl
                   show Kid (aA ts [41] q.2).nodes _ _
                   rw[aB];exact sO b hq1
                 . simp only[aA0] at h;subst h;exact (sW (by decide) he).elim
               . split at h
                 . simp only[mS] at h
                   obtain⟨q,hq,rfl⟩:=h;have e1:q.2.e=0:=((Ext.refl q.2).must (ts:=ts) [41]).e0 he;obtain⟨a,b⟩:=ih2 hq ((hs.down ht h0).must ht _) e1 (by rw[aB,dM]) hw trivial;refine⟨by show aS (aA ts [41] q.2).nodes;rw[aB];exact a,?_⟩
                   show aKy (aA ts [41] q.2).nodes _ _
                   rw[aB];exact b
                 . simp only[aA0] at h;subst h;exact (sW (by decide) he).elim
  | factor=>
   simp only[run] at h;split at h
   . rename_i hx
     simp only[mS] at h;obtain⟨q,hq,rfl⟩:=h;have hq1:=aJ _ _ _ _ hq trivial;obtain⟨a,b⟩:=ih2 hq (hs.goDown ht hx) he (show (aX ts s).nodes=s.nodes from dM s) hw trivial;rw[hq1];exact eP (s:=pUp q.2) a (.neg _ _ (sO b hq1)) rfl
   . split at h
     . rename_i hx
       simp only[mS] at h;obtain⟨q,hq,rfl⟩:=h;have hq1:=aJ _ _ _ _ hq trivial;obtain⟨a,b⟩:=ih2 hq (hs.goDown ht hx) he (show (aX ts s).nodes=s.nodes from dM s) hw trivial;rw[hq1];exact eP (s:=pUp q.2) a (.not _ _ (sO b hq1)) rfl
     . (have h9:=ih _ _ _ h hs he hw trivial;exact h9)
  | chain lv=>
   simp only[run] at h;split at h
   . (have h9:=ih _ _ _ h hs he hw trivial;exact h9)
   . simp only[bS] at h
     obtain⟨q,hq,h⟩:=h;have hq1:=aJ _ _ _ _ hq trivial;have e1:q.2.e=0:=(aK _ _ _ _ h).e0 he;obtain⟨a,b⟩:=ih2 hq hs e1 rfl hw trivial
     (have h9:=ih _ _ _ h (iQ ht _ _ _ _ hq hs) he a (sO b hq1);exact h9)
  | more lv line x=>
   simp only[run] at h;split at h
   . simp only[aA0] at h;subst h
     exact⟨hw,λa ha=>by rw[List.mem_singleton.1 ha];exact hp⟩
   . rename_i hx
     simp only[bS] at h;obtain⟨q,hq,h⟩:=h;have hq1:=aJ _ _ _ _ hq trivial;have hok:=iQ ht _ _ _ _ hq (hs.vC ht hx);have hkx:Kid q.2.nodes iV x:=Kid.ext (s:=pGo s) hp (aK _ _ _ _ hq);split at h
     . simp only[aA0] at h;subst h
       obtain⟨a,b⟩:=ih2 hq (hs.vC ht hx) he (show (pGo s).nodes=s.nodes from rfl) hw trivial;exact eP a (.bin _ _ _ _ (yC hx) hkx (sO b hq1)) rfl
     . have e1:q.2.e=0:=(aK _ _ _ _ h).e0 he
       obtain⟨a,b⟩:=ih2 hq (hs.vC ht hx) e1 (show (pGo s).nodes=s.nodes from rfl) hw trivial;obtain⟨c,d⟩:=eP (line:=line) (n:=0) (cls:=iV) a (.bin _ _ _ _ (yC hx) hkx (sO b hq1)) rfl
       (have h9:=ih _ _ _ h (hok.put _ _ _ _ _) he c (d _ (List.mem_singleton.2 rfl));exact h9)
  | args l=>
   simp only[run,bS] at h;obtain⟨q,hq,h⟩:=h;have hq1:=aJ _ _ _ _ hq trivial;have hok:=iQ ht _ _ _ _ hq hs;have hle:=aK _ _ _ _ hq;split at h
   . rename_i hx
     have e1:q.2.e=0:=(aM hx).1;obtain⟨a,b⟩:=ih2 hq hs e1 rfl hw trivial;have h9:=ih _ _ _ h (hok.yL ht hx) he a (show aKy q.2.nodes iV (l++q.1) from λy hy=>by
       rcases List.mem_append.1 hy with hy|hy
       . exact (hp y hy).ext hle
       . exact b y hy)
     exact h9
   . simp only[aA0] at h;subst h
     obtain⟨a,b⟩:=ih2 hq hs he rfl hw trivial;refine⟨a,λy hy=>?_⟩;rcases List.mem_append.1 hy with hy|hy
     . exact (hp y hy).ext hle
     . exact b y hy
  | call=>
   simp only[run,mS] at h;obtain⟨q,hq,rfl⟩:=h;have e1:q.2.e=0:=((Ext.refl q.2).must (ts:=ts) [41]).e0 he;have hw2:aS (aA ts [40] (aI ts s)).nodes:=by rw[aB,bZ];exact hw
   have key:aS q.2.nodes∧aKy q.2.nodes iV q.1:=by
     split at hq
     . exact ih2 hq ((hs.named ht).must ht _) e1 rfl hw2 (λy hy=>by cases hy)
     . simp only[aA0] at hq;subst hq
       exact⟨hw2,λy hy=>by cases hy⟩
   refine eP (s:=aA ts [41] q.2) (by rw[aB];exact key.1) (.call _ _ _ (λy hy=>?_)) rfl;rw[aB];exact key.2 y hy
  | right=>
   simp only[run] at h;split at h
   . simp only[aA0] at h;subst h;exact eP hw (.input _) rfl
   . split at h
     . rename_i hx
       simp only[mS] at h;obtain⟨q,hq,rfl⟩:=h;have hq1:=aJ _ _ _ _ hq trivial;have e1:q.2.e=0:=((Ext.refl q.2).must (ts:=ts) [41]).e0 he;obtain⟨a,b⟩:=ih2 hq ((hs.yL ht hx).must ht _) e1 (by rw[aB];rfl) hw trivial;rw[hq1];refine eP (s:=aA ts [41] q.2) (by rw[aB];exact a) (.new _ _ ?_) rfl;rw[aB];exact sO b hq1
     . split at h
       . obtain⟨a,b⟩:=ih2 h hs he rfl hw trivial
         exact ⟨a, λy hy => (b y hy).le (λk hk => by have : k = 21 := by simpa [resT, aNn] using hk
                                                     subst this; rfl)⟩
       . obtain⟨a,b⟩:=ih2 h hs he rfl hw trivial
         exact ⟨a, λy hy => (b y hy).le (λk hk => by have : iV k = true := hk
                                                     show kC k = true
                                                     unfold kC; rw [this]; rfl)⟩
  | block=>
   simp only[run] at h;split at h
   . rename_i hx
     simp only[mS] at h;obtain⟨q,hq,rfl⟩:=h;have e1:q.2.e=0:=((Ext.refl q.2).must (ts:=ts) [125]).e0 he;obtain⟨a,b⟩:=ih2 hq ((hs.aCl ht hx).must ht _) e1 (by rw[aB,dM]) hw (λy hy=>by cases hy);refine eP (s:=pUp (aA ts [125] q.2)) (by show aS (aA ts [125] q.2).nodes;rw[aB];exact a) (.block _ _ (λy hy=>?_)) rfl
     show Kid (aA ts [125] q.2).nodes _ _
     rw[aB];exact b y hy
   . simp only[aA0] at h;subst h;exact (sW (by decide) he).elim
  | stmts l=>
   simp only[run] at h;split at h
   . rename_i h0
     simp only[aA0] at h;subst h;exact absurd he h0
   . split at h
     . simp only[aA0] at h;subst h;exact⟨hw,hp⟩
     . simp only[bS] at h
       obtain⟨q,hq,h⟩:=h;have e1:q.2.e=0:=(aK _ _ _ _ h).e0 he;obtain⟨a,b⟩:=ih2 hq hs e1 rfl hw trivial;have h9:=ih _ _ _ h (iQ ht _ _ _ _ hq hs) he a (show aKy q.2.nodes mM (l++q.1) from λy hy=>by
         rcases List.mem_append.1 hy with hy|hy
         . exact (hp y hy).ext (aK _ _ _ _ hq)
         . exact b y hy)
       exact h9
  | named line=>
   simp only[run] at h;split at h
   . simp only[mS] at h
     obtain⟨q,hq,rfl⟩:=h;have hq1:=aJ _ _ _ _ hq trivial;have e1:q.2.e=0:=((Ext.refl q.2).must (ts:=ts) [59]).e0 he;obtain⟨a,b⟩:=ih2 hq hs e1 rfl hw trivial;rw[hq1];refine eP (s:=aA ts [59] q.2) (by rw[aB];exact a) (.do_ _ _ ?_) rfl;rw[aB];exact sO b hq1
   . split at h
     . rename_i hx
       simp only[mS,bS] at h;obtain⟨q,hq,u,hu,rfl⟩:=h;have hq1:=aJ _ _ _ _ hq trivial;have hu1:=aJ _ _ _ _ hu trivial;have e2:u.2.e=0:=((Ext.refl u.2).must (ts:=ts) [59]).e0 he;have hx2:=((((Ext.refl q.2).must (ts:=ts) [93]).up).must (ts:=ts) [61]);have e1:q.2.e=0:=hx2.e0 ((aK _ _ _ _ hu).e0 e2);have hsn:dA ts (aI ts s):=hs.named ht;obtain⟨a,b⟩:=ih2 hq ((hsn.aCl ht hx).must ht _) e1 (by rw[aB,dM,bZ]) hw trivial;have hokq:=iQ ht _ _ _ _ hq ((hsn.aCl ht hx).must ht _);obtain⟨c,d⟩:=ih2 hu (((hokq.must ht _).up).must ht _) e2 (show (aA ts [61] (pUp (aA ts [93] q.2))).nodes=q.2.nodes by rw[aB];exact aB _ _) a trivial;rw[hq1,hu1];refine eP (s:=aA ts [59] u.2) (by rw[aB];exact c) (.put _ _ _ _ ?_ ?_) rfl
       . rw[aB]
         exact (sO b hq1).ext (hx2.trans (aK _ _ _ _ hu))
       . rw[aB];exact sO d hu1
     . simp only[mS] at h
       obtain⟨q,hq,rfl⟩:=h;have hq1:=aJ _ _ _ _ hq trivial;have e1:q.2.e=0:=((Ext.refl q.2).must (ts:=ts) [59]).e0 he;obtain⟨a,b⟩:=ih2 hq ((hs.named ht).must ht _) e1 (by rw[aB,bZ]) hw trivial;rw[hq1];refine eP (s:=aA ts [59] q.2) (by rw[aB];exact a) (.set _ _ _ ?_) rfl;rw[aB];exact sO b hq1
  | stmt=>
   simp only[run] at h;split at h
   . rename_i hwd
     simp only[mS] at h;obtain⟨q,hq,rfl⟩:=h;have hq1:=aJ _ _ _ _ hq trivial;have e1:q.2.e=0:=((Ext.refl q.2).must (ts:=ts) [59]).e0 he;obtain⟨a,b⟩:=ih2 hq (((hs.jG ht hwd (by simp)).named ht).must ht _) e1 (by rw[aB,bZ];rfl) hw trivial;rw[hq1];refine eP (s:=aA ts [59] q.2) (by rw[aB];exact a) (.let_ _ _ _ ?_) rfl;rw[aB];exact sO b hq1
   . split at h
     . rename_i hwd
       simp only[mS] at h;obtain⟨q,hq,rfl⟩:=h;have hq1:=aJ _ _ _ _ hq trivial;have e1:q.2.e=0:=((Ext.refl q.2).must (ts:=ts) [59]).e0 he;obtain⟨a,b⟩:=ih2 hq (hs.jG ht hwd (by simp)) e1 (show (pGo s).nodes=s.nodes from rfl) hw trivial;rw[hq1];refine eP (s:=aA ts [59] q.2) (by rw[aB];exact a) (.print _ _ ?_) rfl;rw[aB];exact sO b hq1
     . split at h
       . rename_i hwd
         simp only[mS,bS] at h;obtain⟨q,hq,u,hu,rfl⟩:=h;have hq1:=aJ _ _ _ _ hq trivial;have hu1:=aJ _ _ _ _ hu trivial;have e1:q.2.e=0:=(aK _ _ _ _ hu).e0 he;obtain⟨a,b⟩:=ih2 hq (hs.jG ht hwd (by simp)) e1 (show (pGo s).nodes=s.nodes from rfl) hw trivial;obtain⟨c,d⟩:=ih2 hu (iQ ht _ _ _ _ hq (hs.jG ht hwd (by simp))) he rfl a trivial;rw[hq1,hu1];exact eP (s:=u.2) c (.loop _ _ _ ((sO b hq1).ext (aK _ _ _ _ hu)) (sO d hu1)) rfl
       . split at h
         . rename_i hwd
           simp only[bS] at h;obtain⟨q,hq,u,hu,h⟩:=h;have hq1:=aJ _ _ _ _ hq trivial;have hu1:=aJ _ _ _ _ hu trivial;have hokq:=iQ ht _ _ _ _ hq (hs.jG ht hwd (by simp));have hoku:=iQ ht _ _ _ _ hu hokq;split at h
           . rename_i hx
             simp only[mS] at h;obtain⟨v,hv,rfl⟩:=h;have hv1:=aJ _ _ _ _ hv trivial;have e2:u.2.e=0:=(aM hx).1;have e1:q.2.e=0:=(aK _ _ _ _ hu).e0 e2;obtain⟨a,b⟩:=ih2 hq (hs.jG ht hwd (by simp)) e1 (show (pGo s).nodes=s.nodes from rfl) hw trivial;obtain⟨c,d⟩:=ih2 hu hokq e2 rfl a trivial;obtain⟨f,g⟩:=ih2 hv (hoku.yL ht hx) he (show (pGo u.2).nodes=u.2.nodes from rfl) c trivial;have e3:Ext u.2 v.2:=((Ext.refl u.2).go).trans (aK _ _ _ _ hv);rw[hq1,hu1,hv1];exact eP (s:=v.2) f (.if3 _ _ _ _ (((sO b hq1).ext (aK _ _ _ _ hu)).ext e3) ((sO d hu1).ext e3) (sO g hv1)) rfl
           . simp only[aA0] at h;subst h
             have e1:q.2.e=0:=(aK _ _ _ _ hu).e0 he;obtain⟨a,b⟩:=ih2 hq (hs.jG ht hwd (by simp)) e1 (show (pGo s).nodes=s.nodes from rfl) hw trivial;obtain⟨c,d⟩:=ih2 hu hokq he rfl a trivial;rw[hq1,hu1];exact eP (s:=u.2) c (.if2 _ _ _ ((sO b hq1).ext (aK _ _ _ _ hu)) (sO d hu1)) rfl
         . split at h
           . rename_i hwd
             split at h
             . simp only[aA0] at h;subst h
               exact eP (s:=aA ts [59] (pGo s)) (by rw[aB];exact hw) (.ret0 _) rfl
             . simp only[mS] at h
               obtain⟨q,hq,rfl⟩:=h;have hq1:=aJ _ _ _ _ hq trivial;have e1:q.2.e=0:=((Ext.refl q.2).must (ts:=ts) [59]).e0 he;obtain⟨a,b⟩:=ih2 hq (hs.jG ht hwd (by simp)) e1 (show (pGo s).nodes=s.nodes from rfl) hw trivial;rw[hq1];refine eP (s:=aA ts [59] q.2) (by rw[aB];exact a) (.ret1 _ _ ?_) rfl;rw[aB];exact sO b hq1
           . (have h9:=ih _ _ _ h hs he hw trivial;exact h9)
end
structure nA (ns:List aF) (fs:List aG):Prop where
 nodes:aS ns
 bodies:∀f∈fs,Kid ns pO f.body
 few:ns.length<=300
 fewf:fs.length<=6
 pars:∀f∈fs,f.params.length<=3
 types:∀f∈fs,f.ret<=4∧∀p∈f.params,p.2<=4
section
variable {src:List UInt8}{ts:List Tok}
theorem qB:∀(n:Nat) (acc:List (List UInt8×Nat)) (s:PS) (p:List (List UInt8×Nat)×PS),aT ts n acc s=some p->(∀q∈acc,q.2<=4)->∀q∈p.1,q.2<=4
 | 0,_,_,_,h,_=>by simp[aT] at h
 | n+1,acc,s,p,h,ha=>by
  have h2:∀q∈acc++[(dZ ts s,fT ts (aI ts s))],q.2<=4:=λq hq=>by
    rcases List.mem_append.1 hq with hq|hq
    . exact ha q hq
    . rw[List.mem_singleton.1 hq];exact vS _
  simp only[aT] at h;split at h
  . exact qB n _ _ _ h h2
  . simp only[aA0] at h
    subst h;exact h2
theorem lD:∀(n:Nat) (acc:List (List UInt8×Nat)) (s:PS) (p:List (List UInt8×Nat)×PS),aT ts n acc s=some p->p.2.nodes=s.nodes
 | 0,_,_,_,h=>by simp[aT] at h
 | n+1,acc,s,p,h=>by
  simp only[aT] at h;split at h
  . rw[lD n _ _ _ h]
    show (cO ts (aI ts s)).nodes=_
    rw[kP,bZ]
  . simp only[aA0] at h
    subst h
    show (cO ts (aI ts s)).nodes=_
    rw[kP,bZ]
theorem aPt (ht:dF ts){n:Nat}{fs:aG×PS} (h:eY src ts n s=some fs) (hs:dA ts s) (he:fs.2.e=0) (hw:aS s.nodes):
   aS fs.2.nodes∧Kid fs.2.nodes pO fs.1.body∧fs.1.ret<=4∧∀p∈fs.1.params,p.2<=4:=by
 simp only[eY,bS,mS] at h;obtain⟨p,hp,b,hb,rfl⟩:=h;have h1:dA ts (aA ts [40] (aI ts (aA ts [102,110] s))):=((hs.must ht _).named ht).must ht _;have hn1:(aA ts [40] (aI ts (aA ts [102,110] s))).nodes=s.nodes:=by rw[aB,bZ,aB]
 have h2:dA ts p.2∧p.2.nodes=s.nodes∧∀q∈p.1,q.2<=4:=by
   split at hp
   . exact⟨rY ht _ _ _ _ hp h1,by rw[lD _ _ _ _ hp,hn1],qB _ _ _ _ hp (λq hq=>by cases hq)⟩
   . simp only[aA0] at hp
     subst hp;exact⟨h1,hn1,λq hq=>by cases hq⟩
 have hb1:=aJ _ _ _ _ hb trivial;have key:aS b.2.nodes∧aKy b.2.nodes pO b.1:=by
   split at hb
   . exact aOc ht _ _ _ _ hb (h2.1.must ht _) he (by rw[aB,h2.2.1];exact hw) trivial
   . exact aOc ht _ _ _ _ hb ((h2.1.must ht _).typed ht) he (by rw[kP,aB,h2.2.1];exact hw) trivial
 refine⟨key.1,sO key.2 hb1,?_,h2.2.2⟩
 show (if pIs ts [123] (aA ts [41] p.2)=true then 0 else fT ts (aA ts [41] p.2))<=4
 split
 . omega
 . exact vS _
theorem aOl (ht:dF ts):∀(n:Nat) (acc:List aG) (s:PS) (r:List aG×PS),dR src ts n acc s=some r->dA ts s->r.2.e=0->aS s.nodes->(∀f∈acc,Kid s.nodes pO f.body∧f.ret<=4∧∀p∈f.params,p.2<=4) ->
  aS r.2.nodes∧∀f∈r.1,Kid r.2.nodes pO f.body∧f.ret<=4∧∀p∈f.params,p.2<=4
 | 0,_,_,_,h,_,_,_,_=>by simp[dR] at h
 | n+1,acc,s,r,h,hs,he,hw,ha=>by
  simp only[dR] at h;split at h
  . simp only[aA0] at h;subst h;exact⟨hw,ha⟩
  . split at h
    . simp only[aA0] at h;subst h;exact⟨hw,ha⟩
    . simp only[bS] at h
      obtain⟨fs,hfs,h⟩:=h;have e1:fs.2.e=0:=(pI _ _ _ _ h).e0 he;obtain⟨a,b,c,d⟩:=aPt ht hfs hs e1 hw;refine aOl ht n _ _ _ h (aJk ht hfs hs).1 he a (λf hf=>?_);rcases List.mem_append.1 hf with hf|hf
      . obtain⟨x,y⟩:=ha f hf
        exact⟨x.ext (yO hfs),y⟩
      . rw[List.mem_singleton.1 hf];exact⟨b,c,d⟩
theorem aMg {src:List UInt8}{fs:List aG} (h:parseM src=some (.good ns fs)):nA ns fs:=by
 unfold parseM at h;cases hl:wM src with
 | bad p e=>rw[hl] at h;simp at h
 | good ts=>
  rw[hl] at h;have ht:=lJ hl;simp only[qA,mS] at h;obtain⟨q,hq,h⟩:=h;split at h
  . cases h
  . rename_i h0
    have h0:q.2.e=0:=by simpa using h0
    split at h
    . cases h
    . rename_i hb
      injection h with h1 h2;subst h1;subst h2;have hs:dA ts ⟨0,[],0,0,0⟩:=⟨ht.pos,by decide,λ_=>by decide,by decide,by decide⟩;obtain⟨a,b⟩:=aOl ht _ _ _ _ hq hs h0 (λi nd hi=>by simp at hi) (λf hf=>by cases hf);refine⟨a,λf hf=>(b f hf).1,by omega,by omega,λf hf=>?_,λf hf=>(b f hf).2⟩;by_cases h3:f.params.length<=3
      . exact h3
      . exact absurd (List.any_eq_true.2 ⟨f,hf,by simp;omega⟩) (λe=>hb (.inr (.inr e)))
end
end Pw
end Go.Proofs.YtlbjicjinnnboaaGreatDoor
namespace Go.Proofs.YtlbjicjinnnboaaGreatDoor
namespace Pw
open Go.RowKit Go.Proofs.Tryz
section
variable {α:Type} (g:(Nat->α)->aF->α) (d:α)
end
theorem Kid.lt {ns:List aF}{cls:Nat->Bool}{x:Nat} (h:Kid ns cls x):x<ns.length:=by
 obtain⟨c,hc,_⟩:=h;exact (gK hc)
theorem Kid.take {ns:List aF}{cls:Nat->Bool}{x i:Nat} (h:Kid (ns.take i) cls x):x<i∧Kid ns cls x:=by
 obtain⟨c,hc,hk⟩:=h;rw[List.getElem?_take] at hc;split at hc
 . exact⟨by assumption,c,hc,hk⟩
 . cases hc
section
variable {src:List UInt8}{ts:List Tok}
def dY:Task->List Nat
 | .more _ _ x=>[x] | .args l=>l | .stmts l=>l|_=>[]
end
end Pw
end Go.Proofs.YtlbjicjinnnboaaGreatDoor
