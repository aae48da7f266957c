/- MrF: PAll, TrT, PWf2, PSz2, CkModel. -/
import Derived.Test.YtlbjicjinnnboaaGreatDoorMrE
set_option maxHeartbeats 8000000
set_option maxRecDepth 100000
set_option linter.unusedVariables false
set_option linter.unusedSimpArgs false
/- The parser: All. -/
namespace Go.Proofs.YtlbjicjinnnboaaGreatDoor
open Go.RowKit Go.Proofs.Tryz
variable {w:World}{B:Nat}{nv fv:Value}
section
variable {src:ByteArray}{tb tc b0:Nat}{ts:List Tok}{w0:World}
theorem aKc (ht:xM b0 w0 (tb,ts.length,tc) ts) (hk:aO ts) (hs:src.size≤281474976710656):
  St src tb tc ts w0.heap.size (λ_=>False) w0 (w0.alloc (.cells #[src,(tb,ts.length,tc),U0,Un,U0,U0,U0] 88)) ⟨0,[],0,0,0⟩:=by
 have hf:Fr nob w0 (w0.alloc (.cells #[src,(tb,ts.length,tc),U0,Un,U0,U0,U0] 88)):=(fR w0).alloc _;have hb:=Blk.new w0 88 #[src,(tb,ts.length,tc),U0,Un,U0,U0,U0];refine⟨⟨[],⟨⟨Un,hb,Own.nil _ _ _⟩,trivial,rfl,⟨_,ht.no hf⟩,λnv h1 k hk=>?_⟩,λv hv=>by cases hv⟩,λk hk=>hk.elim,⟨hk.pos,by decide,λ_=>by decide,by decide,by decide⟩,hk,hs,FrR.no hf⟩;have h3:=hb.cell 3;rw[h3] at h1;simp at h1
 subst h1;simp[blk] at hk
end
theorem aAz {g:Nat}{w1 w2:World}{o:Obj} (h1:Fr nob (w.alloc o) w1) (h2:FrR g w1 w2) (hg:w.heap.size≤g):Fr nob w w2:=by
 refine Fr.trans (((fR w).alloc o).tr h1) h2 (λ_ _ x=>x) (λk hk hm=>?_);rcases hm with e|⟨e,_⟩<;>omega
theorem dL.far {w':World}{lvs pvs:List Value}{ns:List aH}{fs:List aD} (h:dL B w nv fv lvs pvs ns fs){M:Nat->Prop} (f:Fr M w w') (hM:∀k,M k->∃cs,Blk w k 26 cs):dL B w' nv fv lvs pvs ns fs:=by
 have farO:∀{e size n:Nat} {v:Value} {xs:List Value},Own w e size v n xs->e≠26->∀k,blk v=some k->¬M k:=λho hne k hk hm=>by
  obtain⟨cs,hc⟩:=hM k hm;exact ho.aG hc hne hk
 have hbel:∀{ns:List aH} {vs:List Value},bJ w ns vs->bJ w' ns vs:=by
  intro ns;induction ns with
  | nil=>intro vs hb;cases vs with
   | nil=>trivial
   | cons _ _=>exact hb.elim
  | cons n ns ih=>intro vs hb;cases vs with
   | nil=>exact hb.elim
   | cons u vs=>exact⟨hb.1.fr f (farO hb.1 (by decide)),ih hb.2⟩
 exact⟨h.nodes.fr f (farO h.nodes (by decide)),hbel h.below,h.same,h.fns.fr f (farO h.fns (by decide)),h.pars.to f (λk cs hk hm=>by
  obtain⟨cs2,hc⟩:=hM k hm;exact hk.ne hc (by decide) rfl),h.samef,h.newn,h.newf⟩
theorem Blk.new1 (w:World) (o:Obj) (t:TypeId) (cs:Array Value):Blk ((w.alloc o).alloc (.cells cs t)) (w.heap.size+1) t cs:=by
 have h:=Blk.new (w.alloc o) t cs;rwa [show (w.alloc o).heap.size=w.heap.size+1 by simp] at h
theorem St.aRy {src:ByteArray}{tb tc:Nat}{ts:List Tok}{g:Nat}{R:Nat->Prop}{w0:World}{s:PS} (h:St src tb tc ts g R w0 w s):w.cell? (g,6)=s.place:=by
 obtain⟨lvs,hr,_⟩:=h.rdr;obtain⟨nv,hb⟩:=hr.blk;have:=hb.cell 6;simpa using this
theorem aKy (src:ByteArray) (w:World) (hs:src.size≤281474976710656){r:xO} (hr:parseM src.data.toList=some r):
  Calls prog 30 #[src] w λe w'=>aJj w.heap.size w' e r∧Fr nob w w':=by
 have HL:=hD (λw'=>aKo src w' hs);have HS:=hD hs;unfold parseM at hr;cases hl:nP src.data.toList with
 | bad p er=>
  rw[hl] at hr HL;simp only[Option.some.injEq] at hr;subst hr;have hne:((er:Int)==0)=false:=by
   have:=vE hl;exact bN.2 (by omega)
  clear hl hs;go_enter func30,ntmps30;go_wp2_with fail
  refine (HL _).mono ?_;rintro e w1 ⟨rfl,hf⟩;have F1:=hD hf;have hB:=(Blk.new w 26 #[Un,Un]).fr hf (λx=>x);have t0:=hB.frozen 0;have t1:=hB.frozen 1;have u0:=hB.cell 0;have u1:=hB.cell 1;have ul:=hB.lt;simp at u0 u1
  clear hf hB;go_wp2_with fail
  have F2:=hD (show Fr nob w ((w1.setCell (w.heap.size,()) Un).setCell (w.heap.size,U1) Un) from
   ((((fR w).alloc _).tr F1).setCell _ _ (λh=>absurd h (Nat.lt_irrefl _))).setCell _ _ (λh=>absurd h (Nat.lt_irrefl _)))
  have hB2:=((((Blk.new w 26 #[Un,Un]).fr F1 (λx=>x)).setCell 0 Un).setCell 1 Un);clear t0 t1 u0 u1 ul;generalize (w1.setCell (w.heap.size,()) Un).setCell (w.heap.size,U1) Un=w2 at *;have z0:=hB2.cell 0;have z1:=hB2.cell 1;simp at z0 z1
  refine bodyPost_ret (v:= .tuple #[.agg #[Un,Un],p,er]) (by simp[results,results30,go_sem,z0,z1]) rfl ⟨rfl,F2⟩
 | good ts=>
  rw[hl] at hr HL;have TK:=hD (gJ hl);have hfew:=aAu hl;simp only[mF,mS] at hr;obtain⟨q,hq,hRR⟩:=hr;have HRR:=hD hRR;have HQ:=hD hq;have HN:=hD (aOw (gJ hl) hq);have hfu:eY ts≤40000:=by unfold eY;omega
  have HFU:=hD hfu;clear hl hs hfu hfew hq hRR;generalize eY ts=n0 at *;go_enter func30,ntmps30;go_wp2_with fail
  refine (HL _).mono ?_;rintro e w1 ⟨⟨v,rfl,htk⟩,hf⟩;obtain⟨A,tc,rfl,hc1,hc2⟩:=htk.slice;obtain⟨tb,rfl,_,_,_⟩:=htk.some TK.o.pos;have F1:=hD hf;have TA:=hD htk;have hsz:=F1.o.size;simp at hsz
  have HG:=hD (show w.heap.size<w1.heap.size by omega);clear hf htk hc1 hc2 hsz;go_wp2_with fail
  have AS:=hD (show ASt src tb tc ts w1.heap.size w1 w.heap.size (w1.heap.size+1) ((w1.alloc (.cells #[src,(tb,ts.length,tc),U0,Un,U0,U0,U0] 88)).alloc (.cells #[Un,Un] 26)) ⟨0,[],0,0,0⟩ Un [] [] from by
   have hS:=aKc TA TK HS.o;have hB:=(((Blk.new w 26 #[Un,Un]).fr F1 (λx=>x)).alloc (.cells #[src,(tb,ts.length,tc),U0,Un,U0,U0,U0] 88)).alloc (.cells #[Un,Un] 26);have h9:=Blk.new (w1.alloc (.cells #[src,(tb,ts.length,tc),U0,Un,U0,U0,U0] 88)) 26 #[Un,Un];rw[show (w1.alloc (.cells #[src,(tb,ts.length,tc),U0,Un,U0,U0,U0] 88)).heap.size=w1.heap.size+1 by simp] at h9;exact⟨hS.alloc _,hB,h9,Nat.le_succ _,by have:=HG.o;omega,Own.nil _ _ _,trivial,rfl,λk hk=>by simp[blk] at hk⟩)
  clear TA;go_loopg [10] n0 (λk x wr=>∃(fns:List aD) (pvs:List Value) (s':PS) (fv:Value),Hd (fns.length+k≤n0)∧Hd (ASt src tb tc ts w1.heap.size w1 w.heap.size (w1.heap.size+1) wr s' fv fns pvs)∧Hd (bA src.data.toList ts k fns s'=some q))
  case atStart=>exact⟨[],[],_,_,hD (by simp),AS,HQ⟩
  case round=>
   obtain⟨fns,pvs,s',fv,HK,S,HR⟩:=hrel;clear AS HQ HL;generalize w1.heap.size+1=T9 at *;generalize w1.heap.size=g at *;have hr:=HR.o;cases gk with
   | zero=>simp[bA] at hr
   | succ k=>
     simp only[bA] at hr;by_cases h0:s'.e=0
     case neg=>
       rw[if_pos h0] at hr;simp only[Option.some.injEq] at hr;subst hr;have HR2:=hD (show r = .bad s'.place s'.e by rw[<-HRR.o,if_pos h0]);have he:((s'.e:Int)==0)=false:=bN.2 (by omega);have he2:((s'.e:Int) != 0)=true:=by rw[bne,he];rfl
       obtain⟨hg,c1,c2,c4,c5,f2,f4⟩:=S.o.st.cells;have c6:=S.o.st.aRy;have t0:=S.o.bt.frozen 0;have t1:=S.o.bt.frozen 1;have u0:=S.o.bt.cell 0;have u1:=S.o.bt.cell 1;have hTl:=S.o.bt.lt;have HGT:=hD (show w.heap.size≠g by have:=HG.o;omega);simp at u0 u1
       go_wp2_with fail
       have m5:((w.heap.size,()):Addr)≠(g,U5):=by intro e;injection e with e;exact HGT e
       have m6:((w.heap.size,()):Addr)≠(g,U6):=by intro e;injection e with e;exact HGT e
       have p5:((w.heap.size,U1):Addr)≠(g,U5):=by intro e;injection e with e;exact HGT e
       have p6:((w.heap.size,U1):Addr)≠(g,U6):=by intro e;injection e with e;exact HGT e
       have D5:=hD c5;have D6:=hD c6;have E5:=hD ((World.cell?_setCell_other (wr.drew.setCell (w.heap.size,()) Un) (w.heap.size,U1) (g,U5) Un p5).trans ((World.cell?_setCell_other wr.drew (w.heap.size,()) (g,U5) Un m5).trans c5));have E6:=hD ((World.cell?_setCell_other (wr.drew.setCell (w.heap.size,()) Un) (w.heap.size,U1) (g,U6) Un p6).trans ((World.cell?_setCell_other wr.drew (w.heap.size,()) (g,U6) Un m6).trans c6));clear m5 m6 p5 p6;go_region_held3 (λwx=>wx.cell? (g,5)=s'.e∧wx.cell? (g,6)=s'.place) (first|exact⟨D5,D6⟩|exact⟨E5,E6⟩) (first|fail)
       -- END A
       clear D5 D6 E5 E6 hg c1 c2 c4 c5 f2 f4 c6 t0 t1 u0 u1 hTl he he2;go_wp2_with fail
       have FE:=hD (aAz F1 S.o.st.fr (Nat.le_of_lt HG));have hB2:=((S.o.bt.setCell 0 Un).setCell 1 Un);have F2:Hd (Fr nob w (((wr.setCell (w.heap.size,()) Un).setCell (w.heap.size,U1) Un).drew)):=((FE.o.setCell (w.heap.size,()) Un (λh=>absurd h (Nat.lt_irrefl _))).setCell (w.heap.size,U1) Un (λh=>absurd h (Nat.lt_irrefl _))).drew;have hB3:Blk (((wr.setCell (w.heap.size,()) Un).setCell (w.heap.size,U1) Un).drew) w.heap.size 26 #[Un,Un]:=hB2;clear hB2;generalize ((wr.setCell (w.heap.size,()) Un).setCell (w.heap.size,U1) Un).drew=we at *;have z0:=hB3.cell 0;have z1:=hB3.cell 1;simp at z0 z1
       clear hB3;refine bodyPost_ret (v:= .tuple #[.agg #[Un,Un],s'.place,s'.e]) (by simp[results,results30,go_sem,z0,z1]) rfl ⟨by rw[HR2.o];rfl,F2⟩
     case pos=>
       rw[if_neg (by omega)] at hr;have he:((s'.e:Int)==0)=true:=by rw[h0];rfl
       have he2:((s'.e:Int) != 0)=false:=by rw[bne,he];rfl
       obtain⟨hg,c1,c2,c4,c5,f2,f4⟩:=S.o.st.cells;by_cases hk:bB ts 0 s'=true
       . rw[if_pos hk] at hr
         simp only[Option.some.injEq] at hr;subst hr;have HKI:=hD hk;have HRR2:=hD (show r=if 300<s'.nodes.length∨6<fns.length∨fns.any (λf=>decide (3<f.params.length))=true then .bad 0 4 else .good s'.nodes fns by rw[<-HRR.o,if_neg (λh=>h h0)]);clear HRR HR hk h0;go_wp2_with fail
         refine stepM (S.o.step (S.o.st.here.kind 0 HKI)) λw4 S4=>?_;clear hg c1 c2 c4 c5 f2 f4;obtain⟨lvs,hrd,_⟩:=S4.o.st.rdr;obtain⟨nv,hgb,hon⟩:=hrd.cells;have hnew:=hrd.newer nv (hgb.cell 3);obtain⟨NA,NC,rfl,_,_⟩:=hon.cap;obtain⟨FA,FC,rfl,hf1,hf2⟩:=S4.o.own.cap;have hc2f:=Nat.le_trans hf1 hf2;clear hf1 hf2;have TR:=hD (show dL w.heap.size w4 (.slice NA s'.nodes.length NC) (.slice FA fns.length FC) lvs pvs s'.nodes fns from
           ⟨hon,hrd.below,hrd.same,S4.o.own,S4.o.pars,S4.o.same,λk hk=>by have:=hnew k hk;have:=HG.o;omega,λk hk=>by have:=S4.o.newf k hk;have:=F1.o.size;simp at this;omega⟩)
         have c3:=hgb.cell 3;have c5:=hgb.cell 5;have u0:=S4.o.b9.cell 0;have u1:=S4.o.b9.cell 1;have t0:=S4.o.b9.frozen 0;have h9l:=S4.o.b9.lt;simp at c3 c5 u0 u1
         have FE:=hD (aAz F1 S4.o.st.fr (Nat.le_of_lt HG));have FB:Hd (Blk (w4.setCell (T9,()) (.slice NA s'.nodes.length NC)) T9 26 #[.slice NA s'.nodes.length NC,.slice FA fns.length FC]):=S4.o.b9.setCell 0 _;have TB:Hd (Blk (w4.setCell (T9,()) (.slice NA s'.nodes.length NC)) w.heap.size 26 #[Un,Un]):=S4.o.bt.far (p:=(T9,())) S4.o.ne _;have TR2:=hD (TR.o.far (M:=dG T9) ((Fr.refl _ w4).setCell (T9,()) (.slice NA s'.nodes.length NC) (λ_=>rfl)) (λk hk=>by rw[show k=T9 from hk];exact⟨_,S4.o.b9⟩));have FE2:Hd (Fr nob w (w4.setCell (T9,()) (.slice NA s'.nodes.length NC))):=FE.o.setCell (T9,()) _ (λh=>by have h':T9<w.heap.size:=h;have:=S4.o.h9;have h3:=F1.o.size;simp at h3;omega);clear hrd hgb hon hnew S FE TR HK HN HKI;by_cases q3:300<s'.nodes.length
         case' pos=>
          have n3:(300:Int)<(s'.nodes.length:Int):=by omega
          obtain⟨zb,hzb⟩:∃zb,zb=true:=⟨_,rfl⟩;have HB0:=hD (show (zb || fns.any (λf=>decide (3<f.params.length)))=decide (300<s'.nodes.length∨6<fns.length∨fns.any (λf=>decide (3<f.params.length))=true) by rw[hzb,Bool.eq_iff_iff,decide_eq_true_eq];simp[q3]);have HZ:=hD hzb;clear q3 hzb
         case' neg=>
          by_cases q6:6<fns.length
          case' pos=>
           have n3:(s'.nodes.length:Int)≤300:=by omega
           have n6:(6:Int)<(fns.length:Int):=by omega
           obtain⟨zb,hzb⟩:∃zb,zb=true:=⟨_,rfl⟩
          case' neg=>
           have n3:(s'.nodes.length:Int)≤300:=by omega
           have n6:(fns.length:Int)≤6:=by omega
           obtain⟨zb,hzb⟩:∃zb,zb=false:=⟨_,rfl⟩
          all_goals
           have HB0:=hD (show (zb || fns.any (λf=>decide (3<f.params.length)))=decide (300<s'.nodes.length∨6<fns.length∨fns.any (λf=>decide (3<f.params.length))=true) by rw[hzb,Bool.eq_iff_iff,decide_eq_true_eq];simp[q3,q6]);have HZ:=hD hzb;clear q3 q6 hzb
         all_goals
          go_wp2_with fail
          clear c3 c5 u0 u1 t0 h9l S4 he he2;generalize w4.setCell (T9,()) (.slice NA s'.nodes.length NC)=w5 at *;have HD:=hD (show w5.cell? (T9,1)=some (.slice FA fns.length FC) by simpa using FB.o.cell 1);have hFL:(fns.length:Int)≤9223372036854775807:=by have:=hc2f;unfold maxLen at this;omega
          clear hc2f;go_loop [12,13] (λb i=>∃j:Nat,j≤fns.length∧i = .int .i64 j∧b = .bool (zb || (fns.take j).any (λf=>decide (3<f.params.length)))) (λ_ i=>fns.length - (intOf i).toNat)
          case atStart=>exact⟨0,Nat.zero_le _,rfl,by rw[HZ.o];first|(simp;done)|(simp;omega)⟩
          case round=>
            obtain⟨j,hj,rfl,rfl⟩:=hrel;have d1:=HD.o;by_cases hlt:j<fns.length
            . have hlt2:(j:Int)<(fns.length:Int):=by omega
              have hls:j<pvs.length:=by have:=TR2.o.samef;omega
              obtain⟨f,hf⟩:∃f,fns[j]?=some f:=⟨_,gE hlt⟩;obtain⟨pv,hpv⟩:∃pv,pvs[j]?=some pv:=⟨_,gE hls⟩;obtain⟨PA,PC,rfl,_,_⟩:=(TR2.o.pars.get hf hpv).cap;obtain⟨fb,rfl,hcell⟩:=TR2.o.fns.some (by omega);have e2:=hcell (j*5+2) _ (rG hf hpv);have HTK:=hD (show ∀p:aD->Bool,(fns.take (j+1)).any p=((fns.take j).any p || p f) from λp=>by
                rw[List.take_add_one,hf,List.any_append];simp)
              clear hls hf hpv hcell;obtain⟨cur,hcur⟩:∃cur,(zb || (fns.take j).any (λf=>decide (3<f.params.length)))=cur:=⟨_,rfl⟩;rw[hcur];have HCUR:=hD hcur;clear hcur;cases cur with
              | true=>
                go_wp2
                go_round
                case rel=>exact⟨j+1,by omega,by go_num,by rw[HTK.o,<-Bool.or_assoc,HCUR.o];rfl⟩
                case measure=>simp[intOf];omega
              | false=>
                by_cases h3:3<f.params.length
                case' pos=>
                 have h3b:(3:Int)<(f.params.length:Int):=by omega
                 have h3d:=hD (decide_eq_true h3)
                case' neg=>
                 have h3b:(f.params.length:Int)≤3:=by omega
                 have h3d:=hD (decide_eq_false h3)
                all_goals
                 clear h3;go_wp2
                 go_round
                 case rel=>exact⟨j+1,by omega,by go_num,by rw[HTK.o,<-Bool.or_assoc,HCUR.o,h3d.o];first|done|rfl|(simp;done)|(simp;omega)⟩
                 case measure=>simp[intOf];omega
            . have hle:(fns.length:Int)≤(j:Int):=by omega
              have htk:=List.take_of_length_le (show fns.length≤j by omega);rw[htk,HB0.o];have t0:=TB.o.frozen 0;have t1:=TB.o.frozen 1;have u0:=TB.o.cell 0;have u1:=TB.o.cell 1;have ul:=TB.o.lt;have d0:w5.cell? (T9,0)=some (.slice NA s'.nodes.length NC):=by simpa using FB.o.cell 0
              simp at u0 u1
              clear htk;obtain⟨bg,hbg⟩:∃bg,decide (300<s'.nodes.length∨6<fns.length∨fns.any (λf=>decide (3<f.params.length))=true)=bg:=⟨_,rfl⟩;rw[hbg];cases bg with
              | true=>
                have HR2:=hD (show r = .bad 0 4 by rw[HRR2.o,if_pos (of_decide_eq_true hbg)]);have FE:=FE2;clear hbg;go_wp2
                clear t0 t1 u0 u1 ul d0 d1;have hB2:=((TB.o.setCell 0 Un).setCell 1 Un);have F2:Hd (Fr nob w (((w5.setCell (w.heap.size,()) Un).setCell (w.heap.size,U1) Un))):=((FE.o.setCell (w.heap.size,()) Un (λh=>absurd h (Nat.lt_irrefl _))).setCell (w.heap.size,U1) Un (λh=>absurd h (Nat.lt_irrefl _)));have hB3:Blk (((w5.setCell (w.heap.size,()) Un).setCell (w.heap.size,U1) Un)) w.heap.size 26 #[Un,Un]:=hB2;clear hB2;generalize ((w5.setCell (w.heap.size,()) Un).setCell (w.heap.size,U1) Un)=we at *;have z0:=hB3.cell 0;have z1:=hB3.cell 1;simp at z0 z1
                clear hB3;refine bodyPost_ret (v:= .tuple #[.agg #[Un,Un],U0,U4]) (by simp[results,results30,go_sem,z0,z1]) rfl ⟨by rw[HR2.o];rfl,F2⟩
              | false=>
                have HR2:=hD (show r = .good s'.nodes fns by rw[HRR2.o,if_neg (of_decide_eq_false hbg)]);clear hbg;go_wp2
                clear t0 t1 u0 u1 ul d0 d1;have hB2:=((TB.o.setCell 0 (.slice NA s'.nodes.length NC)).setCell 1 (.slice FA fns.length FC));have F2:Hd (Fr nob w ((w5.setCell (w.heap.size,()) (.slice NA s'.nodes.length NC)).setCell (w.heap.size,U1) (.slice FA fns.length FC))):=((FE2.o.setCell (w.heap.size,()) _ (λh=>absurd h (Nat.lt_irrefl _))).setCell (w.heap.size,U1) _ (λh=>absurd h (Nat.lt_irrefl _)));have hone:Fr (dG w.heap.size) w5 ((w5.setCell (w.heap.size,()) (.slice NA s'.nodes.length NC)).setCell (w.heap.size,U1) (.slice FA fns.length FC)):=by
                  have h1:Fr (dG w.heap.size) w5 (w5.setCell (w.heap.size,()) (.slice NA s'.nodes.length NC)):=(Fr.refl _ _).setCell _ _ (λ_=>rfl);exact h1.setCell (w.heap.size,U1) _ (λ_=>rfl)
                have TR3:=hD (TR2.o.far hone (λk hk=>by rw[show k=w.heap.size from hk];exact⟨_,TB⟩));have hB3:Blk ((w5.setCell (w.heap.size,()) (.slice NA s'.nodes.length NC)).setCell (w.heap.size,U1) (.slice FA fns.length FC)) w.heap.size 26 #[.slice NA s'.nodes.length NC,.slice FA fns.length FC]:=hB2;clear hB2 hone;generalize (w5.setCell (w.heap.size,()) (.slice NA s'.nodes.length NC)).setCell (w.heap.size,U1) (.slice FA fns.length FC)=we at *;have z0:=hB3.cell 0;have z1:=hB3.cell 1;simp at z0 z1
                clear hB3;refine bodyPost_ret (v:= .tuple #[.agg #[.slice NA s'.nodes.length NC,.slice FA fns.length FC],U0,U0]) (by simp[results,results30,go_sem,z0,z1]) rfl ⟨by rw[HR2.o];exact⟨_,_,lvs,pvs,rfl,TR3⟩,F2⟩
       . rw[if_neg hk] at hr
         simp only[bS] at hr;obtain⟨fs,hfs,hr⟩:=hr;have HN2:=hD (Nat.le_trans (aW (kQ _ _ _ _ hr)) HN);have HKI:=hD (show bB ts 0 s'=false by simpa using hk);have HFS:=hD hfs;have HR2:=hD hr;have HB2:=hD (show fns.length≤40000 by have:=HK.o;have:=HFU.o;omega);clear hr hk h0 hfs HR;go_wp2_with fail
         refine stepM (S.o.step (S.o.st.here.kind 0 HKI)) λw4 S4=>?_;clear hg c1 c2 c4 c5 f2 f4 S he he2;go_wp2_with fail
         refine (aLx (aLr k) S4.o.st.here HFS HN2).mono ?_;rintro e w5 ⟨⟨pv,rfl,hpo,hpn⟩,h5⟩;obtain⟨PA,PC,rfl,_,_⟩:=hpo.cap;have S5:=hD (S4.o.to h5);have HPO:=hD hpo;clear h5 hpo hpn S4;obtain⟨FA,FC,rfl,hf1,hf2⟩:=S5.o.own.cap;clear hf1 hf2;have u0:=S5.o.b9.cell 0;have u1:=S5.o.b9.cell 1;have t1:=S5.o.b9.frozen 1;have h9l:=S5.o.b9.lt;simp at u0 u1
         go_wp2_with (at_builtin;go_loud (refine aN (m:=1) (news:=[bs fs.1.name,fs.1.line,.slice PA fs.1.params.length PC,fs.1.ret,fs.1.body]) rfl _ _ rfl aSl rfl rfl ((S5.o.own.alloc _).alloc _) (Rd.gG (n:=1) (cs:=[bs fs.1.name,fs.1.line,.slice PA fs.1.params.length PC,fs.1.ret,fs.1.body]) (Blk.new1 _ _ _ _) rfl (by decide)) (by simp[Value.oneCell']) (by have h9:=HB2.o;omega) (by have h9:=HB2.o;unfold maxLen;omega) ?_);go_loud (intro A6 c6 w6 ho6 hf6 hv6;have S6:=hD (S5.o.app (f:=fs.1) HPO ho6 hf6 hv6);have g2:=(((S5.o.b9.alloc _).alloc _).fr hf6 (λhm=>S5.o.own.aG S5.o.b9 (by decide) hm)).frozen 1;have g3:=(((S5.o.b9.alloc _).alloc _).fr hf6 (λhm=>S5.o.own.aG S5.o.b9 (by decide) hm)).cell 1;have g4:=(((S5.o.b9.alloc _).alloc _).fr hf6 (λhm=>S5.o.own.aG S5.o.b9 (by decide) hm)).lt;simp at g3;clear ho6 hf6 hv6 u0 u1 t1 h9l))
         go_roundg k
         case measure=>omega
         case rel=>exact⟨fns++[fs.1],pvs++[.slice PA fs.1.params.length PC],fs.2,_,hD (by have:=HK.o;rw[List.length_append];simp;omega),S6,HR2⟩
theorem dN:∀{fs:List aD}{vs:List Value}{j:Nat}{f:aD}{v:Value},fs[j]?=some f->vs[j]?=some v->∀i u,(kF f v)[i]?=some u->(dK fs vs)[j*5+i]?=some u
 | [],_,_,_,_,h,_=>by simp at h
 | _ :: _,[],_,_,_,_,h=>by simp at h
 | a :: fs,b :: vs,0,f,v,h,h2=>by
  simp at h h2;subst h;subst h2
  intro i u hu;rw[dK,List.getElem?_append_left (by have:=(gK hu);omega),Nat.zero_mul,Nat.zero_add];exact hu
 | a :: fs,b :: vs,j+1,f,v,h,h2=>by
  intro i u hu;have:=dN (fs:=fs) (vs:=vs) (j:=j) (by simpa using h) (by simpa using h2) i u hu;rw[dK,List.getElem?_append_right (by simp[kF];omega),show (kF a b).length=5 from rfl,show (j+1)*5+i - 5=j*5+i by omega];exact this
theorem bZ:∀{l:List (List UInt8×Nat)}{i:Nat}{q:List UInt8×Nat},l[i]?=some q->(aP l)[i*2]?=(bs q.1)∧(aP l)[i*2+1]?=q.2
 | [],_,_,h=>by simp at h
 | a :: l,0,q,h=>by simp at h;subst h;exact⟨rfl,rfl⟩
 | a :: l,i+1,q,h=>by
  have ih:=bZ (l:=l) (i:=i) (by simpa using h);have e:aP (a :: l) = .string (bs a.1) :: .int .i64 (a.2:Nat) :: aP l:=rfl;rw[e,show (i+1)*2=i*2+1+1 by omega,List.getElem?_cons_succ,List.getElem?_cons_succ,show i*2+1+1+1=(i*2+1)+1+1 by omega,List.getElem?_cons_succ,List.getElem?_cons_succ];exact ih
theorem iQ:∀{ns:List aH}{vs:List Value}{j:Nat}{nd:aH}{v:Value},ns[j]?=some nd->vs[j]?=some v->∀i u,(kW nd v)[i]?=some u->(dI ns vs)[j*5+i]?=some u
 | [],_,_,_,_,h,_=>by simp at h
 | _ :: _,[],_,_,_,_,h=>by simp at h
 | a :: ns,b :: vs,0,nd,v,h,h2=>by
  simp at h h2;subst h;subst h2
  intro i u hu;rw[dI,List.getElem?_append_left (by have:=(gK hu);omega),Nat.zero_mul,Nat.zero_add];exact hu
 | a :: ns,b :: vs,j+1,nd,v,h,h2=>by
  intro i u hu;have:=iQ (ns:=ns) (vs:=vs) (j:=j) (by simpa using h) (by simpa using h2) i u hu;rw[dI,List.getElem?_append_right (by simp[kW];omega),show (kW a b).length=5 from rfl,show (j+1)*5+i - 5=j*5+i by omega];exact this
theorem bJ.get:∀{ns:List aH}{vs:List Value}{j:Nat}{nd:aH}{v:Value},bJ w ns vs->ns[j]?=some nd->vs[j]?=some v->Own w 3 1 v nd.l.length (ints nd.l)
 | [],_,_,_,_,_,h,_=>by simp at h
 | _ :: _,[],_,_,_,_,_,h=>by simp at h
 | a :: ns,b :: vs,0,nd,v,hp,h,h2=>by simp at h h2;subst h;subst h2;exact hp.1
 | a :: ns,b :: vs,j+1,nd,v,hp,h,h2=>bJ.get hp.2 (by simpa using h) (by simpa using h2)
section
variable {g:Nat}{lvs pvs:List Value}{ns:List aH}{fs:List aD}{w0 w w':World}{out:List UInt8}{NA FA:Option Addr}{NC FC:Nat}
theorem dL.node (h:dL B w nv fv lvs pvs ns fs){x:Nat}{nd:aH} (hx:ns[x]?=some nd):∃nb c lv,nv = .slice (some (nb,())) ns.length c∧ns.length≤c∧Own w 3 1 lv nd.l.length (ints nd.l) ∧
  w.cell? ⟨nb,x*5,none⟩=some (.int .i64 nd.kind)∧w.cell? ⟨nb,x*5+1,none⟩=some (.int .i64 nd.line)∧w.cell? ⟨nb,x*5+2,none⟩=some (.int .i64 nd.n)∧w.cell? ⟨nb,x*5+3,none⟩=some (.string (bs nd.name))∧w.cell? ⟨nb,x*5+4,none⟩=some lv:=by
 have hlt:=(gK hx);obtain⟨A,c,rfl,hc,_⟩:=h.nodes.cap;obtain⟨nb,rfl,hcell⟩:=h.nodes.some (by omega);obtain⟨lv,hlv⟩:∃lv,lvs[x]?=some lv:=⟨_,gE (by have:=h.same;omega)⟩;have key:=iQ hx hlv;exact⟨nb,c,lv,rfl,hc,h.below.get hx hlv,hcell _ _ (key 0 _ rfl),hcell _ _ (key 1 _ rfl),hcell _ _ (key 2 _ rfl),hcell _ _ (key 3 _ rfl),hcell _ _ (key 4 _ rfl)⟩
theorem dQ {v:Value}{l:List Nat} (h:Own w 3 1 v l.length (ints l)) (h0:0<l.length):∃kb c,v = .slice (some ⟨kb,0,none⟩) l.length c∧l.length≤c∧∀j a,l[j]?=some a->w.cell? ⟨kb,j,none⟩=some (.int .i64 (a:Nat)):=by
 obtain⟨A,c,rfl,hc,_⟩:=h.cap;obtain⟨kb,rfl,hcell⟩:=h.some h0;exact⟨kb,c,rfl,hc,λj a ha=>hcell _ _ (by simp[ints,ha])⟩
end
section
variable {nv fv:Value}{lvs pvs:List Value}{ns:List aH}{fs:List aD}{w w':World}
theorem dL.no (h:dL 0 w nv fv lvs pvs ns fs) (f:Fr nob w w'):dL 0 w' nv fv lvs pvs ns fs:=
 ⟨h.nodes.fr f (λ_ _ x=>x),h.below.no f,h.same,h.fns.fr f (λ_ _ x=>x),h.pars.to f (λ_ _ _ x=>x),h.samef,h.newn,h.newf⟩
theorem dL.node3 {nb c:Nat}{fv:Value} (h:dL B w (nb,ns.length,c) fv lvs pvs ns fs){x:Nat}{nd:aH} (hx:ns[x]?=some nd){lv:Value} (hlv:lvs[x]?=some lv):Own w 3 1 lv nd.l.length (ints nd.l) ∧
  w.cell? (nb,x*5)=nd.kind∧w.cell? (nb,x*5+1)=nd.line∧w.cell? (nb,x*5+2)=nd.n∧w.cell? (nb,x*5+3)=(bs nd.name)∧w.cell? (nb,x*5+4)=some lv:=by
 have hlt:=(gK hx);obtain⟨nb',e,hcell⟩:=h.nodes.some (by omega);injection e with e;injection e with e;subst e;have key:=iQ hx hlv;exact⟨h.below.get hx hlv,hcell _ _ (key 0 _ rfl),hcell _ _ (key 1 _ rfl),hcell _ _ (key 2 _ rfl),hcell _ _ (key 3 _ rfl),hcell _ _ (key 4 _ rfl)⟩
theorem dL.fn {fb c:Nat}{w:World} (h:dL B w nv (fb,fs.length,c) lvs pvs ns fs){j:Nat}{f:aD} (hf:fs[j]?=some f):∃pv,Own w 101 2 pv f.params.length (aP f.params) ∧
  w.cell? (fb,j*5)=(bs f.name)∧w.cell? (fb,j*5+1)=f.line∧w.cell? (fb,j*5+2)=some pv∧w.cell? (fb,j*5+3)=f.ret∧w.cell? (fb,j*5+4)=f.body:=by
 have hlt:=(gK hf);obtain⟨fb',e,hcell⟩:=h.fns.some (by omega);injection e with e;injection e with e;subst e;obtain⟨pv,hpv⟩:∃pv,pvs[j]?=some pv:=⟨_,gE (by have:=h.samef;omega)⟩;have key:=dN hf hpv;exact⟨pv,h.pars.get hf hpv,hcell _ _ (key 0 _ rfl),hcell _ _ (key 1 _ rfl),hcell _ _ (key 2 _ rfl),hcell _ _ (key 3 _ rfl),hcell _ _ (key 4 _ rfl)⟩
end
theorem dL.zero {lvs pvs:List Value}{ns:List aH}{fs:List aD} (h:dL B w nv fv lvs pvs ns fs):dL 0 w nv fv lvs pvs ns fs:=
 ⟨h.nodes,h.below,h.same,h.fns,h.pars,h.samef,λ_ _=>Nat.zero_le _,λ_ _=>Nat.zero_le _⟩
end Go.Proofs.YtlbjicjinnnboaaGreatDoor
/- The parser: what holds of the tree of a source. -/
namespace Go.Proofs.YtlbjicjinnnboaaGreatDoor
namespace Pw
open Go.RowKit Go.Proofs.Tryz
variable {ns:List aH}{cls:Nat->Bool}{s:PS}{x:Nat}
def lU (k:Nat):Bool:=decide (1≤k) && decide (k≤9)
def oQ (k:Nat):Bool:=lU k || (decide (19≤k) && decide (k≤21))
def aNk (k:Nat):Bool:=decide (10≤k) && decide (k≤17)
def xQ (k:Nat):Bool:=decide (k=18)
def aPd (k:Nat):Bool:=decide (k=21)
def jR:List (List UInt8):=[[124,124],[38,38],[60],[60,61],[61,61],[33,61],[43],[45],[42],[47],[37]]
def Kid (ns:List aH) (cls:Nat->Bool) (x:Nat):Prop:=∃c,ns[x]?=some c∧cls c.kind=true
inductive eB (ns:List aH):aH->Prop where
 | int (line n:Nat) (h:n≤9223372036854775807):eB ns ⟨1,line,n,[],[]⟩
 | bool (line n:Nat) (h:n≤1):eB ns ⟨2,line,n,[],[]⟩
 | text (line:Nat) (x:List UInt8):eB ns ⟨3,line,0,x,[]⟩
 | var (line:Nat) (x:List UInt8):eB ns ⟨4,line,0,x,[]⟩
 | index (line:Nat) (x:List UInt8) (a:Nat) (h:Kid ns lU a):eB ns ⟨5,line,0,x,[a]⟩
 | len (line a:Nat) (h:Kid ns lU a):eB ns ⟨6,line,0,[],[a]⟩
 | neg (line a:Nat) (h:Kid ns lU a):eB ns ⟨7,line,0,[],[a]⟩
 | not (line a:Nat) (h:Kid ns lU a):eB ns ⟨8,line,0,[],[a]⟩
 | bin (line:Nat) (x:List UInt8) (a b:Nat) (hx:x∈jR) (h:Kid ns lU a) (h2:Kid ns lU b):eB ns ⟨9,line,0,x,[a,b]⟩
 | let_ (line:Nat) (x:List UInt8) (a:Nat) (h:Kid ns oQ a):eB ns ⟨10,line,0,x,[a]⟩
 | set (line:Nat) (x:List UInt8) (a:Nat) (h:Kid ns oQ a):eB ns ⟨11,line,0,x,[a]⟩
 | put (line:Nat) (x:List UInt8) (a b:Nat) (h:Kid ns lU a) (h2:Kid ns lU b):eB ns ⟨12,line,0,x,[a,b]⟩
 | do_ (line a:Nat) (h:Kid ns aPd a):eB ns ⟨13,line,0,[],[a]⟩
 | print (line a:Nat) (h:Kid ns lU a):eB ns ⟨14,line,0,[],[a]⟩
 | if2 (line a b:Nat) (h:Kid ns lU a) (h2:Kid ns xQ b):eB ns ⟨15,line,0,[],[a,b]⟩
 | if3 (line a b c:Nat) (h:Kid ns lU a) (h2:Kid ns xQ b) (h3:Kid ns xQ c):eB ns ⟨15,line,0,[],[a,b,c]⟩
 | loop (line a b:Nat) (h:Kid ns lU a) (h2:Kid ns xQ b):eB ns ⟨16,line,0,[],[a,b]⟩
 | ret0 (line:Nat):eB ns ⟨17,line,0,[],[]⟩
 | ret1 (line a:Nat) (h:Kid ns lU a):eB ns ⟨17,line,0,[],[a]⟩
 | block (line:Nat) (l:List Nat) (h:∀a∈l,Kid ns aNk a):eB ns ⟨18,line,0,[],l⟩
 | input (line:Nat):eB ns ⟨19,line,0,[],[]⟩
 | new (line a:Nat) (h:Kid ns lU a):eB ns ⟨20,line,0,[],[a]⟩
 | call (line:Nat) (x:List UInt8) (l:List Nat) (h:∀a∈l,Kid ns lU a):eB ns ⟨21,line,0,x,l⟩
def eH (ns:List aH):Prop:=∀i nd,ns[i]?=some nd->eB (ns.take i) nd
theorem eH.snoc {nd:aH} (h:eH ns) (hn:eB ns nd):eH (ns++[nd]):=by
 intro i x hx;by_cases hi:i<ns.length
 . rw[List.getElem?_append_left hi] at hx
   rw[List.take_append_of_le_length (by omega)];exact h i x hx
 . rw[List.getElem?_append_right (by omega)] at hx
   by_cases he:i=ns.length
   . subst he
     rw[Nat.sub_self] at hx;simp at hx
     subst hx;rw[List.take_left];exact hn
   . rw[List.getElem?_eq_none (by simp;omega)] at hx;cases hx
theorem Kid.mono (h:Kid ns cls x) (y:List aH):Kid (ns++y) cls x:=by
 obtain⟨c,hc,hk⟩:=h;exact⟨c,by rw[List.getElem?_append_left (gK hc)];exact hc,hk⟩
theorem Kid.ext {t:PS} (h:Kid s.nodes cls x) (e:Ext s t):Kid t.nodes cls x:=by
 obtain⟨y,hy⟩:=e.nodes;rw[hy];exact h.mono y
theorem Kid.new (ns:List aH) (nd:aH) (h:cls nd.kind=true):Kid (ns++[nd]) cls ns.length:=⟨nd,by simp,h⟩
theorem Kid.le {c1 c2:Nat->Bool} (h:Kid ns c1 x) (hc:∀k,c1 k=true->c2 k=true):Kid ns c2 x:=by
 obtain⟨c,h1,h2⟩:=h;exact⟨c,h1,hc _ h2⟩
section
variable {src:List UInt8}{ts:List Tok}
def aJn (ns:List aH) (cls:Nat->Bool) (l:List Nat):Prop:=∀a∈l,Kid ns cls a
def aSi (k:Task) (s:PS):Prop:=match k with
 | .more _ _ x=>Kid s.nodes lU x
 | .args l=>aJn s.nodes lU l
 | .stmts l=>aJn s.nodes aNk l
 | _=>True
def resT (k:Task):Nat->Bool:=match k with
 | .call=>aPd
 | .right=>oQ
 | .block=>xQ
 | .stmts _=>aNk
 | .named _=>aNk
 | .stmt=>aNk
 | _=>lU
theorem fE {k line n:Nat}{name:List UInt8}{l:List Nat} (h:eH s.nodes) (hn:eB s.nodes ⟨k,line,n,name,l⟩) (hc:cls k=true):
  eH (bY k line n name l s).2.nodes∧aJn (bY k line n name l s).2.nodes cls (bY k line n name l s).1:=
 ⟨h.snoc hn,λa ha=>by rw[List.mem_singleton.1 ha];exact Kid.new _ _ hc⟩
theorem lN (k:Nat) (s:PS):(aQ ts k s).nodes=s.nodes:=by unfold aQ;split<;>rfl
theorem aB (x:List UInt8) (s:PS):(aA ts x s).nodes=s.nodes:=by
 unfold aA;split
 . rfl
 . exact lN 20 s
theorem bG (s:PS):(aF ts s).nodes=s.nodes:=by
 unfold aF;split
 . rfl
 . exact lN 20 s
theorem jI (s:PS):(bC ts s).nodes=s.nodes:=by
 unfold bC;split
 . exact lN 20 s
 . rfl
theorem bK (s:PS):(aU ts s).nodes=s.nodes:=by
 unfold aU;simp only;split
 . rw[lN]
 . rfl
theorem mH {k:Nat} (hk:k≠0) (h:(aQ ts k s).e=0):False:=by
 unfold aQ at h;split at h
 . exact hk h
 . rename_i h0;exact h0 h
theorem rC {l:List Nat} (h:aJn ns cls l) (h1:l=[oneOf l]):Kid ns cls (oneOf l):=h _ (by rw[h1];exact List.mem_singleton.2 rfl)
theorem wR {lv:Nat} (h:fC ts lv s≠[]):fC ts lv s∈jR:=by
 unfold fC at h ⊢;cases hf:(dX lv).find? λx=>pIs ts x s with
 | none=>rw[hf] at h;simp at h
 | some x=>
  have hm:=List.mem_of_find?_eq_some hf
  show x∈jR
  unfold dX at hm;have key:∀l:List (List UInt8),(∀y∈l,y∈jR)->x∈l->x∈jR:=λl h1 h2=>h1 x h2
  split at hm<;>exact key _ (by decide) hm
theorem aMz (ht:aO ts):∀(n:Nat) (k:Task) (s:PS) (r:List Nat×PS),run src ts n k s=some r->bT ts s->r.2.e=0->eH s.nodes->aSi k s->eH r.2.nodes∧aJn r.2.nodes (resT k) r.1:=by
 intro n;induction n with
 | zero=>intro k s r h;simp[run] at h
 | succ n ih=>
  intro k s r h hs he hw hp;have ih2:∀{k:Task} {s:PS} {r:List Nat×PS} {ns:List aH},run src ts n k s=some r->bT ts s->r.2.e=0->s.nodes=ns->eH ns->aSi k s->eH r.2.nodes∧aJn r.2.nodes (resT k) r.1:=λh1 h2 h3 h4 h5 h6=>ih _ _ _ h1 h2 h3 (by rw[h4];exact h5) h6
  cases k with
  | atom=>
   simp only[run] at h;split at h
   . rename_i h0
     simp only[Option.some.injEq] at h;subst h;exact absurd he h0
   . rename_i h0
     have h0:s.e=0:=by simpa using h0
     split at h
     . rename_i h1
       simp only[Option.some.injEq] at h;subst h;have hm:bF ts s∈ts:=by
         unfold bF;rw[List.getD,gE hs.room];exact List.getElem_mem _
       exact fE hw (.int _ _ (ht.nums _ hm h1).2.2) rfl
     . split at h
       . simp only[Option.some.injEq] at h;subst h;exact fE hw (.text _ _) rfl
       . split at h
         . rename_i h3
           split at h
           . rename_i hx
             simp only[mS] at h;obtain⟨q,hq,rfl⟩:=h;have hq1:=aK _ _ _ _ hq trivial;have e1:q.2.e=0:=((Ext.refl q.2).must (ts:=ts) [93]).e0 he;obtain⟨a,b⟩:=ih2 hq (((hs.gM ht h3 (by omega)).down ht h0).must ht _) e1 (by rw[aB,bK];rfl) hw trivial;rw[hq1];refine fE (s:=pUp (aA ts [93] q.2)) (by show eH (aA ts [93] q.2).nodes;rw[aB];exact a) (.index _ _ _ ?_) rfl
             show Kid (aA ts [93] q.2).nodes _ _
             rw[aB];exact rC b hq1
           . simp only[Option.some.injEq] at h;subst h;exact fE hw (.var _ _) rfl
         . split at h
           . simp only[Option.some.injEq] at h;subst h;exact fE hw (.bool _ _ (by omega)) rfl
           . split at h
             . simp only[Option.some.injEq] at h;subst h;exact fE hw (.bool _ _ (by omega)) rfl
             . split at h
               . rename_i hl
                 split at h
                 . simp only[mS] at h
                   obtain⟨q,hq,rfl⟩:=h;have hq1:=aK _ _ _ _ hq trivial;have e1:q.2.e=0:=((Ext.refl q.2).must (ts:=ts) [41]).e0 he;obtain⟨a,b⟩:=ih2 hq (((hs.kE ht hl).down ht h0).must ht _) e1 (by rw[aB,bK];rfl) hw trivial;rw[hq1];refine fE (s:=pUp (aA ts [41] q.2)) (by show eH (aA ts [41] q.2).nodes;rw[aB];exact a) (.len _ _ ?_) rfl
                   show Kid (aA ts [41] q.2).nodes _ _
                   rw[aB];exact rC b hq1
                 . simp only[Option.some.injEq] at h;subst h;exact (mH (by decide) he).elim
               . split at h
                 . simp only[mS] at h
                   obtain⟨q,hq,rfl⟩:=h;have e1:q.2.e=0:=((Ext.refl q.2).must (ts:=ts) [41]).e0 he;obtain⟨a,b⟩:=ih2 hq ((hs.down ht h0).must ht _) e1 (by rw[aB,bK]) hw trivial;refine⟨by show eH (aA ts [41] q.2).nodes;rw[aB];exact a,?_⟩
                   show aJn (aA ts [41] q.2).nodes _ _
                   rw[aB];exact b
                 . simp only[Option.some.injEq] at h;subst h;exact (mH (by decide) he).elim
  | factor=>
   simp only[run] at h;split at h
   . rename_i hx
     simp only[mS] at h;obtain⟨q,hq,rfl⟩:=h;have hq1:=aK _ _ _ _ hq trivial;obtain⟨a,b⟩:=ih2 hq (hs.goDown ht hx) he (show (aU ts s).nodes=s.nodes from bK s) hw trivial;rw[hq1];exact fE (s:=pUp q.2) a (.neg _ _ (rC b hq1)) rfl
   . split at h
     . rename_i hx
       simp only[mS] at h;obtain⟨q,hq,rfl⟩:=h;have hq1:=aK _ _ _ _ hq trivial;obtain⟨a,b⟩:=ih2 hq (hs.goDown ht hx) he (show (aU ts s).nodes=s.nodes from bK s) hw trivial;rw[hq1];exact fE (s:=pUp q.2) a (.not _ _ (rC b hq1)) rfl
     . (have h9:=ih _ _ _ h hs he hw trivial;exact h9)
  | chain lv=>
   simp only[run] at h;split at h
   . (have h9:=ih _ _ _ h hs he hw trivial;exact h9)
   . simp only[bS] at h
     obtain⟨q,hq,h⟩:=h;have hq1:=aK _ _ _ _ hq trivial;have e1:q.2.e=0:=(aI _ _ _ _ h).e0 he;obtain⟨a,b⟩:=ih2 hq hs e1 rfl hw trivial
     (have h9:=ih _ _ _ h (fJ ht _ _ _ _ hq hs) he a (rC b hq1);exact h9)
  | more lv line x=>
   simp only[run] at h;split at h
   . simp only[Option.some.injEq] at h;subst h
     exact⟨hw,λa ha=>by rw[List.mem_singleton.1 ha];exact hp⟩
   . rename_i hx
     simp only[bS] at h;obtain⟨q,hq,h⟩:=h;have hq1:=aK _ _ _ _ hq trivial;have hok:=fJ ht _ _ _ _ hq (hs.kD ht hx);have hkx:Kid q.2.nodes lU x:=Kid.ext (s:=pGo s) hp (aI _ _ _ _ hq);split at h
     . simp only[Option.some.injEq] at h;subst h
       obtain⟨a,b⟩:=ih2 hq (hs.kD ht hx) he (show (pGo s).nodes=s.nodes from rfl) hw trivial;exact fE a (.bin _ _ _ _ (wR hx) hkx (rC b hq1)) rfl
     . have e1:q.2.e=0:=(aI _ _ _ _ h).e0 he
       obtain⟨a,b⟩:=ih2 hq (hs.kD ht hx) e1 (show (pGo s).nodes=s.nodes from rfl) hw trivial;obtain⟨c,d⟩:=fE (line:=line) (n:=0) (cls:=lU) a (.bin _ _ _ _ (wR hx) hkx (rC b hq1)) rfl
       (have h9:=ih _ _ _ h (hok.put _ _ _ _ _) he c (d _ (List.mem_singleton.2 rfl));exact h9)
  | args l=>
   simp only[run,bS] at h;obtain⟨q,hq,h⟩:=h;have hq1:=aK _ _ _ _ hq trivial;have hok:=fJ ht _ _ _ _ hq hs;have hle:=aI _ _ _ _ hq;split at h
   . rename_i hx
     have e1:q.2.e=0:=(aL hx).1;obtain⟨a,b⟩:=ih2 hq hs e1 rfl hw trivial;have h9:=ih _ _ _ h (hok.kE ht hx) he a (show aJn q.2.nodes lU (l++q.1) from λy hy=>by
       rcases List.mem_append.1 hy with hy|hy
       . exact (hp y hy).ext hle
       . exact b y hy)
     exact h9
   . simp only[Option.some.injEq] at h;subst h
     obtain⟨a,b⟩:=ih2 hq hs he rfl hw trivial;refine⟨a,λy hy=>?_⟩;rcases List.mem_append.1 hy with hy|hy
     . exact (hp y hy).ext hle
     . exact b y hy
  | call=>
   simp only[run,mS] at h;obtain⟨q,hq,rfl⟩:=h;have e1:q.2.e=0:=((Ext.refl q.2).must (ts:=ts) [41]).e0 he;have hw2:eH (aA ts [40] (aF ts s)).nodes:=by rw[aB,bG];exact hw
   have key:eH q.2.nodes∧aJn q.2.nodes lU q.1:=by
     split at hq
     . exact ih2 hq ((hs.named ht).must ht _) e1 rfl hw2 (λy hy=>by cases hy)
     . simp only[Option.some.injEq] at hq;subst hq
       exact⟨hw2,λy hy=>by cases hy⟩
   refine fE (s:=aA ts [41] q.2) (by rw[aB];exact key.1) (.call _ _ _ (λy hy=>?_)) rfl;rw[aB];exact key.2 y hy
  | right=>
   simp only[run] at h;split at h
   . simp only[Option.some.injEq] at h;subst h;exact fE hw (.input _) rfl
   . split at h
     . rename_i hx
       simp only[mS] at h;obtain⟨q,hq,rfl⟩:=h;have hq1:=aK _ _ _ _ hq trivial;have e1:q.2.e=0:=((Ext.refl q.2).must (ts:=ts) [41]).e0 he;obtain⟨a,b⟩:=ih2 hq ((hs.kE ht hx).must ht _) e1 (by rw[aB];rfl) hw trivial;rw[hq1];refine fE (s:=aA ts [41] q.2) (by rw[aB];exact a) (.new _ _ ?_) rfl;rw[aB];exact rC b hq1
     . split at h
       . obtain⟨a,b⟩:=ih2 h hs he rfl hw trivial
         exact ⟨a, λy hy => (b y hy).le (λk hk => by have : k = 21 := by simpa [resT, aPd] using hk
                                                     subst this; rfl)⟩
       . obtain⟨a,b⟩:=ih2 h hs he rfl hw trivial
         exact ⟨a, λy hy => (b y hy).le (λk hk => by have : lU k = true := hk
                                                     show oQ k = true
                                                     unfold oQ; rw [this]; rfl)⟩
  | block=>
   simp only[run] at h;split at h
   . rename_i hx
     simp only[mS] at h;obtain⟨q,hq,rfl⟩:=h;have e1:q.2.e=0:=((Ext.refl q.2).must (ts:=ts) [125]).e0 he;obtain⟨a,b⟩:=ih2 hq ((hs.eZ ht hx).must ht _) e1 (by rw[aB,bK]) hw (λy hy=>by cases hy);refine fE (s:=pUp (aA ts [125] q.2)) (by show eH (aA ts [125] q.2).nodes;rw[aB];exact a) (.block _ _ (λy hy=>?_)) rfl
     show Kid (aA ts [125] q.2).nodes _ _
     rw[aB];exact b y hy
   . simp only[Option.some.injEq] at h;subst h;exact (mH (by decide) he).elim
  | stmts l=>
   simp only[run] at h;split at h
   . rename_i h0
     simp only[Option.some.injEq] at h;subst h;exact absurd he h0
   . split at h
     . simp only[Option.some.injEq] at h;subst h;exact⟨hw,hp⟩
     . simp only[bS] at h
       obtain⟨q,hq,h⟩:=h;have e1:q.2.e=0:=(aI _ _ _ _ h).e0 he;obtain⟨a,b⟩:=ih2 hq hs e1 rfl hw trivial;have h9:=ih _ _ _ h (fJ ht _ _ _ _ hq hs) he a (show aJn q.2.nodes aNk (l++q.1) from λy hy=>by
         rcases List.mem_append.1 hy with hy|hy
         . exact (hp y hy).ext (aI _ _ _ _ hq)
         . exact b y hy)
       exact h9
  | named line=>
   simp only[run] at h;split at h
   . simp only[mS] at h
     obtain⟨q,hq,rfl⟩:=h;have hq1:=aK _ _ _ _ hq trivial;have e1:q.2.e=0:=((Ext.refl q.2).must (ts:=ts) [59]).e0 he;obtain⟨a,b⟩:=ih2 hq hs e1 rfl hw trivial;rw[hq1];refine fE (s:=aA ts [59] q.2) (by rw[aB];exact a) (.do_ _ _ ?_) rfl;rw[aB];exact rC b hq1
   . split at h
     . rename_i hx
       simp only[mS,bS] at h;obtain⟨q,hq,u,hu,rfl⟩:=h;have hq1:=aK _ _ _ _ hq trivial;have hu1:=aK _ _ _ _ hu trivial;have e2:u.2.e=0:=((Ext.refl u.2).must (ts:=ts) [59]).e0 he;have hx2:=((((Ext.refl q.2).must (ts:=ts) [93]).up).must (ts:=ts) [61]);have e1:q.2.e=0:=hx2.e0 ((aI _ _ _ _ hu).e0 e2);have hsn:bT ts (aF ts s):=hs.named ht;obtain⟨a,b⟩:=ih2 hq ((hsn.eZ ht hx).must ht _) e1 (by rw[aB,bK,bG]) hw trivial;have hokq:=fJ ht _ _ _ _ hq ((hsn.eZ ht hx).must ht _);obtain⟨c,d⟩:=ih2 hu (((hokq.must ht _).up).must ht _) e2 (show (aA ts [61] (pUp (aA ts [93] q.2))).nodes=q.2.nodes by rw[aB];exact aB _ _) a trivial;rw[hq1,hu1];refine fE (s:=aA ts [59] u.2) (by rw[aB];exact c) (.put _ _ _ _ ?_ ?_) rfl
       . rw[aB]
         exact (rC b hq1).ext (hx2.trans (aI _ _ _ _ hu))
       . rw[aB];exact rC d hu1
     . simp only[mS] at h
       obtain⟨q,hq,rfl⟩:=h;have hq1:=aK _ _ _ _ hq trivial;have e1:q.2.e=0:=((Ext.refl q.2).must (ts:=ts) [59]).e0 he;obtain⟨a,b⟩:=ih2 hq ((hs.named ht).must ht _) e1 (by rw[aB,bG]) hw trivial;rw[hq1];refine fE (s:=aA ts [59] q.2) (by rw[aB];exact a) (.set _ _ _ ?_) rfl;rw[aB];exact rC b hq1
  | stmt=>
   simp only[run] at h;split at h
   . rename_i hwd
     simp only[mS] at h;obtain⟨q,hq,rfl⟩:=h;have hq1:=aK _ _ _ _ hq trivial;have e1:q.2.e=0:=((Ext.refl q.2).must (ts:=ts) [59]).e0 he;obtain⟨a,b⟩:=ih2 hq (((hs.dS ht hwd (by simp)).named ht).must ht _) e1 (by rw[aB,bG];rfl) hw trivial;rw[hq1];refine fE (s:=aA ts [59] q.2) (by rw[aB];exact a) (.let_ _ _ _ ?_) rfl;rw[aB];exact rC b hq1
   . split at h
     . rename_i hwd
       simp only[mS] at h;obtain⟨q,hq,rfl⟩:=h;have hq1:=aK _ _ _ _ hq trivial;have e1:q.2.e=0:=((Ext.refl q.2).must (ts:=ts) [59]).e0 he;obtain⟨a,b⟩:=ih2 hq (hs.dS ht hwd (by simp)) e1 (show (pGo s).nodes=s.nodes from rfl) hw trivial;rw[hq1];refine fE (s:=aA ts [59] q.2) (by rw[aB];exact a) (.print _ _ ?_) rfl;rw[aB];exact rC b hq1
     . split at h
       . rename_i hwd
         simp only[mS,bS] at h;obtain⟨q,hq,u,hu,rfl⟩:=h;have hq1:=aK _ _ _ _ hq trivial;have hu1:=aK _ _ _ _ hu trivial;have e1:q.2.e=0:=(aI _ _ _ _ hu).e0 he;obtain⟨a,b⟩:=ih2 hq (hs.dS ht hwd (by simp)) e1 (show (pGo s).nodes=s.nodes from rfl) hw trivial;obtain⟨c,d⟩:=ih2 hu (fJ ht _ _ _ _ hq (hs.dS ht hwd (by simp))) he rfl a trivial;rw[hq1,hu1];exact fE (s:=u.2) c (.loop _ _ _ ((rC b hq1).ext (aI _ _ _ _ hu)) (rC d hu1)) rfl
       . split at h
         . rename_i hwd
           simp only[bS] at h;obtain⟨q,hq,u,hu,h⟩:=h;have hq1:=aK _ _ _ _ hq trivial;have hu1:=aK _ _ _ _ hu trivial;have hokq:=fJ ht _ _ _ _ hq (hs.dS ht hwd (by simp));have hoku:=fJ ht _ _ _ _ hu hokq;split at h
           . rename_i hx
             simp only[mS] at h;obtain⟨v,hv,rfl⟩:=h;have hv1:=aK _ _ _ _ hv trivial;have e2:u.2.e=0:=(aL hx).1;have e1:q.2.e=0:=(aI _ _ _ _ hu).e0 e2;obtain⟨a,b⟩:=ih2 hq (hs.dS ht hwd (by simp)) e1 (show (pGo s).nodes=s.nodes from rfl) hw trivial;obtain⟨c,d⟩:=ih2 hu hokq e2 rfl a trivial;obtain⟨f,g⟩:=ih2 hv (hoku.kE ht hx) he (show (pGo u.2).nodes=u.2.nodes from rfl) c trivial;have e3:Ext u.2 v.2:=((Ext.refl u.2).go).trans (aI _ _ _ _ hv);rw[hq1,hu1,hv1];exact fE (s:=v.2) f (.if3 _ _ _ _ (((rC b hq1).ext (aI _ _ _ _ hu)).ext e3) ((rC d hu1).ext e3) (rC g hv1)) rfl
           . simp only[Option.some.injEq] at h;subst h
             have e1:q.2.e=0:=(aI _ _ _ _ hu).e0 he;obtain⟨a,b⟩:=ih2 hq (hs.dS ht hwd (by simp)) e1 (show (pGo s).nodes=s.nodes from rfl) hw trivial;obtain⟨c,d⟩:=ih2 hu hokq he rfl a trivial;rw[hq1,hu1];exact fE (s:=u.2) c (.if2 _ _ _ ((rC b hq1).ext (aI _ _ _ _ hu)) (rC d hu1)) rfl
         . split at h
           . rename_i hwd
             split at h
             . simp only[Option.some.injEq] at h;subst h
               exact fE (s:=aA ts [59] (pGo s)) (by rw[aB];exact hw) (.ret0 _) rfl
             . simp only[mS] at h
               obtain⟨q,hq,rfl⟩:=h;have hq1:=aK _ _ _ _ hq trivial;have e1:q.2.e=0:=((Ext.refl q.2).must (ts:=ts) [59]).e0 he;obtain⟨a,b⟩:=ih2 hq (hs.dS ht hwd (by simp)) e1 (show (pGo s).nodes=s.nodes from rfl) hw trivial;rw[hq1];refine fE (s:=aA ts [59] q.2) (by rw[aB];exact a) (.ret1 _ _ ?_) rfl;rw[aB];exact rC b hq1
           . (have h9:=ih _ _ _ h hs he hw trivial;exact h9)
end
structure lG (ns:List aH) (fs:List aD):Prop where
 nodes:eH ns
 bodies:∀f∈fs,Kid ns xQ f.body
 few:ns.length≤300
 fewf:fs.length≤6
 pars:∀f∈fs,f.params.length≤3
 types:∀f∈fs,f.ret≤4∧∀p∈f.params,p.2≤4
section
variable {src:List UInt8}{ts:List Tok}
theorem oO:∀(n:Nat) (acc:List (List UInt8×Nat)) (s:PS) (p:List (List UInt8×Nat)×PS),aJ ts n acc s=some p->(∀q∈acc,q.2≤4)->∀q∈p.1,q.2≤4
 | 0,_,_,_,h,_=>by simp[aJ] at h
 | n+1,acc,s,p,h,ha=>by
  have h2:∀q∈acc++[(dH ts s,eF ts (aF ts s))],q.2≤4:=λq hq=>by
    rcases List.mem_append.1 hq with hq|hq
    . exact ha q hq
    . rw[List.mem_singleton.1 hq];exact uM _
  simp only[aJ] at h;split at h
  . exact oO n _ _ _ h h2
  . simp only[Option.some.injEq] at h
    subst h;exact h2
theorem jQ:∀(n:Nat) (acc:List (List UInt8×Nat)) (s:PS) (p:List (List UInt8×Nat)×PS),aJ ts n acc s=some p->p.2.nodes=s.nodes
 | 0,_,_,_,h=>by simp[aJ] at h
 | n+1,acc,s,p,h=>by
  simp only[aJ] at h;split at h
  . rw[jQ n _ _ _ h]
    show (bC ts (aF ts s)).nodes=_
    rw[jI,bG]
  . simp only[Option.some.injEq] at h
    subst h
    show (bC ts (aF ts s)).nodes=_
    rw[jI,bG]
theorem aOu (ht:aO ts){n:Nat}{fs:aD×PS} (h:bO src ts n s=some fs) (hs:bT ts s) (he:fs.2.e=0) (hw:eH s.nodes):
   eH fs.2.nodes∧Kid fs.2.nodes xQ fs.1.body∧fs.1.ret≤4∧∀p∈fs.1.params,p.2≤4:=by
 simp only[bO,bS,mS] at h;obtain⟨p,hp,b,hb,rfl⟩:=h;have h1:bT ts (aA ts [40] (aF ts (aA ts [102,110] s))):=((hs.must ht _).named ht).must ht _;have hn1:(aA ts [40] (aF ts (aA ts [102,110] s))).nodes=s.nodes:=by rw[aB,bG,aB]
 have h2:bT ts p.2∧p.2.nodes=s.nodes∧∀q∈p.1,q.2≤4:=by
   split at hp
   . exact⟨nG ht _ _ _ _ hp h1,by rw[jQ _ _ _ _ hp,hn1],oO _ _ _ _ hp (λq hq=>by cases hq)⟩
   . simp only[Option.some.injEq] at hp
     subst hp;exact⟨h1,hn1,λq hq=>by cases hq⟩
 have hb1:=aK _ _ _ _ hb trivial;have key:eH b.2.nodes∧aJn b.2.nodes xQ b.1:=by
   split at hb
   . exact aMz ht _ _ _ _ hb (h2.1.must ht _) he (by rw[aB,h2.2.1];exact hw) trivial
   . exact aMz ht _ _ _ _ hb ((h2.1.must ht _).typed ht) he (by rw[jI,aB,h2.2.1];exact hw) trivial
 refine⟨key.1,rC key.2 hb1,?_,h2.2.2⟩
 show (if pIs ts [123] (aA ts [41] p.2)=true then 0 else eF ts (aA ts [41] p.2))≤4
 split
 . omega
 . exact uM _
theorem aNh (ht:aO ts):∀(n:Nat) (acc:List aD) (s:PS) (r:List aD×PS),bA src ts n acc s=some r->bT ts s->r.2.e=0->eH s.nodes->(∀f∈acc,Kid s.nodes xQ f.body∧f.ret≤4∧∀p∈f.params,p.2≤4) ->
  eH r.2.nodes∧∀f∈r.1,Kid r.2.nodes xQ f.body∧f.ret≤4∧∀p∈f.params,p.2≤4
 | 0,_,_,_,h,_,_,_,_=>by simp[bA] at h
 | n+1,acc,s,r,h,hs,he,hw,ha=>by
  simp only[bA] at h;split at h
  . simp only[Option.some.injEq] at h;subst h;exact⟨hw,ha⟩
  . split at h
    . simp only[Option.some.injEq] at h;subst h;exact⟨hw,ha⟩
    . simp only[bS] at h
      obtain⟨fs,hfs,h⟩:=h;have e1:fs.2.e=0:=(kQ _ _ _ _ h).e0 he;obtain⟨a,b,c,d⟩:=aOu ht hfs hs e1 hw;refine aNh ht n _ _ _ h (vH ht hfs hs).1 he a (λf hf=>?_);rcases List.mem_append.1 hf with hf|hf
      . obtain⟨x,y⟩:=ha f hf
        exact⟨x.ext (rF hfs),y⟩
      . rw[List.mem_singleton.1 hf];exact⟨b,c,d⟩
theorem aAq {src:List UInt8}{fs:List aD} (h:parseM src=some (.good ns fs)):lG ns fs:=by
 unfold parseM at h;cases hl:nP src with
 | bad p e=>rw[hl] at h;simp at h
 | good ts=>
  rw[hl] at h;have ht:=gJ hl;simp only[mF,mS] at h;obtain⟨q,hq,h⟩:=h;split at h
  . cases h
  . rename_i h0
    have h0:q.2.e=0:=by simpa using h0
    split at h
    . cases h
    . rename_i hb
      injection h with h1 h2;subst h1;subst h2;have hs:bT ts ⟨0,[],0,0,0⟩:=⟨ht.pos,by decide,λ_=>by decide,by decide,by decide⟩;obtain⟨a,b⟩:=aNh ht _ _ _ _ hq hs h0 (λi nd hi=>by simp at hi) (λf hf=>by cases hf);refine⟨a,λf hf=>(b f hf).1,by omega,by omega,λf hf=>?_,λf hf=>(b f hf).2⟩;by_cases h3:f.params.length≤3
      . exact h3
      . exact absurd (List.any_eq_true.2 ⟨f,hf,by simp;omega⟩) (λe=>hb (.inr (.inr e)))
end
end Pw
end Go.Proofs.YtlbjicjinnnboaaGreatDoor
/- The parser: values that are made node by node; how great a tree is. -/
namespace Go.Proofs.YtlbjicjinnnboaaGreatDoor
namespace Pw
open Go.RowKit Go.Proofs.Tryz
section
variable {α:Type} (g:(Nat->α)->aH->α) (d:α)
end
theorem Kid.lt {ns:List aH}{cls:Nat->Bool}{x:Nat} (h:Kid ns cls x):x<ns.length:=by
 obtain⟨c,hc,_⟩:=h;exact (gK hc)
theorem Kid.take {ns:List aH}{cls:Nat->Bool}{x i:Nat} (h:Kid (ns.take i) cls x):x<i∧Kid ns cls x:=by
 obtain⟨c,hc,hk⟩:=h;rw[List.getElem?_take] at hc;split at hc
 . exact⟨by assumption,c,hc,hk⟩
 . cases hc
section
variable {src:List UInt8}{ts:List Tok}
def eD:Task->List Nat
 | .more _ _ x=>[x] | .args l=>l | .stmts l=>l|_=>[]
end
end Pw
open Pw
inductive CkR (α:Type) where
 | bad (e p:Nat)
 | good (a:α)
namespace CkR
def bind {α β:Type}:CkR α->(α->CkR β)->CkR β
 | .bad e p,_=> .bad e p
 | .good a,f=>f a
def map {α β:Type} (f:α->β):CkR α->CkR β
 | .bad e p=> .bad e p
 | .good a=> .good (f a)
@[simp] theorem vO {α β : Type} (e p : Nat) (f : α -> CkR β) : (CkR.bad e p).bind f = .bad e p := rfl
@[simp] theorem aC {α β : Type} (a : α) (f : α -> CkR β) : (CkR.good a).bind f = f a := rfl
@[simp] theorem aOl {α β : Type} (e p : Nat) (f : α -> β) : (CkR.bad e p).map f = .bad e p := rfl
@[simp] theorem cB {α β : Type} (a : α) (f : α -> β) : (CkR.good a).map f = .good (f a) := rfl
theorem bind_eq {α β:Type}{r:CkR α}{f:α->CkR β}{b:β} (h:r.bind f = .good b):∃a,r = .good a∧f a = .good b:=by
 cases r with
 | bad e p=>cases h
 | good a=>exact⟨a,rfl,h⟩
theorem map_eq {α β:Type}{r:CkR α}{f:α->β}{b:β} (h:r.map f = .good b):∃a,r = .good a∧f a=b:=by
 cases r with
 | bad e p=>cases h
 | good a=>injection h with h;exact⟨a,rfl,h⟩
end CkR
structure mU where
 name:List UInt8
 ty:Nat
 slot:Nat
 deriving DecidableEq
structure CkS where
 types:List Nat
 slots:List Int
 fn:List Nat
 vars:List mU
 size:Nat
def eT (vars:List mU) (name:List UInt8):Option mU:=vars.find? λv=>decide (v.name=name)
def findF (fs:List aD) (name:List UInt8):Option Nat:=fs.findIdx? λf=>decide (f.name=name)
def dA (sign:List UInt8) (a b:Nat):Nat:=
 if a≠b then 0
 else if sign=[124,124]∨sign=[38,38] then (if a=2 then 2 else 0)
 else if sign=[60]∨sign=[60,61] then (if a=1 then 2 else 0)
 else if sign=[61,61]∨sign=[33,61] then (if a=1∨a=2∨a=3 then 2 else 0)
 else if sign=[43] then (if a=1∨a=3 then a else 0)
 else if a=1 then 1 else 0
section
variable (ns:List aH) (fs:List aD) (k:Nat)
def aV (x:Nat) (name:List UInt8) (s:CkS):CkR (Nat×CkS):=
 match eT s.vars name with
 | none=> .bad 40 x
 | some v=> .good (v.ty,{ s with slots:=s.slots.set x v.slot })
section
variable (ex:Nat->CkS->CkR (Nat×CkS))
def bH:List Nat->CkS->CkR (List Nat×CkS)
 | [],s=> .good ([],s)
 | a :: l,s=>(ex a s).bind λr=>(bH l r.2).map λq=>(r.1 :: q.1,q.2)
def jP (x:Nat) (nd:aH) (s:CkS):CkR (Nat×CkS):=
 match findF fs nd.name with
 | none=> .bad 40 x
 | some j=>(bH ex nd.l s).bind λr=>
  if r.1.length≠((fs[j]?.map (·.params)).getD []).length then .bad 43 x
  else if r.1≠((fs[j]?.map (·.params)).getD []).map (·.2) then .bad 42 x
  else .good ((fs[j]?.map (·.ret)).getD 0,r.2)
def bM (x:Nat) (nd:aH) (s:CkS):CkR (Nat×CkS):=
 if nd.kind=1∨nd.kind=19 then .good (1,s)
 else if nd.kind=2 then .good (2,s)
 else if nd.kind=3 then .good (3,s)
 else if nd.kind=4 then aV x nd.name s
 else if nd.kind=21 then jP fs ex x nd s
 else if nd.kind=5 then (aV x nd.name s).bind λt=>(ex (nd.l.headD 0) t.2).bind λr=>if t.1=4∧r.1=1 then .good (1,r.2) else .bad 42 x
 else if nd.kind=9 then (ex (nd.l.headD 0) s).bind λa=>(ex (nd.l.getD 1 0) a.2).bind λb=>
  if dA nd.name a.1 b.1=0 then .bad 42 x else .good (dA nd.name a.1 b.1,b.2)
 else (ex (nd.l.headD 0) s).bind λr=>
  if nd.kind=6 then (if r.1=3∨r.1=4 then .good (1,r.2) else .bad 42 x)
  else if nd.kind=7 then (if r.1=1 then .good (1,r.2) else .bad 42 x)
  else if nd.kind=8 then (if r.1=2 then .good (2,r.2) else .bad 42 x)
  else (if r.1=1 then .good (4,r.2) else .bad 42 x)
end
def dR:Nat->Nat->CkS->CkR (Nat×CkS)
 | 0,_,_=> .bad 99 0
 | f+1,x,s=>
  match ns[x]? with
  | none=> .bad 98 0
  | some nd=>(bM fs (dR f) x nd s).map λr=>(r.1,{ r.2 with types:=r.2.types.set x r.1,fn:=r.2.fn.set x k })
section
variable (ex:Nat->CkS->CkR (Nat×CkS)) (bl:Nat->CkS->CkR CkS)
def aAv (x:Nat) (nd:aH) (s:CkS):CkR CkS:=
 (ex (nd.l.headD 0) s).bind λr=>
   if r.1=0 then .bad 42 x
   else if (eT r.2.vars nd.name).isSome then .bad 41 x
   else if 24≤r.2.size then .bad 4 x
   else .good { r.2 with slots:=r.2.slots.set x r.2.size,vars:=r.2.vars++[⟨nd.name,r.1,r.2.size⟩],size:=r.2.size+1 }
def eO (st:Nat->CkS->CkR CkS):List Nat->CkS->CkR CkS
 | [],s=> .good s
 | a :: l,s=>(st a s).bind λs=>eO st l s
def vR (x:Nat) (nd:aH) (s:CkS):CkR CkS:=
 if (nd.l.length=1)↔((fs[k]?.map (·.ret)).getD 0≠0) then
  (if nd.l.length=1 then (ex (nd.l.headD 0) s).bind λr=>if r.1=(fs[k]?.map (·.ret)).getD 0 then .good r.2 else .bad 42 x else .good s)
 else .bad 43 x
def iP (x:Nat) (nd:aH) (s:CkS):CkR CkS:=
 let s:={ s with fn:=s.fn.set x k }
 if nd.kind=10 then aAv ex x nd s
 else if nd.kind=11 then (aV x nd.name s).bind λt=>(ex (nd.l.headD 0) t.2).bind λr=>if t.1=r.1 then .good r.2 else .bad 42 x
 else if nd.kind=12 then (aV x nd.name s).bind λt=>(ex (nd.l.headD 0) t.2).bind λr=>(ex (nd.l.getD 1 0) r.2).bind λq=>if t.1=4∧r.1=1∧q.1=1 then .good q.2 else .bad 42 x
 else if nd.kind=13 then (ex (nd.l.headD 0) s).map (·.2)
 else if nd.kind=14 then (ex (nd.l.headD 0) s).bind λr=>if r.1≠4 then .good r.2 else .bad 42 x
 else if nd.kind=17 then vR fs k ex x nd s
 else (ex (nd.l.headD 0) s).bind λr=>if r.1=2 then eO bl nd.l.tail r.2 else .bad 42 x
end
def bW:Nat->Nat->CkS->CkR CkS
 | 0,_,_=> .bad 97 0
 | f+1,x,s=>
  match ns[x]? with
  | none=> .bad 96 0
  | some nd=>(eO (λa s=>match ns[a]? with
   | none=> .bad 95 0
   | some na=>iP fs k (dR ns fs k ns.length) (bW f) a na s) nd.l { s with fn:=s.fn.set x k }).map λr=>{ r with vars:=r.vars.take s.vars.length }
end
structure gB where
 ns:List aH
 fs:List aD
 types:List Nat
 slots:List Int
 fn:List Nat
 sizes:List Nat
def jO (body:Nat):List (List UInt8×Nat)->List mU->CkR (List mU)
 | [],vs=> .good vs
 | p :: l,vs=>if (eT vs p.1).isSome then .bad 41 body else jO body l (vs++[⟨p.1,p.2,vs.length⟩])
section
variable (ns:List aH) (fs:List aD)
def gP (k:Nat) (f:aD) (s:CkS):CkR CkS:=
 (jO f.body f.params []).bind λvs=>bW ns fs k ns.length f.body { s with vars:=vs,size:=vs.length }
def iE:Nat->List aD->List Nat->CkS->CkR (List Nat×CkS)
 | _,[],zs,s=> .good (zs,s)
 | k,f :: l,zs,s=>(gP ns fs k f s).bind λr=>iE (k+1) l (zs++[r.size]) r
def fQ (f:aD):Bool:=decide (f.name=[109,97,105,110]) && decide (f.params.length=0) && decide (f.ret=0)
def bU:List (List UInt8)->List aD->Option Nat
 | _,[]=>none
 | seen,f :: l=>if f.name∈seen then some f.body else bU (seen++[f.name]) l
def iZ:CkR Unit:=
 match bU [] fs with
 | some b=> .bad 41 b
 | none=>if fs.any fQ then .good () else .bad 44 0
def gD:CkS:=⟨List.replicate ns.length 0,List.replicate ns.length (-1),List.replicate ns.length 0,[],0⟩
def dV:CkR gB:=
 (iZ fs).bind λ_=>(iE ns fs 0 fs [] (gD ns)).map λr=>⟨ns,fs,r.2.types,r.2.slots,r.2.fn,r.1⟩
end
inductive fD where
 | bad (p e:Nat)
 | good (p:gB)
def dJ (src:List UInt8):Option fD:=
 (parseM src).map fun
   | .bad p e=> .bad p e
   | .good ns fs=>match dV ns fs with
    | .bad e x=>if e=44 then .bad 0 44 else .bad ((ns[x]?.map (·.line)).getD 0) e
    | .good p=> .good p
end Go.Proofs.YtlbjicjinnnboaaGreatDoor
