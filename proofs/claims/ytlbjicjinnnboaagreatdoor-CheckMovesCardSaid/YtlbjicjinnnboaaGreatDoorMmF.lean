/- MmF: PAll, TrT, PWf2, PSz2, CkModel. -/
import Derived.Test.YtlbjicjinnnboaaGreatDoorMmE
set_option maxHeartbeats 8000000
set_option maxRecDepth 100000
set_option linter.unusedVariables false
set_option linter.unusedSimpArgs false
/- The parser: All. -/
namespace Go.Proofs.YtlbjicjinnnboaaGreatDoor
open Go.RowKit
section
variable {src:ByteArray}{tb tc b0:Nat}{ts:List Tok}{w0:World}
theorem aKm (ht:xQ b0 w0 (.slice (some ⟨tb,0,none⟩) ts.length tc) ts) (hk:aQ ts) (hs:src.size≤281474976710656):
  St src tb tc ts w0.heap.size (fun _=>False) w0 (w0.alloc (.cells #[.string src,.slice (some ⟨tb,0,none⟩) ts.length tc,.int .i64 0,.slice none 0 0,.int .i64 0,.int .i64 0,.int .i64 0] 88)) ⟨0,[],0,0,0⟩:=by
 have hf:Fr nob w0 (w0.alloc (.cells #[.string src,.slice (some ⟨tb,0,none⟩) ts.length tc,.int .i64 0,.slice none 0 0,.int .i64 0,.int .i64 0,.int .i64 0] 88)):=(fR w0).alloc _;have hb:=Blk.new w0 88 #[.string src,.slice (some ⟨tb,0,none⟩) ts.length tc,.int .i64 0,.slice none 0 0,.int .i64 0,.int .i64 0,.int .i64 0];refine⟨⟨[],⟨⟨.slice none 0 0,hb,Own.nil _ _ _⟩,trivial,rfl,⟨_,ht.no hf⟩,fun nv h1 k hk=>?_⟩,fun v hv=>by cases hv⟩,fun k hk=>hk.elim,⟨hk.pos,by decide,fun _=>by decide,by decide,by decide⟩,hk,hs,FrR.no hf⟩;have h3:=hb.cell 3;rw[h3] at h1;simp at h1
 subst h1;simp[blk] at hk
end
theorem aBn {g:Nat}{w w1 w2:World}{o:Obj} (h1:Fr nob (w.alloc o) w1) (h2:FrR g w1 w2) (hg:w.heap.size≤g):Fr nob w w2:=by
 refine Fr.trans (((fR w).alloc o).tr h1) h2 (fun _ _ x=>x) (fun k hk hm=>?_);rcases hm with e|⟨e,_⟩<;>omega
theorem dH.far {B:Nat}{w w':World}{nv fv:Value}{lvs pvs:List Value}{ns:List aF}{fs:List aD} (h:dH B w nv fv lvs pvs ns fs){M:Nat→Prop} (f:Fr M w w') (hM:∀k,M k→∃cs,Blk w k 26 cs):dH B w' nv fv lvs pvs ns fs:=by
 have farO:∀{e size n:Nat} {v:Value} {xs:List Value},Own w e size v n xs→e≠26→∀k,blk v=some k→¬M k:=fun ho hne k hk hm=>by
  obtain⟨cs,hc⟩:=hM k hm;exact ho.aG hc hne hk
 have hbel:∀{ns:List aF} {vs:List Value},bG w ns vs→bG w' ns vs:=by
  intro ns;induction ns with
  | nil=>intro vs hb;cases vs with
   | nil=>trivial
   | cons _ _=>exact hb.elim
  | cons n ns ih=>intro vs hb;cases vs with
   | nil=>exact hb.elim
   | cons u vs=>exact⟨hb.1.fr f (farO hb.1 (by decide)),ih hb.2⟩
 exact⟨h.nodes.fr f (farO h.nodes (by decide)),hbel h.below,h.same,h.fns.fr f (farO h.fns (by decide)),h.pars.to f (fun k cs hk hm=>by
  obtain⟨cs2,hc⟩:=hM k hm;exact hk.ne hc (by decide) rfl),h.samef,h.newn,h.newf⟩
theorem Blk.new1 (w:World) (o:Obj) (t:TypeId) (cs:Array Value):Blk ((w.alloc o).alloc (.cells cs t)) (w.heap.size+1) t cs:=by
 have h:=Blk.new (w.alloc o) t cs;rwa [show (w.alloc o).heap.size=w.heap.size+1 by simp] at h
theorem St.aRb {src:ByteArray}{tb tc:Nat}{ts:List Tok}{g:Nat}{R:Nat→Prop}{w0 w:World}{s:PS} (h:St src tb tc ts g R w0 w s):w.cell? ⟨g,6,none⟩=some (.int .i64 s.place):=by
 obtain⟨lvs,hr,_⟩:=h.rdr;obtain⟨nv,hb⟩:=hr.blk;have:=hb.cell 6;simpa using this
theorem aLi (src:ByteArray) (w:World) (hs:src.size≤281474976710656){r:tX} (hr:parseM src.data.toList=some r):
  Calls Tryz.prog 30 #[.string src] w fun e w'=>aAf w.heap.size w' e r∧Fr nob w w':=by
 have HL:=hD (fun w'=>aKx src w' hs);have HS:=hD hs;unfold parseM at hr;cases hl:nG src.data.toList with
 | bad p er=>
  rw[hl] at hr HL;simp only[Option.some.injEq] at hr;subst hr;have hne:((er:Int)==0)=false:=by
   have:=uY hl;exact bN.2 (by omega)
  clear hl hs;go_enter Tryz.func30,Tryz.ntmps30;go_wp2_with fail
  refine (HL.out _).mono ?_;rintro e w1 ⟨rfl,hf⟩;have F1:=hD hf;have hB:=(Blk.new w 26 #[.slice none 0 0,.slice none 0 0]).fr hf (fun x=>x);have t0:=hB.frozen 0;have t1:=hB.frozen 1;have u0:=hB.cell 0;have u1:=hB.cell 1;have ul:=hB.lt;simp at u0 u1
  clear hf hB;go_wp2_with fail
  have F2:=hD (show Fr nob w ((w1.setCell ⟨w.heap.size,0,none⟩ (.slice none 0 0)).setCell ⟨w.heap.size,1,none⟩ (.slice none 0 0)) from
   ((((fR w).alloc _).tr F1.out).setCell _ _ (fun h=>absurd h (Nat.lt_irrefl _))).setCell _ _ (fun h=>absurd h (Nat.lt_irrefl _)))
  have hB2:=((((Blk.new w 26 #[.slice none 0 0,.slice none 0 0]).fr F1.out (fun x=>x)).setCell 0 (.slice none 0 0)).setCell 1 (.slice none 0 0));clear t0 t1 u0 u1 ul;generalize (w1.setCell ⟨w.heap.size,0,none⟩ (.slice none 0 0)).setCell ⟨w.heap.size,1,none⟩ (.slice none 0 0)=w2 at *;have z0:=hB2.cell 0;have z1:=hB2.cell 1;simp at z0 z1
  refine bodyPost_ret (v:= .tuple #[.agg #[.slice none 0 0,.slice none 0 0],.int .i64 p,.int .i64 er]) (by simp[results,Tryz.results30,go_sem,z0,z1]) rfl ⟨rfl,F2.out⟩
 | good ts=>
  rw[hl] at hr HL;have TK:=hD (iL hl);have hfew:=aBh hl;simp only[lH,mS] at hr;obtain⟨q,hq,hRR⟩:=hr;have HRR:=hD hRR;have HQ:=hD hq;have HN:=hD (aOi (iL hl) hq);have hfu:dY ts≤40000:=by unfold dY;omega
  have HFU:=hD hfu;clear hl hs hfu hfew hq hRR;generalize dY ts=n0 at *;go_enter Tryz.func30,Tryz.ntmps30;go_wp2_with fail
  refine (HL.out _).mono ?_;rintro e w1 ⟨⟨v,rfl,htk⟩,hf⟩;obtain⟨A,tc,rfl,hc1,hc2⟩:=htk.slice;obtain⟨tb,rfl,_,_,_⟩:=htk.some TK.out.pos;have F1:=hD hf;have TA:=hD htk;have hsz:=F1.out.size;simp at hsz
  have HG:=hD (show w.heap.size<w1.heap.size by omega);clear hf htk hc1 hc2 hsz;go_wp2_with fail
  have AS:=hD (show ASt src tb tc ts w1.heap.size w1 w.heap.size (w1.heap.size+1) ((w1.alloc (.cells #[.string src,.slice (some ⟨tb,0,none⟩) ts.length tc,.int .i64 0,.slice none 0 0,.int .i64 0,.int .i64 0,.int .i64 0] 88)).alloc (.cells #[.slice none 0 0,.slice none 0 0] 26)) ⟨0,[],0,0,0⟩ (.slice none 0 0) [] [] from by
   have hS:=aKm TA.out TK.out HS.out;have hB:=(((Blk.new w 26 #[.slice none 0 0,.slice none 0 0]).fr F1.out (fun x=>x)).alloc (.cells #[.string src,.slice (some ⟨tb,0,none⟩) ts.length tc,.int .i64 0,.slice none 0 0,.int .i64 0,.int .i64 0,.int .i64 0] 88)).alloc (.cells #[.slice none 0 0,.slice none 0 0] 26);have h9:=Blk.new (w1.alloc (.cells #[.string src,.slice (some ⟨tb,0,none⟩) ts.length tc,.int .i64 0,.slice none 0 0,.int .i64 0,.int .i64 0,.int .i64 0] 88)) 26 #[.slice none 0 0,.slice none 0 0];rw[show (w1.alloc (.cells #[.string src,.slice (some ⟨tb,0,none⟩) ts.length tc,.int .i64 0,.slice none 0 0,.int .i64 0,.int .i64 0,.int .i64 0] 88)).heap.size=w1.heap.size+1 by simp] at h9;exact⟨hS.alloc _,hB,h9,Nat.le_succ _,by have:=HG.out;omega,Own.nil _ _ _,trivial,rfl,fun k hk=>by simp[blk] at hk⟩)
  clear TA;go_loopg [10] n0 (fun k x wr=>∃(fns:List aD) (pvs:List Value) (s':PS) (fv:Value),Hid (fns.length+k≤n0)∧Hid (ASt src tb tc ts w1.heap.size w1 w.heap.size (w1.heap.size+1) wr s' fv fns pvs)∧Hid (bC src.data.toList ts k fns s'=some q))
  case atStart=>exact⟨[],[],_,_,hD (by simp),AS,HQ⟩
  case round=>
   obtain⟨fns,pvs,s',fv,HK,S,HR⟩:=hrel;clear AS HQ HL;generalize w1.heap.size+1=T9 at *;generalize w1.heap.size=g at *;have hr:=HR.out;cases gk with
   | zero=>simp[bC] at hr
   | succ k=>
     simp only[bC] at hr;by_cases h0:s'.e=0
     case neg=>
       rw[if_pos h0] at hr;simp only[Option.some.injEq] at hr;subst hr;have HR2:=hD (show r = .bad s'.place s'.e by rw[←HRR.out,if_pos h0]);have he:((s'.e:Int)==0)=false:=bN.2 (by omega);have he2:((s'.e:Int) != 0)=true:=by rw[bne,he];rfl
       obtain⟨hg,c1,c2,c4,c5,f2,f4⟩:=S.out.st.cells;have c6:=S.out.st.aRb;have t0:=S.out.bt.frozen 0;have t1:=S.out.bt.frozen 1;have u0:=S.out.bt.cell 0;have u1:=S.out.bt.cell 1;have hTl:=S.out.bt.lt;have HGT:=hD (show w.heap.size≠g by have:=HG.out;omega);simp at u0 u1
       go_wp2_with fail
       have m5:(⟨w.heap.size,0,none⟩:Addr)≠⟨g,5,none⟩:=by intro e;injection e with e;exact HGT.out e
       have m6:(⟨w.heap.size,0,none⟩:Addr)≠⟨g,6,none⟩:=by intro e;injection e with e;exact HGT.out e
       have p5:(⟨w.heap.size,1,none⟩:Addr)≠⟨g,5,none⟩:=by intro e;injection e with e;exact HGT.out e
       have p6:(⟨w.heap.size,1,none⟩:Addr)≠⟨g,6,none⟩:=by intro e;injection e with e;exact HGT.out e
       have D5:=hD c5;have D6:=hD c6;have E5:=hD ((World.cell?_setCell_other (wr.drew.setCell ⟨w.heap.size,0,none⟩ (.slice none 0 0)) ⟨w.heap.size,1,none⟩ ⟨g,5,none⟩ (.slice none 0 0) p5).trans ((World.cell?_setCell_other wr.drew ⟨w.heap.size,0,none⟩ ⟨g,5,none⟩ (.slice none 0 0) m5).trans c5));have E6:=hD ((World.cell?_setCell_other (wr.drew.setCell ⟨w.heap.size,0,none⟩ (.slice none 0 0)) ⟨w.heap.size,1,none⟩ ⟨g,6,none⟩ (.slice none 0 0) p6).trans ((World.cell?_setCell_other wr.drew ⟨w.heap.size,0,none⟩ ⟨g,6,none⟩ (.slice none 0 0) m6).trans c6));clear m5 m6 p5 p6;go_region_held3 (fun wx=>wx.cell? ⟨g,5,none⟩=some (.int .i64 s'.e)∧wx.cell? ⟨g,6,none⟩=some (.int .i64 s'.place)) (first|exact⟨D5.out,D6.out⟩|exact⟨E5.out,E6.out⟩) (first|fail)
       -- END A
       clear D5 D6 E5 E6 hg c1 c2 c4 c5 f2 f4 c6 t0 t1 u0 u1 hTl he he2;go_wp2_with fail
       have FE:=hD (aBn F1.out S.out.st.fr (Nat.le_of_lt HG.out));have hB2:=((S.out.bt.setCell 0 (.slice none 0 0)).setCell 1 (.slice none 0 0));have F2:=hD (show Fr nob w (((wr.setCell ⟨w.heap.size,0,none⟩ (.slice none 0 0)).setCell ⟨w.heap.size,1,none⟩ (.slice none 0 0)).drew) from ((FE.out.setCell ⟨w.heap.size,0,none⟩ (.slice none 0 0) (fun h=>absurd h (Nat.lt_irrefl _))).setCell ⟨w.heap.size,1,none⟩ (.slice none 0 0) (fun h=>absurd h (Nat.lt_irrefl _))).drew);have hB3:Blk (((wr.setCell ⟨w.heap.size,0,none⟩ (.slice none 0 0)).setCell ⟨w.heap.size,1,none⟩ (.slice none 0 0)).drew) w.heap.size 26 #[.slice none 0 0,.slice none 0 0]:=hB2;clear hB2;generalize ((wr.setCell ⟨w.heap.size,0,none⟩ (.slice none 0 0)).setCell ⟨w.heap.size,1,none⟩ (.slice none 0 0)).drew=we at *;have z0:=hB3.cell 0;have z1:=hB3.cell 1;simp at z0 z1
       clear hB3;refine bodyPost_ret (v:= .tuple #[.agg #[.slice none 0 0,.slice none 0 0],.int .i64 s'.place,.int .i64 s'.e]) (by simp[results,Tryz.results30,go_sem,z0,z1]) rfl ⟨by rw[HR2.out];rfl,F2.out⟩
     case pos=>
       rw[if_neg (by omega)] at hr;have he:((s'.e:Int)==0)=true:=by rw[h0];rfl
       have he2:((s'.e:Int) != 0)=false:=by rw[bne,he];rfl
       obtain⟨hg,c1,c2,c4,c5,f2,f4⟩:=S.out.st.cells;by_cases hk:bA ts 0 s'=true
       · rw[if_pos hk] at hr
         simp only[Option.some.injEq] at hr;subst hr;have HKI:=hD hk;have HRR2:=hD (show r=if 300<s'.nodes.length∨6<fns.length∨fns.any (fun f=>decide (3<f.params.length))=true then .bad 0 4 else .good s'.nodes fns by rw[←HRR.out,if_neg (fun h=>h h0)]);clear HRR HR hk h0;go_wp2_with fail
         refine (S.out.step (S.out.st.here.kind 0 (b:=true) HKI.out)).mono ?_;rintro e w4 ⟨rfl,h4⟩;have S4:=hD h4;clear h4 hg c1 c2 c4 c5 f2 f4;obtain⟨lvs,hrd,_⟩:=S4.out.st.rdr;obtain⟨nv,hgb,hon⟩:=hrd.cells;have hnew:=hrd.newer nv (hgb.cell 3);obtain⟨NA,NC,rfl,_,_⟩:=hon.cap;obtain⟨FA,FC,rfl,hf1,hf2⟩:=S4.out.own.cap;have hc2f:=Nat.le_trans hf1 hf2;clear hf1 hf2;have TR:=hD (show dH w.heap.size w4 (.slice NA s'.nodes.length NC) (.slice FA fns.length FC) lvs pvs s'.nodes fns from
           ⟨hon,hrd.below,hrd.same,S4.out.own,S4.out.pars,S4.out.same,fun k hk=>by have:=hnew k hk;have:=HG.out;omega,fun k hk=>by have:=S4.out.newf k hk;have:=F1.out.size;simp at this;omega⟩)
         have c3:=hgb.cell 3;have c5:=hgb.cell 5;have u0:=S4.out.b9.cell 0;have u1:=S4.out.b9.cell 1;have t0:=S4.out.b9.frozen 0;have h9l:=S4.out.b9.lt;simp at c3 c5 u0 u1
         have FE:=hD (aBn F1.out S4.out.st.fr (Nat.le_of_lt HG.out));have FB:=hD (show Blk (w4.setCell ⟨T9,0,none⟩ (.slice NA s'.nodes.length NC)) T9 26 #[.slice NA s'.nodes.length NC,.slice FA fns.length FC] from S4.out.b9.setCell 0 _);have TB:=hD (show Blk (w4.setCell ⟨T9,0,none⟩ (.slice NA s'.nodes.length NC)) w.heap.size 26 #[.slice none 0 0,.slice none 0 0] from S4.out.bt.far (p:=⟨T9,0,none⟩) S4.out.ne _);have TR2:=hD (TR.out.far (M:=bZ T9) ((Fr.refl _ w4).setCell ⟨T9,0,none⟩ (.slice NA s'.nodes.length NC) (fun _=>rfl)) (fun k hk=>by rw[show k=T9 from hk];exact⟨_,S4.out.b9⟩));have FE2:=hD (show Fr nob w (w4.setCell ⟨T9,0,none⟩ (.slice NA s'.nodes.length NC)) from FE.out.setCell ⟨T9,0,none⟩ _ (fun h=>by have h':T9<w.heap.size:=h;have:=S4.out.h9;have h3:=F1.out.size;simp at h3;omega));clear hrd hgb hon hnew S FE TR HK HN HKI;by_cases q3:300<s'.nodes.length
         · have n3:(300:Int)<(s'.nodes.length:Int):=by omega
           have HB0:=hD (show (true || fns.any (fun f=>decide (3<f.params.length)))=decide (300<s'.nodes.length∨6<fns.length∨fns.any (fun f=>decide (3<f.params.length))=true) by rw[Bool.eq_iff_iff,decide_eq_true_eq];simp[q3]);clear q3;go_wp2_with fail
           clear c3 c5 u0 u1 t0 h9l S4 he he2;generalize w4.setCell ⟨T9,0,none⟩ (.slice NA s'.nodes.length NC)=w5 at *;have HD:=hD (show w5.cell? ⟨T9,1,none⟩=some (.slice FA fns.length FC) by simpa using FB.out.cell 1);have hFL:(fns.length:Int)≤9223372036854775807:=by have:=hc2f;unfold maxLen at this;omega
           clear hc2f;go_loop [12,13] (fun b i=>∃j:Nat,j≤fns.length∧i = .int .i64 j∧b = .bool (true || (fns.take j).any (fun f=>decide (3<f.params.length)))) (fun _ i=>fns.length - (intOf i).toNat)
           case atStart=>exact⟨0,Nat.zero_le _,rfl,by first|(simp;done)|(simp;omega)⟩
           case round=>
             obtain⟨j,hj,rfl,rfl⟩:=hrel;have d1:=HD.out;by_cases hlt:j<fns.length
             · have hlt2:(j:Int)<(fns.length:Int):=by omega
               have hls:j<pvs.length:=by have:=TR2.out.samef;omega
               obtain⟨f,hf⟩:∃f,fns[j]?=some f:=⟨_,gE hlt⟩;obtain⟨pv,hpv⟩:∃pv,pvs[j]?=some pv:=⟨_,gE hls⟩;obtain⟨PA,PC,rfl,_,_⟩:=(TR2.out.pars.get hf hpv).cap;obtain⟨fb,rfl,hcell⟩:=TR2.out.fns.some (by omega);have e2:=hcell (j*5+2) _ (jP hf hpv);have HTK:=hD (show ∀p:aD→Bool,(fns.take (j+1)).any p=((fns.take j).any p || p f) from fun p=>by
                 rw[List.take_add_one,hf,List.any_append];simp)
               clear hls hf hpv hcell;obtain⟨cur,hcur⟩:∃cur,(true || (fns.take j).any (fun f=>decide (3<f.params.length)))=cur:=⟨_,rfl⟩;rw[hcur];have HCUR:=hD hcur;clear hcur;cases cur with
               | true=>
                 go_wp2
                 go_round
                 case rel=>exact⟨j+1,by omega,by go_num,by rw[HTK.out,←Bool.or_assoc,HCUR.out];rfl⟩
                 case measure=>simp[intOf];omega
               | false=>
                 by_cases h3:3<f.params.length
                 · have h3b:(3:Int)<(f.params.length:Int):=by omega
                   have h3d:=hD (decide_eq_true h3);clear h3;go_wp2
                   go_round
                   case rel=>exact⟨j+1,by omega,by go_num,by rw[HTK.out,←Bool.or_assoc,HCUR.out,h3d.out];first|done|rfl|(simp;done)|(simp;omega)⟩
                   case measure=>simp[intOf];omega
                 · have h3b:(f.params.length:Int)≤3:=by omega
                   have h3d:=hD (decide_eq_false h3);clear h3;go_wp2
                   go_round
                   case rel=>exact⟨j+1,by omega,by go_num,by rw[HTK.out,←Bool.or_assoc,HCUR.out,h3d.out];first|done|rfl|(simp;done)|(simp;omega)⟩
                   case measure=>simp[intOf];omega
             · have hle:(fns.length:Int)≤(j:Int):=by omega
               have htk:=List.take_of_length_le (show fns.length≤j by omega);rw[htk,HB0.out];have t0:=TB.out.frozen 0;have t1:=TB.out.frozen 1;have u0:=TB.out.cell 0;have u1:=TB.out.cell 1;have ul:=TB.out.lt;have d0:w5.cell? ⟨T9,0,none⟩=some (.slice NA s'.nodes.length NC):=by simpa using FB.out.cell 0
               simp at u0 u1
               clear htk;obtain⟨bg,hbg⟩:∃bg,decide (300<s'.nodes.length∨6<fns.length∨fns.any (fun f=>decide (3<f.params.length))=true)=bg:=⟨_,rfl⟩;rw[hbg];cases bg with
               | true=>
                 have HR2:=hD (show r = .bad 0 4 by rw[HRR2.out,if_pos (of_decide_eq_true hbg)]);have FE:=FE2;clear hbg;go_wp2
                 clear t0 t1 u0 u1 ul d0 d1;have hB2:=((TB.out.setCell 0 (.slice none 0 0)).setCell 1 (.slice none 0 0));have F2:=hD (show Fr nob w (((w5.setCell ⟨w.heap.size,0,none⟩ (.slice none 0 0)).setCell ⟨w.heap.size,1,none⟩ (.slice none 0 0))) from ((FE.out.setCell ⟨w.heap.size,0,none⟩ (.slice none 0 0) (fun h=>absurd h (Nat.lt_irrefl _))).setCell ⟨w.heap.size,1,none⟩ (.slice none 0 0) (fun h=>absurd h (Nat.lt_irrefl _))));have hB3:Blk (((w5.setCell ⟨w.heap.size,0,none⟩ (.slice none 0 0)).setCell ⟨w.heap.size,1,none⟩ (.slice none 0 0))) w.heap.size 26 #[.slice none 0 0,.slice none 0 0]:=hB2;clear hB2;generalize ((w5.setCell ⟨w.heap.size,0,none⟩ (.slice none 0 0)).setCell ⟨w.heap.size,1,none⟩ (.slice none 0 0))=we at *;have z0:=hB3.cell 0;have z1:=hB3.cell 1;simp at z0 z1
                 clear hB3;refine bodyPost_ret (v:= .tuple #[.agg #[.slice none 0 0,.slice none 0 0],.int .i64 0,.int .i64 4]) (by simp[results,Tryz.results30,go_sem,z0,z1]) rfl ⟨by rw[HR2.out];rfl,F2.out⟩
               | false=>
                 have HR2:=hD (show r = .good s'.nodes fns by rw[HRR2.out,if_neg (of_decide_eq_false hbg)]);clear hbg;go_wp2
                 clear t0 t1 u0 u1 ul d0 d1;have hB2:=((TB.out.setCell 0 (.slice NA s'.nodes.length NC)).setCell 1 (.slice FA fns.length FC));have F2:=hD (show Fr nob w ((w5.setCell ⟨w.heap.size,0,none⟩ (.slice NA s'.nodes.length NC)).setCell ⟨w.heap.size,1,none⟩ (.slice FA fns.length FC)) from ((FE2.out.setCell ⟨w.heap.size,0,none⟩ _ (fun h=>absurd h (Nat.lt_irrefl _))).setCell ⟨w.heap.size,1,none⟩ _ (fun h=>absurd h (Nat.lt_irrefl _))));have hone:Fr (bZ w.heap.size) w5 ((w5.setCell ⟨w.heap.size,0,none⟩ (.slice NA s'.nodes.length NC)).setCell ⟨w.heap.size,1,none⟩ (.slice FA fns.length FC)):=by
                   have h1:Fr (bZ w.heap.size) w5 (w5.setCell ⟨w.heap.size,0,none⟩ (.slice NA s'.nodes.length NC)):=(Fr.refl _ _).setCell _ _ (fun _=>rfl);exact h1.setCell ⟨w.heap.size,1,none⟩ _ (fun _=>rfl)
                 have TR3:=hD (TR2.out.far hone (fun k hk=>by rw[show k=w.heap.size from hk];exact⟨_,TB.out⟩));have hB3:Blk ((w5.setCell ⟨w.heap.size,0,none⟩ (.slice NA s'.nodes.length NC)).setCell ⟨w.heap.size,1,none⟩ (.slice FA fns.length FC)) w.heap.size 26 #[.slice NA s'.nodes.length NC,.slice FA fns.length FC]:=hB2;clear hB2 hone;generalize (w5.setCell ⟨w.heap.size,0,none⟩ (.slice NA s'.nodes.length NC)).setCell ⟨w.heap.size,1,none⟩ (.slice FA fns.length FC)=we at *;have z0:=hB3.cell 0;have z1:=hB3.cell 1;simp at z0 z1
                 clear hB3;refine bodyPost_ret (v:= .tuple #[.agg #[.slice NA s'.nodes.length NC,.slice FA fns.length FC],.int .i64 0,.int .i64 0]) (by simp[results,Tryz.results30,go_sem,z0,z1]) rfl ⟨by rw[HR2.out];exact⟨_,_,lvs,pvs,rfl,TR3.out⟩,F2.out⟩
         · by_cases q6:6<fns.length
           · have n3:(s'.nodes.length:Int)≤300:=by omega
             have n6:(6:Int)<(fns.length:Int):=by omega
             have HB0:=hD (show (true || fns.any (fun f=>decide (3<f.params.length)))=decide (300<s'.nodes.length∨6<fns.length∨fns.any (fun f=>decide (3<f.params.length))=true) by rw[Bool.eq_iff_iff,decide_eq_true_eq];simp[q3,q6]);clear q3 q6;go_wp2_with fail
             clear c3 c5 u0 u1 t0 h9l S4 he he2;generalize w4.setCell ⟨T9,0,none⟩ (.slice NA s'.nodes.length NC)=w5 at *;have HD:=hD (show w5.cell? ⟨T9,1,none⟩=some (.slice FA fns.length FC) by simpa using FB.out.cell 1);have hFL:(fns.length:Int)≤9223372036854775807:=by have:=hc2f;unfold maxLen at this;omega
             clear hc2f;go_loop [12,13] (fun b i=>∃j:Nat,j≤fns.length∧i = .int .i64 j∧b = .bool (true || (fns.take j).any (fun f=>decide (3<f.params.length)))) (fun _ i=>fns.length - (intOf i).toNat)
             case atStart=>exact⟨0,Nat.zero_le _,rfl,by first|(simp;done)|(simp;omega)⟩
             case round=>
               obtain⟨j,hj,rfl,rfl⟩:=hrel;have d1:=HD.out;by_cases hlt:j<fns.length
               · have hlt2:(j:Int)<(fns.length:Int):=by omega
                 have hls:j<pvs.length:=by have:=TR2.out.samef;omega
                 obtain⟨f,hf⟩:∃f,fns[j]?=some f:=⟨_,gE hlt⟩;obtain⟨pv,hpv⟩:∃pv,pvs[j]?=some pv:=⟨_,gE hls⟩;obtain⟨PA,PC,rfl,_,_⟩:=(TR2.out.pars.get hf hpv).cap;obtain⟨fb,rfl,hcell⟩:=TR2.out.fns.some (by omega);have e2:=hcell (j*5+2) _ (jP hf hpv);have HTK:=hD (show ∀p:aD→Bool,(fns.take (j+1)).any p=((fns.take j).any p || p f) from fun p=>by
                   rw[List.take_add_one,hf,List.any_append];simp)
                 clear hls hf hpv hcell;obtain⟨cur,hcur⟩:∃cur,(true || (fns.take j).any (fun f=>decide (3<f.params.length)))=cur:=⟨_,rfl⟩;rw[hcur];have HCUR:=hD hcur;clear hcur;cases cur with
                 | true=>
                   go_wp2
                   go_round
                   case rel=>exact⟨j+1,by omega,by go_num,by rw[HTK.out,←Bool.or_assoc,HCUR.out];rfl⟩
                   case measure=>simp[intOf];omega
                 | false=>
                   by_cases h3:3<f.params.length
                   · have h3b:(3:Int)<(f.params.length:Int):=by omega
                     have h3d:=hD (decide_eq_true h3);clear h3;go_wp2
                     go_round
                     case rel=>exact⟨j+1,by omega,by go_num,by rw[HTK.out,←Bool.or_assoc,HCUR.out,h3d.out];first|done|rfl|(simp;done)|(simp;omega)⟩
                     case measure=>simp[intOf];omega
                   · have h3b:(f.params.length:Int)≤3:=by omega
                     have h3d:=hD (decide_eq_false h3);clear h3;go_wp2
                     go_round
                     case rel=>exact⟨j+1,by omega,by go_num,by rw[HTK.out,←Bool.or_assoc,HCUR.out,h3d.out];first|done|rfl|(simp;done)|(simp;omega)⟩
                     case measure=>simp[intOf];omega
               · have hle:(fns.length:Int)≤(j:Int):=by omega
                 have htk:=List.take_of_length_le (show fns.length≤j by omega);rw[htk,HB0.out];have t0:=TB.out.frozen 0;have t1:=TB.out.frozen 1;have u0:=TB.out.cell 0;have u1:=TB.out.cell 1;have ul:=TB.out.lt;have d0:w5.cell? ⟨T9,0,none⟩=some (.slice NA s'.nodes.length NC):=by simpa using FB.out.cell 0
                 simp at u0 u1
                 clear htk;obtain⟨bg,hbg⟩:∃bg,decide (300<s'.nodes.length∨6<fns.length∨fns.any (fun f=>decide (3<f.params.length))=true)=bg:=⟨_,rfl⟩;rw[hbg];cases bg with
                 | true=>
                   have HR2:=hD (show r = .bad 0 4 by rw[HRR2.out,if_pos (of_decide_eq_true hbg)]);have FE:=FE2;clear hbg;go_wp2
                   clear t0 t1 u0 u1 ul d0 d1;have hB2:=((TB.out.setCell 0 (.slice none 0 0)).setCell 1 (.slice none 0 0));have F2:=hD (show Fr nob w (((w5.setCell ⟨w.heap.size,0,none⟩ (.slice none 0 0)).setCell ⟨w.heap.size,1,none⟩ (.slice none 0 0))) from ((FE.out.setCell ⟨w.heap.size,0,none⟩ (.slice none 0 0) (fun h=>absurd h (Nat.lt_irrefl _))).setCell ⟨w.heap.size,1,none⟩ (.slice none 0 0) (fun h=>absurd h (Nat.lt_irrefl _))));have hB3:Blk (((w5.setCell ⟨w.heap.size,0,none⟩ (.slice none 0 0)).setCell ⟨w.heap.size,1,none⟩ (.slice none 0 0))) w.heap.size 26 #[.slice none 0 0,.slice none 0 0]:=hB2;clear hB2;generalize ((w5.setCell ⟨w.heap.size,0,none⟩ (.slice none 0 0)).setCell ⟨w.heap.size,1,none⟩ (.slice none 0 0))=we at *;have z0:=hB3.cell 0;have z1:=hB3.cell 1;simp at z0 z1
                   clear hB3;refine bodyPost_ret (v:= .tuple #[.agg #[.slice none 0 0,.slice none 0 0],.int .i64 0,.int .i64 4]) (by simp[results,Tryz.results30,go_sem,z0,z1]) rfl ⟨by rw[HR2.out];rfl,F2.out⟩
                 | false=>
                   have HR2:=hD (show r = .good s'.nodes fns by rw[HRR2.out,if_neg (of_decide_eq_false hbg)]);clear hbg;go_wp2
                   clear t0 t1 u0 u1 ul d0 d1;have hB2:=((TB.out.setCell 0 (.slice NA s'.nodes.length NC)).setCell 1 (.slice FA fns.length FC));have F2:=hD (show Fr nob w ((w5.setCell ⟨w.heap.size,0,none⟩ (.slice NA s'.nodes.length NC)).setCell ⟨w.heap.size,1,none⟩ (.slice FA fns.length FC)) from ((FE2.out.setCell ⟨w.heap.size,0,none⟩ _ (fun h=>absurd h (Nat.lt_irrefl _))).setCell ⟨w.heap.size,1,none⟩ _ (fun h=>absurd h (Nat.lt_irrefl _))));have hone:Fr (bZ w.heap.size) w5 ((w5.setCell ⟨w.heap.size,0,none⟩ (.slice NA s'.nodes.length NC)).setCell ⟨w.heap.size,1,none⟩ (.slice FA fns.length FC)):=by
                     have h1:Fr (bZ w.heap.size) w5 (w5.setCell ⟨w.heap.size,0,none⟩ (.slice NA s'.nodes.length NC)):=(Fr.refl _ _).setCell _ _ (fun _=>rfl);exact h1.setCell ⟨w.heap.size,1,none⟩ _ (fun _=>rfl)
                   have TR3:=hD (TR2.out.far hone (fun k hk=>by rw[show k=w.heap.size from hk];exact⟨_,TB.out⟩));have hB3:Blk ((w5.setCell ⟨w.heap.size,0,none⟩ (.slice NA s'.nodes.length NC)).setCell ⟨w.heap.size,1,none⟩ (.slice FA fns.length FC)) w.heap.size 26 #[.slice NA s'.nodes.length NC,.slice FA fns.length FC]:=hB2;clear hB2 hone;generalize (w5.setCell ⟨w.heap.size,0,none⟩ (.slice NA s'.nodes.length NC)).setCell ⟨w.heap.size,1,none⟩ (.slice FA fns.length FC)=we at *;have z0:=hB3.cell 0;have z1:=hB3.cell 1;simp at z0 z1
                   clear hB3;refine bodyPost_ret (v:= .tuple #[.agg #[.slice NA s'.nodes.length NC,.slice FA fns.length FC],.int .i64 0,.int .i64 0]) (by simp[results,Tryz.results30,go_sem,z0,z1]) rfl ⟨by rw[HR2.out];exact⟨_,_,lvs,pvs,rfl,TR3.out⟩,F2.out⟩
           · have n3:(s'.nodes.length:Int)≤300:=by omega
             have n6:(fns.length:Int)≤6:=by omega
             have HB0:=hD (show (false || fns.any (fun f=>decide (3<f.params.length)))=decide (300<s'.nodes.length∨6<fns.length∨fns.any (fun f=>decide (3<f.params.length))=true) by rw[Bool.eq_iff_iff,decide_eq_true_eq];simp[q3,q6]);clear q3 q6;go_wp2_with fail
             clear c3 c5 u0 u1 t0 h9l S4 he he2;generalize w4.setCell ⟨T9,0,none⟩ (.slice NA s'.nodes.length NC)=w5 at *;have HD:=hD (show w5.cell? ⟨T9,1,none⟩=some (.slice FA fns.length FC) by simpa using FB.out.cell 1);have hFL:(fns.length:Int)≤9223372036854775807:=by have:=hc2f;unfold maxLen at this;omega
             clear hc2f;go_loop [12,13] (fun b i=>∃j:Nat,j≤fns.length∧i = .int .i64 j∧b = .bool (false || (fns.take j).any (fun f=>decide (3<f.params.length)))) (fun _ i=>fns.length - (intOf i).toNat)
             case atStart=>exact⟨0,Nat.zero_le _,rfl,by first|(simp;done)|(simp;omega)⟩
             case round=>
               obtain⟨j,hj,rfl,rfl⟩:=hrel;have d1:=HD.out;by_cases hlt:j<fns.length
               · have hlt2:(j:Int)<(fns.length:Int):=by omega
                 have hls:j<pvs.length:=by have:=TR2.out.samef;omega
                 obtain⟨f,hf⟩:∃f,fns[j]?=some f:=⟨_,gE hlt⟩;obtain⟨pv,hpv⟩:∃pv,pvs[j]?=some pv:=⟨_,gE hls⟩;obtain⟨PA,PC,rfl,_,_⟩:=(TR2.out.pars.get hf hpv).cap;obtain⟨fb,rfl,hcell⟩:=TR2.out.fns.some (by omega);have e2:=hcell (j*5+2) _ (jP hf hpv);have HTK:=hD (show ∀p:aD→Bool,(fns.take (j+1)).any p=((fns.take j).any p || p f) from fun p=>by
                   rw[List.take_add_one,hf,List.any_append];simp)
                 clear hls hf hpv hcell;obtain⟨cur,hcur⟩:∃cur,(false || (fns.take j).any (fun f=>decide (3<f.params.length)))=cur:=⟨_,rfl⟩;rw[hcur];have HCUR:=hD hcur;clear hcur;cases cur with
                 | true=>
                   go_wp2
                   go_round
                   case rel=>exact⟨j+1,by omega,by go_num,by rw[HTK.out,←Bool.or_assoc,HCUR.out];rfl⟩
                   case measure=>simp[intOf];omega
                 | false=>
                   by_cases h3:3<f.params.length
                   · have h3b:(3:Int)<(f.params.length:Int):=by omega
                     have h3d:=hD (decide_eq_true h3);clear h3;go_wp2
                     go_round
                     case rel=>exact⟨j+1,by omega,by go_num,by rw[HTK.out,←Bool.or_assoc,HCUR.out,h3d.out];first|done|rfl|(simp;done)|(simp;omega)⟩
                     case measure=>simp[intOf];omega
                   · have h3b:(f.params.length:Int)≤3:=by omega
                     have h3d:=hD (decide_eq_false h3);clear h3;go_wp2
                     go_round
                     case rel=>exact⟨j+1,by omega,by go_num,by rw[HTK.out,←Bool.or_assoc,HCUR.out,h3d.out];first|done|rfl|(simp;done)|(simp;omega)⟩
                     case measure=>simp[intOf];omega
               · have hle:(fns.length:Int)≤(j:Int):=by omega
                 have htk:=List.take_of_length_le (show fns.length≤j by omega);rw[htk,HB0.out];have t0:=TB.out.frozen 0;have t1:=TB.out.frozen 1;have u0:=TB.out.cell 0;have u1:=TB.out.cell 1;have ul:=TB.out.lt;have d0:w5.cell? ⟨T9,0,none⟩=some (.slice NA s'.nodes.length NC):=by simpa using FB.out.cell 0
                 simp at u0 u1
                 clear htk;obtain⟨bg,hbg⟩:∃bg,decide (300<s'.nodes.length∨6<fns.length∨fns.any (fun f=>decide (3<f.params.length))=true)=bg:=⟨_,rfl⟩;rw[hbg];cases bg with
                 | true=>
                   have HR2:=hD (show r = .bad 0 4 by rw[HRR2.out,if_pos (of_decide_eq_true hbg)]);have FE:=FE2;clear hbg;go_wp2
                   clear t0 t1 u0 u1 ul d0 d1;have hB2:=((TB.out.setCell 0 (.slice none 0 0)).setCell 1 (.slice none 0 0));have F2:=hD (show Fr nob w (((w5.setCell ⟨w.heap.size,0,none⟩ (.slice none 0 0)).setCell ⟨w.heap.size,1,none⟩ (.slice none 0 0))) from ((FE.out.setCell ⟨w.heap.size,0,none⟩ (.slice none 0 0) (fun h=>absurd h (Nat.lt_irrefl _))).setCell ⟨w.heap.size,1,none⟩ (.slice none 0 0) (fun h=>absurd h (Nat.lt_irrefl _))));have hB3:Blk (((w5.setCell ⟨w.heap.size,0,none⟩ (.slice none 0 0)).setCell ⟨w.heap.size,1,none⟩ (.slice none 0 0))) w.heap.size 26 #[.slice none 0 0,.slice none 0 0]:=hB2;clear hB2;generalize ((w5.setCell ⟨w.heap.size,0,none⟩ (.slice none 0 0)).setCell ⟨w.heap.size,1,none⟩ (.slice none 0 0))=we at *;have z0:=hB3.cell 0;have z1:=hB3.cell 1;simp at z0 z1
                   clear hB3;refine bodyPost_ret (v:= .tuple #[.agg #[.slice none 0 0,.slice none 0 0],.int .i64 0,.int .i64 4]) (by simp[results,Tryz.results30,go_sem,z0,z1]) rfl ⟨by rw[HR2.out];rfl,F2.out⟩
                 | false=>
                   have HR2:=hD (show r = .good s'.nodes fns by rw[HRR2.out,if_neg (of_decide_eq_false hbg)]);clear hbg;go_wp2
                   clear t0 t1 u0 u1 ul d0 d1;have hB2:=((TB.out.setCell 0 (.slice NA s'.nodes.length NC)).setCell 1 (.slice FA fns.length FC));have F2:=hD (show Fr nob w ((w5.setCell ⟨w.heap.size,0,none⟩ (.slice NA s'.nodes.length NC)).setCell ⟨w.heap.size,1,none⟩ (.slice FA fns.length FC)) from ((FE2.out.setCell ⟨w.heap.size,0,none⟩ _ (fun h=>absurd h (Nat.lt_irrefl _))).setCell ⟨w.heap.size,1,none⟩ _ (fun h=>absurd h (Nat.lt_irrefl _))));have hone:Fr (bZ w.heap.size) w5 ((w5.setCell ⟨w.heap.size,0,none⟩ (.slice NA s'.nodes.length NC)).setCell ⟨w.heap.size,1,none⟩ (.slice FA fns.length FC)):=by
                     have h1:Fr (bZ w.heap.size) w5 (w5.setCell ⟨w.heap.size,0,none⟩ (.slice NA s'.nodes.length NC)):=(Fr.refl _ _).setCell _ _ (fun _=>rfl);exact h1.setCell ⟨w.heap.size,1,none⟩ _ (fun _=>rfl)
                   have TR3:=hD (TR2.out.far hone (fun k hk=>by rw[show k=w.heap.size from hk];exact⟨_,TB.out⟩));have hB3:Blk ((w5.setCell ⟨w.heap.size,0,none⟩ (.slice NA s'.nodes.length NC)).setCell ⟨w.heap.size,1,none⟩ (.slice FA fns.length FC)) w.heap.size 26 #[.slice NA s'.nodes.length NC,.slice FA fns.length FC]:=hB2;clear hB2 hone;generalize (w5.setCell ⟨w.heap.size,0,none⟩ (.slice NA s'.nodes.length NC)).setCell ⟨w.heap.size,1,none⟩ (.slice FA fns.length FC)=we at *;have z0:=hB3.cell 0;have z1:=hB3.cell 1;simp at z0 z1
                   clear hB3;refine bodyPost_ret (v:= .tuple #[.agg #[.slice NA s'.nodes.length NC,.slice FA fns.length FC],.int .i64 0,.int .i64 0]) (by simp[results,Tryz.results30,go_sem,z0,z1]) rfl ⟨by rw[HR2.out];exact⟨_,_,lvs,pvs,rfl,TR3.out⟩,F2.out⟩
       · rw[if_neg hk] at hr
         simp only[bS] at hr;obtain⟨fs,hfs,hr⟩:=hr;have HN2:=hD (Nat.le_trans (aU (kF _ _ _ _ hr)) HN.out);have HKI:=hD (show bA ts 0 s'=false by simpa using hk);have HFS:=hD hfs;have HR2:=hD hr;have HB2:=hD (show fns.length≤40000 by have:=HK.out;have:=HFU.out;omega);clear hr hk h0 hfs HR;go_wp2_with fail
         refine (S.out.step (S.out.st.here.kind 0 (b:=false) HKI.out)).mono ?_;rintro e w4 ⟨rfl,h4⟩;have S4:=hD h4;clear h4 hg c1 c2 c4 c5 f2 f4 S he he2;go_wp2_with fail
         refine (aMh (aMc k) S4.out.st.here HFS.out HN2.out).mono ?_;rintro e w5 ⟨⟨pv,rfl,hpo,hpn⟩,h5⟩;obtain⟨PA,PC,rfl,_,_⟩:=hpo.cap;have S5:=hD (S4.out.to h5);have HPO:=hD hpo;clear h5 hpo hpn S4;obtain⟨FA,FC,rfl,hf1,hf2⟩:=S5.out.own.cap;clear hf1 hf2;have u0:=S5.out.b9.cell 0;have u1:=S5.out.b9.cell 1;have t1:=S5.out.b9.frozen 1;have h9l:=S5.out.b9.lt;simp at u0 u1
         go_wp2_with (at_builtin;go_loud (refine aL (m:=1) (news:=[.string (bs fs.1.name),.int .i64 fs.1.line,.slice PA fs.1.params.length PC,.int .i64 fs.1.ret,.int .i64 fs.1.body]) rfl _ _ rfl aRp rfl rfl ((S5.out.own.alloc _).alloc _) (Rd.fC (n:=1) (cs:=[.string (bs fs.1.name),.int .i64 fs.1.line,.slice PA fs.1.params.length PC,.int .i64 fs.1.ret,.int .i64 fs.1.body]) (Blk.new1 _ _ _ _) rfl (by decide)) (by simp[Value.oneCell']) (by have h9:=HB2.out;omega) (by have h9:=HB2.out;unfold maxLen;omega) ?_);go_loud (intro A6 c6 w6 ho6 hf6 hv6;have S6:=hD (S5.out.app (f:=fs.1) HPO.out ho6 hf6 hv6);have g2:=(((S5.out.b9.alloc _).alloc _).fr hf6 (fun hm=>S5.out.own.aG S5.out.b9 (by decide) hm)).frozen 1;have g3:=(((S5.out.b9.alloc _).alloc _).fr hf6 (fun hm=>S5.out.own.aG S5.out.b9 (by decide) hm)).cell 1;have g4:=(((S5.out.b9.alloc _).alloc _).fr hf6 (fun hm=>S5.out.own.aG S5.out.b9 (by decide) hm)).lt;simp at g3;clear ho6 hf6 hv6 u0 u1 t1 h9l))
         go_roundg k
         case measure=>omega
         case rel=>exact⟨fns++[fs.1],pvs++[.slice PA fs.1.params.length PC],fs.2,_,hD (by have:=HK.out;rw[List.length_append];simp;omega),S6,HR2⟩
theorem dD:∀{fs:List aD}{vs:List Value}{j:Nat}{f:aD}{v:Value},fs[j]?=some f→vs[j]?=some v→∀i u,(jA f v)[i]?=some u→(bY fs vs)[j*5+i]?=some u
 | [],_,_,_,_,h,_=>by simp at h
 | _ :: _,[],_,_,_,_,h=>by simp at h
 | a :: fs,b :: vs,0,f,v,h,h2=>by
  simp at h h2;subst h;subst h2
  intro i u hu;rw[bY,List.getElem?_append_left (by have:=(gK hu);omega),Nat.zero_mul,Nat.zero_add];exact hu
 | a :: fs,b :: vs,j+1,f,v,h,h2=>by
  intro i u hu;have:=dD (fs:=fs) (vs:=vs) (j:=j) (by simpa using h) (by simpa using h2) i u hu;rw[bY,List.getElem?_append_right (by simp[jA];omega),show (jA a b).length=5 from rfl,show (j+1)*5+i - 5=j*5+i by omega];exact this
theorem dQ:∀{l:List (List UInt8×Nat)}{i:Nat}{q:List UInt8×Nat},l[i]?=some q→(aV l)[i*2]?=some (.string (bs q.1))∧(aV l)[i*2+1]?=some (.int .i64 (q.2:Nat))
 | [],_,_,h=>by simp at h
 | a :: l,0,q,h=>by simp at h;subst h;exact⟨rfl,rfl⟩
 | a :: l,i+1,q,h=>by
  have ih:=dQ (l:=l) (i:=i) (by simpa using h);have e:aV (a :: l) = .string (bs a.1) :: .int .i64 (a.2:Nat) :: aV l:=rfl;rw[e,show (i+1)*2=i*2+1+1 by omega,List.getElem?_cons_succ,List.getElem?_cons_succ,show i*2+1+1+1=(i*2+1)+1+1 by omega,List.getElem?_cons_succ,List.getElem?_cons_succ];exact ih
theorem iT:∀{ns:List aF}{vs:List Value}{j:Nat}{nd:aF}{v:Value},ns[j]?=some nd→vs[j]?=some v→∀i u,(jX nd v)[i]?=some u→(bX ns vs)[j*5+i]?=some u
 | [],_,_,_,_,h,_=>by simp at h
 | _ :: _,[],_,_,_,_,h=>by simp at h
 | a :: ns,b :: vs,0,nd,v,h,h2=>by
  simp at h h2;subst h;subst h2
  intro i u hu;rw[bX,List.getElem?_append_left (by have:=(gK hu);omega),Nat.zero_mul,Nat.zero_add];exact hu
 | a :: ns,b :: vs,j+1,nd,v,h,h2=>by
  intro i u hu;have:=iT (ns:=ns) (vs:=vs) (j:=j) (by simpa using h) (by simpa using h2) i u hu;rw[bX,List.getElem?_append_right (by simp[jX];omega),show (jX a b).length=5 from rfl,show (j+1)*5+i - 5=j*5+i by omega];exact this
theorem bG.get {w:World}:∀{ns:List aF}{vs:List Value}{j:Nat}{nd:aF}{v:Value},bG w ns vs→ns[j]?=some nd→vs[j]?=some v→Own w 3 1 v nd.l.length (ints nd.l)
 | [],_,_,_,_,_,h,_=>by simp at h
 | _ :: _,[],_,_,_,_,_,h=>by simp at h
 | a :: ns,b :: vs,0,nd,v,hp,h,h2=>by simp at h h2;subst h;subst h2;exact hp.1
 | a :: ns,b :: vs,j+1,nd,v,hp,h,h2=>bG.get hp.2 (by simpa using h) (by simpa using h2)
section
variable {g:Nat}{lvs pvs:List Value}{ns:List aF}{fs:List aD}{w0 w w':World}{out:List UInt8}{NA FA:Option Addr}{NC FC:Nat}
theorem dH.node {B:Nat}{nv fv:Value} (h:dH B w nv fv lvs pvs ns fs){x:Nat}{nd:aF} (hx:ns[x]?=some nd):∃nb c lv,nv = .slice (some ⟨nb,0,none⟩) ns.length c∧ns.length≤c∧Own w 3 1 lv nd.l.length (ints nd.l) ∧
  w.cell? ⟨nb,x*5,none⟩=some (.int .i64 nd.kind)∧w.cell? ⟨nb,x*5+1,none⟩=some (.int .i64 nd.line)∧w.cell? ⟨nb,x*5+2,none⟩=some (.int .i64 nd.n)∧w.cell? ⟨nb,x*5+3,none⟩=some (.string (bs nd.name))∧w.cell? ⟨nb,x*5+4,none⟩=some lv:=by
 have hlt:=(gK hx);obtain⟨A,c,rfl,hc,_⟩:=h.nodes.cap;obtain⟨nb,rfl,hcell⟩:=h.nodes.some (by omega);obtain⟨lv,hlv⟩:∃lv,lvs[x]?=some lv:=⟨_,gE (by have:=h.same;omega)⟩;have key:=iT hx hlv;exact⟨nb,c,lv,rfl,hc,h.below.get hx hlv,hcell _ _ (key 0 _ rfl),hcell _ _ (key 1 _ rfl),hcell _ _ (key 2 _ rfl),hcell _ _ (key 3 _ rfl),hcell _ _ (key 4 _ rfl)⟩
end
section
variable {nv fv:Value}{lvs pvs:List Value}{ns:List aF}{fs:List aD}{w w':World}
theorem dH.no (h:dH 0 w nv fv lvs pvs ns fs) (f:Fr nob w w'):dH 0 w' nv fv lvs pvs ns fs:=
 ⟨h.nodes.fr f (fun _ _ x=>x),h.below.no f,h.same,h.fns.fr f (fun _ _ x=>x),h.pars.to f (fun _ _ _ x=>x),h.samef,h.newn,h.newf⟩
theorem dH.node3 {B nb c:Nat}{fv:Value} (h:dH B w (.slice (some ⟨nb,0,none⟩) ns.length c) fv lvs pvs ns fs){x:Nat}{nd:aF} (hx:ns[x]?=some nd){lv:Value} (hlv:lvs[x]?=some lv):Own w 3 1 lv nd.l.length (ints nd.l) ∧
  w.cell? ⟨nb,x*5,none⟩=some (.int .i64 nd.kind)∧w.cell? ⟨nb,x*5+1,none⟩=some (.int .i64 nd.line)∧w.cell? ⟨nb,x*5+2,none⟩=some (.int .i64 nd.n)∧w.cell? ⟨nb,x*5+3,none⟩=some (.string (bs nd.name))∧w.cell? ⟨nb,x*5+4,none⟩=some lv:=by
 have hlt:=(gK hx);obtain⟨nb',e,hcell⟩:=h.nodes.some (by omega);injection e with e;injection e with e;subst e;have key:=iT hx hlv;exact⟨h.below.get hx hlv,hcell _ _ (key 0 _ rfl),hcell _ _ (key 1 _ rfl),hcell _ _ (key 2 _ rfl),hcell _ _ (key 3 _ rfl),hcell _ _ (key 4 _ rfl)⟩
theorem dH.fn {B fb c:Nat}{w:World} (h:dH B w nv (.slice (some ⟨fb,0,none⟩) fs.length c) lvs pvs ns fs){j:Nat}{f:aD} (hf:fs[j]?=some f):∃pv,Own w 101 2 pv f.params.length (aV f.params) ∧
  w.cell? ⟨fb,j*5,none⟩=some (.string (bs f.name))∧w.cell? ⟨fb,j*5+1,none⟩=some (.int .i64 f.line)∧w.cell? ⟨fb,j*5+2,none⟩=some pv∧w.cell? ⟨fb,j*5+3,none⟩=some (.int .i64 f.ret)∧w.cell? ⟨fb,j*5+4,none⟩=some (.int .i64 f.body):=by
 have hlt:=(gK hf);obtain⟨fb',e,hcell⟩:=h.fns.some (by omega);injection e with e;injection e with e;subst e;obtain⟨pv,hpv⟩:∃pv,pvs[j]?=some pv:=⟨_,gE (by have:=h.samef;omega)⟩;have key:=dD hf hpv;exact⟨pv,h.pars.get hf hpv,hcell _ _ (key 0 _ rfl),hcell _ _ (key 1 _ rfl),hcell _ _ (key 2 _ rfl),hcell _ _ (key 3 _ rfl),hcell _ _ (key 4 _ rfl)⟩
end
theorem dH.zero {B:Nat}{w:World}{nv fv:Value}{lvs pvs:List Value}{ns:List aF}{fs:List aD} (h:dH B w nv fv lvs pvs ns fs):dH 0 w nv fv lvs pvs ns fs:=
 ⟨h.nodes,h.below,h.same,h.fns,h.pars,h.samef,fun _ _=>Nat.zero_le _,fun _ _=>Nat.zero_le _⟩
end Go.Proofs.YtlbjicjinnnboaaGreatDoor
/- The parser: what holds of the tree of a source. -/
namespace Go.Proofs.YtlbjicjinnnboaaGreatDoor
namespace Pw
open Go.RowKit
def iQ (k:Nat):Bool:=decide (1≤k) && decide (k≤9)
def nH (k:Nat):Bool:=iQ k || (decide (19≤k) && decide (k≤21))
def xG (k:Nat):Bool:=decide (10≤k) && decide (k≤17)
def nY (k:Nat):Bool:=decide (k=18)
def aOn (k:Nat):Bool:=decide (k=21)
def nA:List (List UInt8):=[[124,124],[38,38],[60],[60,61],[61,61],[33,61],[43],[45],[42],[47],[37]]
def Kid (ns:List aF) (cls:Nat→Bool) (x:Nat):Prop:=∃c,ns[x]?=some c∧cls c.kind=true
inductive dO (ns:List aF):aF→Prop where
 | int (line n:Nat) (h:n≤9223372036854775807):dO ns ⟨1,line,n,[],[]⟩
 | bool (line n:Nat) (h:n≤1):dO ns ⟨2,line,n,[],[]⟩
 | text (line:Nat) (x:List UInt8):dO ns ⟨3,line,0,x,[]⟩
 | var (line:Nat) (x:List UInt8):dO ns ⟨4,line,0,x,[]⟩
 | index (line:Nat) (x:List UInt8) (a:Nat) (h:Kid ns iQ a):dO ns ⟨5,line,0,x,[a]⟩
 | len (line a:Nat) (h:Kid ns iQ a):dO ns ⟨6,line,0,[],[a]⟩
 | neg (line a:Nat) (h:Kid ns iQ a):dO ns ⟨7,line,0,[],[a]⟩
 | not (line a:Nat) (h:Kid ns iQ a):dO ns ⟨8,line,0,[],[a]⟩
 | bin (line:Nat) (x:List UInt8) (a b:Nat) (hx:x∈nA) (h:Kid ns iQ a) (h2:Kid ns iQ b):dO ns ⟨9,line,0,x,[a,b]⟩
 | let_ (line:Nat) (x:List UInt8) (a:Nat) (h:Kid ns nH a):dO ns ⟨10,line,0,x,[a]⟩
 | set (line:Nat) (x:List UInt8) (a:Nat) (h:Kid ns nH a):dO ns ⟨11,line,0,x,[a]⟩
 | put (line:Nat) (x:List UInt8) (a b:Nat) (h:Kid ns iQ a) (h2:Kid ns iQ b):dO ns ⟨12,line,0,x,[a,b]⟩
 | do_ (line a:Nat) (h:Kid ns aOn a):dO ns ⟨13,line,0,[],[a]⟩
 | print (line a:Nat) (h:Kid ns iQ a):dO ns ⟨14,line,0,[],[a]⟩
 | if2 (line a b:Nat) (h:Kid ns iQ a) (h2:Kid ns nY b):dO ns ⟨15,line,0,[],[a,b]⟩
 | if3 (line a b c:Nat) (h:Kid ns iQ a) (h2:Kid ns nY b) (h3:Kid ns nY c):dO ns ⟨15,line,0,[],[a,b,c]⟩
 | loop (line a b:Nat) (h:Kid ns iQ a) (h2:Kid ns nY b):dO ns ⟨16,line,0,[],[a,b]⟩
 | ret0 (line:Nat):dO ns ⟨17,line,0,[],[]⟩
 | ret1 (line a:Nat) (h:Kid ns iQ a):dO ns ⟨17,line,0,[],[a]⟩
 | block (line:Nat) (l:List Nat) (h:∀a∈l,Kid ns xG a):dO ns ⟨18,line,0,[],l⟩
 | input (line:Nat):dO ns ⟨19,line,0,[],[]⟩
 | new (line a:Nat) (h:Kid ns iQ a):dO ns ⟨20,line,0,[],[a]⟩
 | call (line:Nat) (x:List UInt8) (l:List Nat) (h:∀a∈l,Kid ns iQ a):dO ns ⟨21,line,0,x,l⟩
def aZ (ns:List aF):Prop:=∀i nd,ns[i]?=some nd→dO (ns.take i) nd
theorem aZ.snoc {ns:List aF}{nd:aF} (h:aZ ns) (hn:dO ns nd):aZ (ns++[nd]):=by
 intro i x hx;by_cases hi:i<ns.length
 · rw[List.getElem?_append_left hi] at hx
   rw[List.take_append_of_le_length (by omega)];exact h i x hx
 · rw[List.getElem?_append_right (by omega)] at hx
   by_cases he:i=ns.length
   · subst he
     rw[Nat.sub_self] at hx;simp at hx
     subst hx;rw[List.take_left];exact hn
   · rw[List.getElem?_eq_none (by simp;omega)] at hx;cases hx
theorem Kid.mono {ns:List aF}{cls:Nat→Bool}{x:Nat} (h:Kid ns cls x) (y:List aF):Kid (ns++y) cls x:=by
 obtain⟨c,hc,hk⟩:=h;exact⟨c,by rw[List.getElem?_append_left (gK hc)];exact hc,hk⟩
theorem Kid.ext {s t:PS}{cls:Nat→Bool}{x:Nat} (h:Kid s.nodes cls x) (e:Ext s t):Kid t.nodes cls x:=by
 obtain⟨y,hy⟩:=e.nodes;rw[hy];exact h.mono y
theorem Kid.new (ns:List aF) (nd:aF){cls:Nat→Bool} (h:cls nd.kind=true):Kid (ns++[nd]) cls ns.length:=⟨nd,by simp,h⟩
theorem Kid.le {ns:List aF}{c1 c2:Nat→Bool}{x:Nat} (h:Kid ns c1 x) (hc:∀k,c1 k=true→c2 k=true):Kid ns c2 x:=by
 obtain⟨c,h1,h2⟩:=h;exact⟨c,h1,hc _ h2⟩
section
variable {src:List UInt8}{ts:List Tok}
def aJt (ns:List aF) (cls:Nat→Bool) (l:List Nat):Prop:=∀a∈l,Kid ns cls a
def aRj (k:Task) (s:PS):Prop:=match k with
 | .more _ _ x=>Kid s.nodes iQ x
 | .args l=>aJt s.nodes iQ l
 | .stmts l=>aJt s.nodes xG l
 | _=>True
def resT (k:Task):Nat→Bool:=match k with
 | .call=>aOn
 | .right=>nH
 | .block=>nY
 | .stmts _=>xG
 | .named _=>xG
 | .stmt=>xG
 | _=>iQ
theorem eF {k line n:Nat}{name:List UInt8}{l:List Nat}{s:PS}{cls:Nat→Bool} (h:aZ s.nodes) (hn:dO s.nodes ⟨k,line,n,name,l⟩) (hc:cls k=true):
  aZ (bM k line n name l s).2.nodes∧aJt (bM k line n name l s).2.nodes cls (bM k line n name l s).1:=
 ⟨h.snoc hn,fun a ha=>by rw[List.mem_singleton.1 ha];exact Kid.new _ _ hc⟩
theorem kT (k:Nat) (s:PS):(aO ts k s).nodes=s.nodes:=by unfold aO;split<;>rfl
theorem aB (x:List UInt8) (s:PS):(aA ts x s).nodes=s.nodes:=by
 unfold aA;split
 · rfl
 · exact kT 20 s
theorem bW (s:PS):(aC ts s).nodes=s.nodes:=by
 unfold aC;split
 · rfl
 · exact kT 20 s
theorem jM (s:PS):(aR ts s).nodes=s.nodes:=by
 unfold aR;split
 · exact kT 20 s
 · rfl
theorem dA (s:PS):(aW ts s).nodes=s.nodes:=by
 unfold aW;simp only;split
 · rw[kT]
 · rfl
theorem rC {k:Nat}{s:PS} (hk:k≠0) (h:(aO ts k s).e=0):False:=by
 unfold aO at h;split at h
 · exact hk h
 · rename_i h0;exact h0 h
theorem qX {ns:List aF}{cls:Nat→Bool}{l:List Nat} (h:aJt ns cls l) (h1:l=[oneOf l]):Kid ns cls (oneOf l):=h _ (by rw[h1];exact List.mem_singleton.2 rfl)
theorem wO {lv:Nat}{s:PS} (h:eG ts lv s≠[]):eG ts lv s∈nA:=by
 unfold eG at h ⊢;cases hf:(dK lv).find? fun x=>pIs ts x s with
 | none=>rw[hf] at h;simp at h
 | some x=>
  have hm:=List.mem_of_find?_eq_some hf
  show x∈nA
  unfold dK at hm;have key:∀l:List (List UInt8),(∀y∈l,y∈nA)→x∈l→x∈nA:=fun l h1 h2=>h1 x h2
  split at hm<;>exact key _ (by decide) hm
theorem aNa (ht:aQ ts):∀(n:Nat) (k:Task) (s:PS) (r:List Nat×PS),run src ts n k s=some r→bO ts s→r.2.e=0→aZ s.nodes→aRj k s→aZ r.2.nodes∧aJt r.2.nodes (resT k) r.1:=by
 intro n;induction n with
 | zero=>intro k s r h;simp[run] at h
 | succ n ih=>
  intro k s r h hs he hw hp;have ih2:∀{k:Task} {s:PS} {r:List Nat×PS} {ns:List aF},run src ts n k s=some r→bO ts s→r.2.e=0→s.nodes=ns→aZ ns→aRj k s→aZ r.2.nodes∧aJt r.2.nodes (resT k) r.1:=fun h1 h2 h3 h4 h5 h6=>ih _ _ _ h1 h2 h3 (by rw[h4];exact h5) h6
  cases k with
  | atom=>
   simp only[run] at h;split at h
   · rename_i h0
     simp only[Option.some.injEq] at h;subst h;exact absurd he h0
   · rename_i h0
     have h0:s.e=0:=by simpa using h0
     split at h
     · rename_i h1
       simp only[Option.some.injEq] at h;subst h;have hm:bE ts s∈ts:=by
         unfold bE;rw[List.getD,gE hs.room];exact List.getElem_mem _
       exact eF hw (.int _ _ (ht.nums _ hm h1).2.2) rfl
     · split at h
       · simp only[Option.some.injEq] at h;subst h;exact eF hw (.text _ _) rfl
       · split at h
         · rename_i h3
           split at h
           · rename_i hx
             simp only[mS] at h;obtain⟨q,hq,rfl⟩:=h;have hq1:=aK _ _ _ _ hq trivial;have e1:q.2.e=0:=((Ext.refl q.2).must (ts:=ts) [93]).e0 he;obtain⟨a,b⟩:=ih2 hq (((hs.fU ht h3 (by omega)).down ht h0).must ht _) e1 (by rw[aB,dA];rfl) hw trivial;rw[hq1];refine eF (s:=pUp (aA ts [93] q.2)) (by show aZ (aA ts [93] q.2).nodes;rw[aB];exact a) (.index _ _ _ ?_) rfl
             show Kid (aA ts [93] q.2).nodes _ _
             rw[aB];exact qX b hq1
           · simp only[Option.some.injEq] at h;subst h;exact eF hw (.var _ _) rfl
         · split at h
           · simp only[Option.some.injEq] at h;subst h;exact eF hw (.bool _ _ (by omega)) rfl
           · split at h
             · simp only[Option.some.injEq] at h;subst h;exact eF hw (.bool _ _ (by omega)) rfl
             · split at h
               · rename_i hl
                 split at h
                 · simp only[mS] at h
                   obtain⟨q,hq,rfl⟩:=h;have hq1:=aK _ _ _ _ hq trivial;have e1:q.2.e=0:=((Ext.refl q.2).must (ts:=ts) [41]).e0 he;obtain⟨a,b⟩:=ih2 hq (((hs.iZ ht hl).down ht h0).must ht _) e1 (by rw[aB,dA];rfl) hw trivial;rw[hq1];refine eF (s:=pUp (aA ts [41] q.2)) (by show aZ (aA ts [41] q.2).nodes;rw[aB];exact a) (.len _ _ ?_) rfl
                   show Kid (aA ts [41] q.2).nodes _ _
                   rw[aB];exact qX b hq1
                 · simp only[Option.some.injEq] at h;subst h;exact (rC (by decide) he).elim
               · split at h
                 · simp only[mS] at h
                   obtain⟨q,hq,rfl⟩:=h;have e1:q.2.e=0:=((Ext.refl q.2).must (ts:=ts) [41]).e0 he;obtain⟨a,b⟩:=ih2 hq ((hs.down ht h0).must ht _) e1 (by rw[aB,dA]) hw trivial;refine⟨by show aZ (aA ts [41] q.2).nodes;rw[aB];exact a,?_⟩
                   show aJt (aA ts [41] q.2).nodes _ _
                   rw[aB];exact b
                 · simp only[Option.some.injEq] at h;subst h;exact (rC (by decide) he).elim
  | factor=>
   simp only[run] at h;split at h
   · rename_i hx
     simp only[mS] at h;obtain⟨q,hq,rfl⟩:=h;have hq1:=aK _ _ _ _ hq trivial;obtain⟨a,b⟩:=ih2 hq (hs.goDown ht hx) he (show (aW ts s).nodes=s.nodes from dA s) hw trivial;rw[hq1];exact eF (s:=pUp q.2) a (.neg _ _ (qX b hq1)) rfl
   · split at h
     · rename_i hx
       simp only[mS] at h;obtain⟨q,hq,rfl⟩:=h;have hq1:=aK _ _ _ _ hq trivial;obtain⟨a,b⟩:=ih2 hq (hs.goDown ht hx) he (show (aW ts s).nodes=s.nodes from dA s) hw trivial;rw[hq1];exact eF (s:=pUp q.2) a (.not _ _ (qX b hq1)) rfl
     · (have h9:=ih _ _ _ h hs he hw trivial;exact h9)
  | chain lv=>
   simp only[run] at h;split at h
   · (have h9:=ih _ _ _ h hs he hw trivial;exact h9)
   · simp only[bS] at h
     obtain⟨q,hq,h⟩:=h;have hq1:=aK _ _ _ _ hq trivial;have e1:q.2.e=0:=(aI _ _ _ _ h).e0 he;obtain⟨a,b⟩:=ih2 hq hs e1 rfl hw trivial
     (have h9:=ih _ _ _ h (gV ht _ _ _ _ hq hs) he a (qX b hq1);exact h9)
  | more lv line x=>
   simp only[run] at h;split at h
   · simp only[Option.some.injEq] at h;subst h
     exact⟨hw,fun a ha=>by rw[List.mem_singleton.1 ha];exact hp⟩
   · rename_i hx
     simp only[bS] at h;obtain⟨q,hq,h⟩:=h;have hq1:=aK _ _ _ _ hq trivial;have hok:=gV ht _ _ _ _ hq (hs.lK ht hx);have hkx:Kid q.2.nodes iQ x:=Kid.ext (s:=pGo s) hp (aI _ _ _ _ hq);split at h
     · simp only[Option.some.injEq] at h;subst h
       obtain⟨a,b⟩:=ih2 hq (hs.lK ht hx) he (show (pGo s).nodes=s.nodes from rfl) hw trivial;exact eF a (.bin _ _ _ _ (wO hx) hkx (qX b hq1)) rfl
     · have e1:q.2.e=0:=(aI _ _ _ _ h).e0 he
       obtain⟨a,b⟩:=ih2 hq (hs.lK ht hx) e1 (show (pGo s).nodes=s.nodes from rfl) hw trivial;obtain⟨c,d⟩:=eF (line:=line) (n:=0) (cls:=iQ) a (.bin _ _ _ _ (wO hx) hkx (qX b hq1)) rfl
       (have h9:=ih _ _ _ h (hok.put _ _ _ _ _) he c (d _ (List.mem_singleton.2 rfl));exact h9)
  | args l=>
   simp only[run,bS] at h;obtain⟨q,hq,h⟩:=h;have hq1:=aK _ _ _ _ hq trivial;have hok:=gV ht _ _ _ _ hq hs;have hle:=aI _ _ _ _ hq;split at h
   · rename_i hx
     have e1:q.2.e=0:=(aN hx).1;obtain⟨a,b⟩:=ih2 hq hs e1 rfl hw trivial;have h9:=ih _ _ _ h (hok.iZ ht hx) he a (show aJt q.2.nodes iQ (l++q.1) from fun y hy=>by
       rcases List.mem_append.1 hy with hy|hy
       · exact (hp y hy).ext hle
       · exact b y hy)
     exact h9
   · simp only[Option.some.injEq] at h;subst h
     obtain⟨a,b⟩:=ih2 hq hs he rfl hw trivial;refine⟨a,fun y hy=>?_⟩;rcases List.mem_append.1 hy with hy|hy
     · exact (hp y hy).ext hle
     · exact b y hy
  | call=>
   simp only[run,mS] at h;obtain⟨q,hq,rfl⟩:=h;have e1:q.2.e=0:=((Ext.refl q.2).must (ts:=ts) [41]).e0 he;have hw2:aZ (aA ts [40] (aC ts s)).nodes:=by rw[aB,bW];exact hw
   have key:aZ q.2.nodes∧aJt q.2.nodes iQ q.1:=by
     split at hq
     · exact ih2 hq ((hs.named ht).must ht _) e1 rfl hw2 (fun y hy=>by cases hy)
     · simp only[Option.some.injEq] at hq;subst hq
       exact⟨hw2,fun y hy=>by cases hy⟩
   refine eF (s:=aA ts [41] q.2) (by rw[aB];exact key.1) (.call _ _ _ (fun y hy=>?_)) rfl;rw[aB];exact key.2 y hy
  | right=>
   simp only[run] at h;split at h
   · simp only[Option.some.injEq] at h;subst h;exact eF hw (.input _) rfl
   · split at h
     · rename_i hx
       simp only[mS] at h;obtain⟨q,hq,rfl⟩:=h;have hq1:=aK _ _ _ _ hq trivial;have e1:q.2.e=0:=((Ext.refl q.2).must (ts:=ts) [41]).e0 he;obtain⟨a,b⟩:=ih2 hq ((hs.iZ ht hx).must ht _) e1 (by rw[aB];rfl) hw trivial;rw[hq1];refine eF (s:=aA ts [41] q.2) (by rw[aB];exact a) (.new _ _ ?_) rfl;rw[aB];exact qX b hq1
     · split at h
       · obtain⟨a,b⟩:=ih2 h hs he rfl hw trivial
         exact ⟨a, fun y hy => (b y hy).le (fun k hk => by have : k = 21 := by simpa [resT, aOn] using hk
                                                           subst this; rfl)⟩
       · obtain⟨a,b⟩:=ih2 h hs he rfl hw trivial
         exact ⟨a, fun y hy => (b y hy).le (fun k hk => by have : iQ k = true := hk
                                                           show nH k = true
                                                           unfold nH; rw [this]; rfl)⟩
  | block=>
   simp only[run] at h;split at h
   · rename_i hx
     simp only[mS] at h;obtain⟨q,hq,rfl⟩:=h;have e1:q.2.e=0:=((Ext.refl q.2).must (ts:=ts) [125]).e0 he;obtain⟨a,b⟩:=ih2 hq ((hs.eU ht hx).must ht _) e1 (by rw[aB,dA]) hw (fun y hy=>by cases hy);refine eF (s:=pUp (aA ts [125] q.2)) (by show aZ (aA ts [125] q.2).nodes;rw[aB];exact a) (.block _ _ (fun y hy=>?_)) rfl
     show Kid (aA ts [125] q.2).nodes _ _
     rw[aB];exact b y hy
   · simp only[Option.some.injEq] at h;subst h;exact (rC (by decide) he).elim
  | stmts l=>
   simp only[run] at h;split at h
   · rename_i h0
     simp only[Option.some.injEq] at h;subst h;exact absurd he h0
   · split at h
     · simp only[Option.some.injEq] at h;subst h;exact⟨hw,hp⟩
     · simp only[bS] at h
       obtain⟨q,hq,h⟩:=h;have e1:q.2.e=0:=(aI _ _ _ _ h).e0 he;obtain⟨a,b⟩:=ih2 hq hs e1 rfl hw trivial;have h9:=ih _ _ _ h (gV ht _ _ _ _ hq hs) he a (show aJt q.2.nodes xG (l++q.1) from fun y hy=>by
         rcases List.mem_append.1 hy with hy|hy
         · exact (hp y hy).ext (aI _ _ _ _ hq)
         · exact b y hy)
       exact h9
  | named line=>
   simp only[run] at h;split at h
   · simp only[mS] at h
     obtain⟨q,hq,rfl⟩:=h;have hq1:=aK _ _ _ _ hq trivial;have e1:q.2.e=0:=((Ext.refl q.2).must (ts:=ts) [59]).e0 he;obtain⟨a,b⟩:=ih2 hq hs e1 rfl hw trivial;rw[hq1];refine eF (s:=aA ts [59] q.2) (by rw[aB];exact a) (.do_ _ _ ?_) rfl;rw[aB];exact qX b hq1
   · split at h
     · rename_i hx
       simp only[mS,bS] at h;obtain⟨q,hq,u,hu,rfl⟩:=h;have hq1:=aK _ _ _ _ hq trivial;have hu1:=aK _ _ _ _ hu trivial;have e2:u.2.e=0:=((Ext.refl u.2).must (ts:=ts) [59]).e0 he;have hx2:=((((Ext.refl q.2).must (ts:=ts) [93]).up).must (ts:=ts) [61]);have e1:q.2.e=0:=hx2.e0 ((aI _ _ _ _ hu).e0 e2);have hsn:bO ts (aC ts s):=hs.named ht;obtain⟨a,b⟩:=ih2 hq ((hsn.eU ht hx).must ht _) e1 (by rw[aB,dA,bW]) hw trivial;have hokq:=gV ht _ _ _ _ hq ((hsn.eU ht hx).must ht _);obtain⟨c,d⟩:=ih2 hu (((hokq.must ht _).up).must ht _) e2 (show (aA ts [61] (pUp (aA ts [93] q.2))).nodes=q.2.nodes by rw[aB];exact aB _ _) a trivial;rw[hq1,hu1];refine eF (s:=aA ts [59] u.2) (by rw[aB];exact c) (.put _ _ _ _ ?_ ?_) rfl
       · rw[aB]
         exact (qX b hq1).ext (hx2.trans (aI _ _ _ _ hu))
       · rw[aB];exact qX d hu1
     · simp only[mS] at h
       obtain⟨q,hq,rfl⟩:=h;have hq1:=aK _ _ _ _ hq trivial;have e1:q.2.e=0:=((Ext.refl q.2).must (ts:=ts) [59]).e0 he;obtain⟨a,b⟩:=ih2 hq ((hs.named ht).must ht _) e1 (by rw[aB,bW]) hw trivial;rw[hq1];refine eF (s:=aA ts [59] q.2) (by rw[aB];exact a) (.set _ _ _ ?_) rfl;rw[aB];exact qX b hq1
  | stmt=>
   simp only[run] at h;split at h
   · rename_i hwd
     simp only[mS] at h;obtain⟨q,hq,rfl⟩:=h;have hq1:=aK _ _ _ _ hq trivial;have e1:q.2.e=0:=((Ext.refl q.2).must (ts:=ts) [59]).e0 he;obtain⟨a,b⟩:=ih2 hq (((hs.fA ht hwd (by simp)).named ht).must ht _) e1 (by rw[aB,bW];rfl) hw trivial;rw[hq1];refine eF (s:=aA ts [59] q.2) (by rw[aB];exact a) (.let_ _ _ _ ?_) rfl;rw[aB];exact qX b hq1
   · split at h
     · rename_i hwd
       simp only[mS] at h;obtain⟨q,hq,rfl⟩:=h;have hq1:=aK _ _ _ _ hq trivial;have e1:q.2.e=0:=((Ext.refl q.2).must (ts:=ts) [59]).e0 he;obtain⟨a,b⟩:=ih2 hq (hs.fA ht hwd (by simp)) e1 (show (pGo s).nodes=s.nodes from rfl) hw trivial;rw[hq1];refine eF (s:=aA ts [59] q.2) (by rw[aB];exact a) (.print _ _ ?_) rfl;rw[aB];exact qX b hq1
     · split at h
       · rename_i hwd
         simp only[mS,bS] at h;obtain⟨q,hq,u,hu,rfl⟩:=h;have hq1:=aK _ _ _ _ hq trivial;have hu1:=aK _ _ _ _ hu trivial;have e1:q.2.e=0:=(aI _ _ _ _ hu).e0 he;obtain⟨a,b⟩:=ih2 hq (hs.fA ht hwd (by simp)) e1 (show (pGo s).nodes=s.nodes from rfl) hw trivial;obtain⟨c,d⟩:=ih2 hu (gV ht _ _ _ _ hq (hs.fA ht hwd (by simp))) he rfl a trivial;rw[hq1,hu1];exact eF (s:=u.2) c (.loop _ _ _ ((qX b hq1).ext (aI _ _ _ _ hu)) (qX d hu1)) rfl
       · split at h
         · rename_i hwd
           simp only[bS] at h;obtain⟨q,hq,u,hu,h⟩:=h;have hq1:=aK _ _ _ _ hq trivial;have hu1:=aK _ _ _ _ hu trivial;have hokq:=gV ht _ _ _ _ hq (hs.fA ht hwd (by simp));have hoku:=gV ht _ _ _ _ hu hokq;split at h
           · rename_i hx
             simp only[mS] at h;obtain⟨v,hv,rfl⟩:=h;have hv1:=aK _ _ _ _ hv trivial;have e2:u.2.e=0:=(aN hx).1;have e1:q.2.e=0:=(aI _ _ _ _ hu).e0 e2;obtain⟨a,b⟩:=ih2 hq (hs.fA ht hwd (by simp)) e1 (show (pGo s).nodes=s.nodes from rfl) hw trivial;obtain⟨c,d⟩:=ih2 hu hokq e2 rfl a trivial;obtain⟨f,g⟩:=ih2 hv (hoku.iZ ht hx) he (show (pGo u.2).nodes=u.2.nodes from rfl) c trivial;have e3:Ext u.2 v.2:=((Ext.refl u.2).go).trans (aI _ _ _ _ hv);rw[hq1,hu1,hv1];exact eF (s:=v.2) f (.if3 _ _ _ _ (((qX b hq1).ext (aI _ _ _ _ hu)).ext e3) ((qX d hu1).ext e3) (qX g hv1)) rfl
           · simp only[Option.some.injEq] at h;subst h
             have e1:q.2.e=0:=(aI _ _ _ _ hu).e0 he;obtain⟨a,b⟩:=ih2 hq (hs.fA ht hwd (by simp)) e1 (show (pGo s).nodes=s.nodes from rfl) hw trivial;obtain⟨c,d⟩:=ih2 hu hokq he rfl a trivial;rw[hq1,hu1];exact eF (s:=u.2) c (.if2 _ _ _ ((qX b hq1).ext (aI _ _ _ _ hu)) (qX d hu1)) rfl
         · split at h
           · rename_i hwd
             split at h
             · simp only[Option.some.injEq] at h;subst h
               exact eF (s:=aA ts [59] (pGo s)) (by rw[aB];exact hw) (.ret0 _) rfl
             · simp only[mS] at h
               obtain⟨q,hq,rfl⟩:=h;have hq1:=aK _ _ _ _ hq trivial;have e1:q.2.e=0:=((Ext.refl q.2).must (ts:=ts) [59]).e0 he;obtain⟨a,b⟩:=ih2 hq (hs.fA ht hwd (by simp)) e1 (show (pGo s).nodes=s.nodes from rfl) hw trivial;rw[hq1];refine eF (s:=aA ts [59] q.2) (by rw[aB];exact a) (.ret1 _ _ ?_) rfl;rw[aB];exact qX b hq1
           · (have h9:=ih _ _ _ h hs he hw trivial;exact h9)
end
structure oL (ns:List aF) (fs:List aD):Prop where
 nodes:aZ ns
 bodies:∀f∈fs,Kid ns nY f.body
 few:ns.length≤300
 fewf:fs.length≤6
 pars:∀f∈fs,f.params.length≤3
 types:∀f∈fs,f.ret≤4∧∀p∈f.params,p.2≤4
section
variable {src:List UInt8}{ts:List Tok}
theorem oI:∀(n:Nat) (acc:List (List UInt8×Nat)) (s:PS) (p:List (List UInt8×Nat)×PS),aH ts n acc s=some p→(∀q∈acc,q.2≤4)→∀q∈p.1,q.2≤4
 | 0,_,_,_,h,_=>by simp[aH] at h
 | n+1,acc,s,p,h,ha=>by
  have h2:∀q∈acc++[(bK ts s,bQ ts (aC ts s))],q.2≤4:=fun q hq=>by
    rcases List.mem_append.1 hq with hq|hq
    · exact ha q hq
    · rw[List.mem_singleton.1 hq];exact uE _
  simp only[aH] at h;split at h
  · exact oI n _ _ _ h h2
  · simp only[Option.some.injEq] at h
    subst h;exact h2
theorem jW:∀(n:Nat) (acc:List (List UInt8×Nat)) (s:PS) (p:List (List UInt8×Nat)×PS),aH ts n acc s=some p→p.2.nodes=s.nodes
 | 0,_,_,_,h=>by simp[aH] at h
 | n+1,acc,s,p,h=>by
  simp only[aH] at h;split at h
  · rw[jW n _ _ _ h]
    show (aR ts (aC ts s)).nodes=_
    rw[jM,bW]
  · simp only[Option.some.injEq] at h
    subst h
    show (aR ts (aC ts s)).nodes=_
    rw[jM,bW]
theorem aOg (ht:aQ ts){n:Nat}{s:PS}{fs:aD×PS} (h:bJ src ts n s=some fs) (hs:bO ts s) (he:fs.2.e=0) (hw:aZ s.nodes):
   aZ fs.2.nodes∧Kid fs.2.nodes nY fs.1.body∧fs.1.ret≤4∧∀p∈fs.1.params,p.2≤4:=by
 simp only[bJ,bS,mS] at h;obtain⟨p,hp,b,hb,rfl⟩:=h;have h1:bO ts (aA ts [40] (aC ts (aA ts [102,110] s))):=((hs.must ht _).named ht).must ht _;have hn1:(aA ts [40] (aC ts (aA ts [102,110] s))).nodes=s.nodes:=by rw[aB,bW,aB]
 have h2:bO ts p.2∧p.2.nodes=s.nodes∧∀q∈p.1,q.2≤4:=by
   split at hp
   · exact⟨qL ht _ _ _ _ hp h1,by rw[jW _ _ _ _ hp,hn1],oI _ _ _ _ hp (fun q hq=>by cases hq)⟩
   · simp only[Option.some.injEq] at hp
     subst hp;exact⟨h1,hn1,fun q hq=>by cases hq⟩
 have hb1:=aK _ _ _ _ hb trivial;have key:aZ b.2.nodes∧aJt b.2.nodes nY b.1:=by
   split at hb
   · exact aNa ht _ _ _ _ hb (h2.1.must ht _) he (by rw[aB,h2.2.1];exact hw) trivial
   · exact aNa ht _ _ _ _ hb ((h2.1.must ht _).typed ht) he (by rw[jM,aB,h2.2.1];exact hw) trivial
 refine⟨key.1,qX key.2 hb1,?_,h2.2.2⟩
 show (if pIs ts [123] (aA ts [41] p.2)=true then 0 else bQ ts (aA ts [41] p.2))≤4
 split
 · omega
 · exact uE _
theorem aNe (ht:aQ ts):∀(n:Nat) (acc:List aD) (s:PS) (r:List aD×PS),bC src ts n acc s=some r→bO ts s→r.2.e=0→aZ s.nodes→(∀f∈acc,Kid s.nodes nY f.body∧f.ret≤4∧∀p∈f.params,p.2≤4) →
  aZ r.2.nodes∧∀f∈r.1,Kid r.2.nodes nY f.body∧f.ret≤4∧∀p∈f.params,p.2≤4
 | 0,_,_,_,h,_,_,_,_=>by simp[bC] at h
 | n+1,acc,s,r,h,hs,he,hw,ha=>by
  simp only[bC] at h;split at h
  · simp only[Option.some.injEq] at h;subst h;exact⟨hw,ha⟩
  · split at h
    · simp only[Option.some.injEq] at h;subst h;exact⟨hw,ha⟩
    · simp only[bS] at h
      obtain⟨fs,hfs,h⟩:=h;have e1:fs.2.e=0:=(kF _ _ _ _ h).e0 he;obtain⟨a,b,c,d⟩:=aOg ht hfs hs e1 hw;refine aNe ht n _ _ _ h (aIg ht hfs hs).1 he a (fun f hf=>?_);rcases List.mem_append.1 hf with hf|hf
      · obtain⟨x,y⟩:=ha f hf
        exact⟨x.ext (wZ hfs),y⟩
      · rw[List.mem_singleton.1 hf];exact⟨b,c,d⟩
theorem aLg {src:List UInt8}{ns:List aF}{fs:List aD} (h:parseM src=some (.good ns fs)):oL ns fs:=by
 unfold parseM at h;cases hl:nG src with
 | bad p e=>rw[hl] at h;simp at h
 | good ts=>
  rw[hl] at h;have ht:=iL hl;simp only[lH,mS] at h;obtain⟨q,hq,h⟩:=h;split at h
  · cases h
  · rename_i h0
    have h0:q.2.e=0:=by simpa using h0
    split at h
    · cases h
    · rename_i hb
      injection h with h1 h2;subst h1;subst h2;have hs:bO ts ⟨0,[],0,0,0⟩:=⟨ht.pos,by decide,fun _=>by decide,by decide,by decide⟩;obtain⟨a,b⟩:=aNe ht _ _ _ _ hq hs h0 (fun i nd hi=>by simp at hi) (fun f hf=>by cases hf);refine⟨a,fun f hf=>(b f hf).1,by omega,by omega,fun f hf=>?_,fun f hf=>(b f hf).2⟩;by_cases h3:f.params.length≤3
      · exact h3
      · exact absurd (List.any_eq_true.2 ⟨f,hf,by simp;omega⟩) (fun e=>hb (.inr (.inr e)))
end
end Pw
end Go.Proofs.YtlbjicjinnnboaaGreatDoor
/- The parser: values that are made node by node; how great a tree is. -/
namespace Go.Proofs.YtlbjicjinnnboaaGreatDoor
namespace Pw
open Go.RowKit
section
variable {α:Type} (g:(Nat→α)→aF→α) (d:α)
end
theorem Kid.lt {ns:List aF}{cls:Nat→Bool}{x:Nat} (h:Kid ns cls x):x<ns.length:=by
 obtain⟨c,hc,_⟩:=h;exact (gK hc)
theorem Kid.take {ns:List aF}{cls:Nat→Bool}{x i:Nat} (h:Kid (ns.take i) cls x):x<i∧Kid ns cls x:=by
 obtain⟨c,hc,hk⟩:=h;rw[List.getElem?_take] at hc;split at hc
 · exact⟨by assumption,c,hc,hk⟩
 · cases hc
section
variable {src:List UInt8}{ts:List Tok}
def dP:Task→List Nat
 | .more _ _ x=>[x] | .args l=>l | .stmts l=>l|_=>[]
end
end Pw
open Pw
inductive CkR (α:Type) where
 | bad (e p:Nat)
 | good (a:α)
namespace CkR
def bind {α β:Type}:CkR α→(α→CkR β)→CkR β
 | .bad e p,_=> .bad e p
 | .good a,f=>f a
def map {α β:Type} (f:α→β):CkR α→CkR β
 | .bad e p=> .bad e p
 | .good a=> .good (f a)
@[simp] theorem vI {α β : Type} (e p : Nat) (f : α → CkR β) : (CkR.bad e p).bind f = .bad e p := rfl
@[simp] theorem aJ {α β : Type} (a : α) (f : α → CkR β) : (CkR.good a).bind f = f a := rfl
@[simp] theorem aOb {α β : Type} (e p : Nat) (f : α → β) : (CkR.bad e p).map f = .bad e p := rfl
@[simp] theorem fM {α β : Type} (a : α) (f : α → β) : (CkR.good a).map f = .good (f a) := rfl
theorem bind_eq {α β:Type}{r:CkR α}{f:α→CkR β}{b:β} (h:r.bind f = .good b):∃a,r = .good a∧f a = .good b:=by
 cases r with
 | bad e p=>cases h
 | good a=>exact⟨a,rfl,h⟩
theorem map_eq {α β:Type}{r:CkR α}{f:α→β}{b:β} (h:r.map f = .good b):∃a,r = .good a∧f a=b:=by
 cases r with
 | bad e p=>cases h
 | good a=>injection h with h;exact⟨a,rfl,h⟩
end CkR
structure dL where
 name:List UInt8
 ty:Nat
 slot:Nat
 deriving DecidableEq
structure CkS where
 types:List Nat
 slots:List Int
 fn:List Nat
 vars:List dL
 size:Nat
def dR (vars:List dL) (name:List UInt8):Option dL:=vars.find? fun v=>decide (v.name=name)
def findF (fs:List aD) (name:List UInt8):Option Nat:=fs.findIdx? fun f=>decide (f.name=name)
def iI (sign:List UInt8) (a b:Nat):Nat:=
 if a≠b then 0
 else if sign=[124,124]∨sign=[38,38] then (if a=2 then 2 else 0)
 else if sign=[60]∨sign=[60,61] then (if a=1 then 2 else 0)
 else if sign=[61,61]∨sign=[33,61] then (if a=1∨a=2∨a=3 then 2 else 0)
 else if sign=[43] then (if a=1∨a=3 then a else 0)
 else if a=1 then 1 else 0
section
variable (ns:List aF) (fs:List aD) (k:Nat)
def dV (x:Nat) (name:List UInt8) (s:CkS):CkR (Nat×CkS):=
 match dR s.vars name with
 | none=> .bad 40 x
 | some v=> .good (v.ty,{ s with slots:=s.slots.set x v.slot })
section
variable (ex:Nat→CkS→CkR (Nat×CkS))
def dG:List Nat→CkS→CkR (List Nat×CkS)
 | [],s=> .good ([],s)
 | a :: l,s=>(ex a s).bind fun r=>(dG l r.2).map fun q=>(r.1 :: q.1,q.2)
def mY (x:Nat) (nd:aF) (s:CkS):CkR (Nat×CkS):=
 match findF fs nd.name with
 | none=> .bad 40 x
 | some j=>(dG ex nd.l s).bind fun r=>
  if r.1.length≠((fs[j]?.map (·.params)).getD []).length then .bad 43 x
  else if r.1≠((fs[j]?.map (·.params)).getD []).map (·.2) then .bad 42 x
  else .good ((fs[j]?.map (·.ret)).getD 0,r.2)
def dB (x:Nat) (nd:aF) (s:CkS):CkR (Nat×CkS):=
 if nd.kind=1∨nd.kind=19 then .good (1,s)
 else if nd.kind=2 then .good (2,s)
 else if nd.kind=3 then .good (3,s)
 else if nd.kind=4 then dV x nd.name s
 else if nd.kind=21 then mY fs ex x nd s
 else if nd.kind=5 then (dV x nd.name s).bind fun t=>(ex (nd.l.headD 0) t.2).bind fun r=>if t.1=4∧r.1=1 then .good (1,r.2) else .bad 42 x
 else if nd.kind=9 then (ex (nd.l.headD 0) s).bind fun a=>(ex (nd.l.getD 1 0) a.2).bind fun b=>
  if iI nd.name a.1 b.1=0 then .bad 42 x else .good (iI nd.name a.1 b.1,b.2)
 else (ex (nd.l.headD 0) s).bind fun r=>
  if nd.kind=6 then (if r.1=3∨r.1=4 then .good (1,r.2) else .bad 42 x)
  else if nd.kind=7 then (if r.1=1 then .good (1,r.2) else .bad 42 x)
  else if nd.kind=8 then (if r.1=2 then .good (2,r.2) else .bad 42 x)
  else (if r.1=1 then .good (4,r.2) else .bad 42 x)
end
def gJ:Nat→Nat→CkS→CkR (Nat×CkS)
 | 0,_,_=> .bad 99 0
 | f+1,x,s=>
  match ns[x]? with
  | none=> .bad 98 0
  | some nd=>(dB fs (gJ f) x nd s).map fun r=>(r.1,{ r.2 with types:=r.2.types.set x r.1,fn:=r.2.fn.set x k })
section
variable (ex:Nat→CkS→CkR (Nat×CkS)) (bl:Nat→CkS→CkR CkS)
def aOd (x:Nat) (nd:aF) (s:CkS):CkR CkS:=
 (ex (nd.l.headD 0) s).bind fun r=>
   if r.1=0 then .bad 42 x
   else if (dR r.2.vars nd.name).isSome then .bad 41 x
   else if 24≤r.2.size then .bad 4 x
   else .good { r.2 with slots:=r.2.slots.set x r.2.size,vars:=r.2.vars++[⟨nd.name,r.1,r.2.size⟩],size:=r.2.size+1 }
def iG (st:Nat→CkS→CkR CkS):List Nat→CkS→CkR CkS
 | [],s=> .good s
 | a :: l,s=>(st a s).bind fun s=>iG st l s
def aCy (x:Nat) (nd:aF) (s:CkS):CkR CkS:=
 if (nd.l.length=1)↔((fs[k]?.map (·.ret)).getD 0≠0) then
  (if nd.l.length=1 then (ex (nd.l.headD 0) s).bind fun r=>if r.1=(fs[k]?.map (·.ret)).getD 0 then .good r.2 else .bad 42 x else .good s)
 else .bad 43 x
def jF (x:Nat) (nd:aF) (s:CkS):CkR CkS:=
 let s:={ s with fn:=s.fn.set x k }
 if nd.kind=10 then aOd ex x nd s
 else if nd.kind=11 then (dV x nd.name s).bind fun t=>(ex (nd.l.headD 0) t.2).bind fun r=>if t.1=r.1 then .good r.2 else .bad 42 x
 else if nd.kind=12 then (dV x nd.name s).bind fun t=>(ex (nd.l.headD 0) t.2).bind fun r=>(ex (nd.l.getD 1 0) r.2).bind fun q=>if t.1=4∧r.1=1∧q.1=1 then .good q.2 else .bad 42 x
 else if nd.kind=13 then (ex (nd.l.headD 0) s).map (·.2)
 else if nd.kind=14 then (ex (nd.l.headD 0) s).bind fun r=>if r.1≠4 then .good r.2 else .bad 42 x
 else if nd.kind=17 then aCy fs k ex x nd s
 else (ex (nd.l.headD 0) s).bind fun r=>if r.1=2 then iG bl nd.l.tail r.2 else .bad 42 x
end
def gM:Nat→Nat→CkS→CkR CkS
 | 0,_,_=> .bad 97 0
 | f+1,x,s=>
  match ns[x]? with
  | none=> .bad 96 0
  | some nd=>(iG (fun a s=>match ns[a]? with
   | none=> .bad 95 0
   | some na=>jF fs k (gJ ns fs k ns.length) (gM f) a na s) nd.l { s with fn:=s.fn.set x k }).map fun r=>{ r with vars:=r.vars.take s.vars.length }
end
structure fK where
 ns:List aF
 fs:List aD
 types:List Nat
 slots:List Int
 fn:List Nat
 sizes:List Nat
def jL (body:Nat):List (List UInt8×Nat)→List dL→CkR (List dL)
 | [],vs=> .good vs
 | p :: l,vs=>if (dR vs p.1).isSome then .bad 41 body else jL body l (vs++[⟨p.1,p.2,vs.length⟩])
section
variable (ns:List aF) (fs:List aD)
def iA (k:Nat) (f:aD) (s:CkS):CkR CkS:=
 (jL f.body f.params []).bind fun vs=>gM ns fs k ns.length f.body { s with vars:=vs,size:=vs.length }
def dN:Nat→List aD→List Nat→CkS→CkR (List Nat×CkS)
 | _,[],zs,s=> .good (zs,s)
 | k,f :: l,zs,s=>(iA ns fs k f s).bind fun r=>dN (k+1) l (zs++[r.size]) r
def fH (f:aD):Bool:=decide (f.name=[109,97,105,110]) && decide (f.params.length=0) && decide (f.ret=0)
def dJ:List (List UInt8)→List aD→Option Nat
 | _,[]=>none
 | seen,f :: l=>if f.name∈seen then some f.body else dJ (seen++[f.name]) l
def lJ:CkR Unit:=
 match dJ [] fs with
 | some b=> .bad 41 b
 | none=>if fs.any fH then .good () else .bad 44 0
def fG:CkS:=⟨List.replicate ns.length 0,List.replicate ns.length (-1),List.replicate ns.length 0,[],0⟩
def dW:CkR fK:=
 (lJ fs).bind fun _=>(dN ns fs 0 fs [] (fG ns)).map fun r=>⟨ns,fs,r.2.types,r.2.slots,r.2.fn,r.1⟩
end
inductive gP where
 | bad (p e:Nat)
 | good (p:fK)
def eX (src:List UInt8):Option gP:=
 (parseM src).map fun
   | .bad p e=> .bad p e
   | .good ns fs=>match dW ns fs with
    | .bad e x=>if e=44 then .bad 0 44 else .bad ((ns[x]?.map (·.line)).getD 0) e
    | .good p=> .good p
end Go.Proofs.YtlbjicjinnnboaaGreatDoor
