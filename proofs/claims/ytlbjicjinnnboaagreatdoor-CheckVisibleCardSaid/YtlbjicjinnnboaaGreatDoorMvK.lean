/- MvK: laws and walks for CheckVisible. -/
import Derived.Test.YtlbjicjinnnboaaGreatDoorUShelf
import Derived.Test.YtlbjicjinnnboaaGreatDoorMvJ
import Derived.Test.YtlbjicjinnnboaaGreatDoorMvI
import Derived.Test.YtlbjicjinnnboaaGreatDoorMvH
import Derived.Test.YtlbjicjinnnboaaGreatDoorMvA
import Derived.Laws.CopyOwn
set_option maxHeartbeats 8000000
set_option maxRecDepth 100000
set_option linter.unusedVariables false
set_option linter.unusedSimpArgs false
namespace Go.Proofs.YtlbjicjinnnboaaGreatDoor
open Go.RowKit Go.Proofs.Tryz
open Pw
variable {x m line b:Nat}{w:World}{st:Nat->CkS->CkR CkS}
theorem xI {m:List Nat} (q:CkR (Nat×CkS)):(q.bind λr=>if r.1=2 then dX st m r.2 else .bad 42 x)=(q.bind λr=>if r.1=2 then .good r.2 else .bad 42 x).bind (dX st m):=by
 cases q with
 | bad e p=>rfl
 | good v=>
  simp only[CkR.aC];by_cases h:v.1=2
  . rw[if_pos h,if_pos h];rfl
  . rw[if_neg h,if_neg h];rfl
theorem yZ {m:List Nat}{j y:Nat} (R:CkR CkS) (hy:m[j]?=some y):R.bind (dX st (m.take (j+1)))=(R.bind (dX st (m.take j))).bind (st y):=by
 rw[show m.take (j+1)=m.take j++[y] from by rw[List.take_add_one,hy];rfl];cases R with
 | bad e p=>rfl
 | good s=>exact iJ st y _ s
theorem aCo (R:CkR CkS):R.bind (dX st [])=R:=by cases R<;>rfl
section
variable {G:Geo}{w w':World}{s:CkS}{r:CkR CkS}{zs:List Nat}{k e p:Nat}{ex:Nat->CkS->CkR (Nat×CkS)}{bl:Nat->CkS->CkR CkS}
theorem KqN.open_ (h:KqN G w r zs k) (hM:G.M=24):∃s e p,Kq G.more w s zs k e p∧fO r s e p:=by
 cases r with
 | good s=>exact⟨s,0,0,Kq.more h (by omega),.inl ⟨rfl,rfl,rfl⟩⟩
 | bad e p=>obtain⟨h1,h2,s,h3⟩:=h;exact⟨s,e,p,h3,.inr ⟨h1,h2,rfl⟩⟩
theorem uR {kd:Nat} (hkd:kd=15∨kd=16) (hM:G.M=24){a:Nat} (hx:G.ns[x]?=some ⟨kd,line,0,[],[a,b]⟩) (ha:iE 170 G zs k a (ex a)) (hbl:∀y∈[b],aKt G zs k bl y):uF G zs k (λx s=>fI G.fs k ex bl x ⟨kd,line,0,[],[a,b]⟩ s) x ⟨kd,line,0,[],[a,b]⟩:=λw s A c h ho hlow=>by
 have ho:Own w 3 1 (.slice A 2 c) 2 (ints [a,b]):=ho;have HG:=hD h.geo;have HM:=hD hM;have HLO:Hd (∀b,blk (.slice A 2 c)=some b->b<G.B):=hlow;have hxl:=(gK hx);have hx3:(x:Int)<(G.ns.length:Int):=by omega
 have hx4:(G.ns.length:Int)<=300:=by have:=h.geo.few;omega
 have FA:Hd (Fr nob w (w.alloc (.cells #[.int .i64 kd,.int .i64 line,.int .i64 0,.string (bs []),.slice A 2 c] 50))):=(fR w).alloc _;have B1:=hD (Blk.new w 50 #[.int .i64 kd,.int .i64 line,.int .i64 0,.string (bs []),.slice A 2 c]);have S1:Hd (Kq G _ s zs k 0 0):=h.no FA;have O1:=hD (ho.fr FA (λ_ _ x=>x));have GN:=hD (show w.heap.size≠G.g∧w.heap.size≠G.bt∧w.heap.size≠G.bs∧w.heap.size≠G.bf from by have:=h.geo.lg;have:=h.geo.lt;have:=h.geo.ls;have:=h.geo.lf;have:=h.zle;exact⟨by omega,by omega,by omega,by omega⟩);have HA:=hD ha;have HBL:=hD hbl;have e10:((kd:Int)==10)=false:=by rcases hkd with rfl|rfl<;>rfl
 have e11:((kd:Int)==11)=false:=by rcases hkd with rfl|rfl<;>rfl
 have e12:((kd:Int)==12)=false:=by rcases hkd with rfl|rfl<;>rfl
 have e13:((kd:Int)==13)=false:=by rcases hkd with rfl|rfl<;>rfl
 have e14:((kd:Int)==14)=false:=by rcases hkd with rfl|rfl<;>rfl
 have e17:((kd:Int)==17)=false:=by rcases hkd with rfl|rfl<;>rfl
 have EQ:=hD (show fI G.fs k ex bl x ⟨kd,line,0,[],[a,b]⟩ s=((CkR.good (bK k x s)).bind (ex a)).bind λr=>if r.1=2 then dX bl [b] r.2 else .bad 42 x from by rcases hkd with rfl|rfl<;>rfl);clear ha hbl hkd h ho hlow hM hx hxl;dsimp only[List.length_cons,List.length_nil];go_enter func145,ntmps145;go_upto_region 1 with fail;generalize w.alloc (.cells #[.int .i64 kd,.int .i64 line,.int .i64 0,.string (bs []),.slice A 2 c] 50)=w0 at *;generalize hT:w.heap.size=T at *;obtain⟨_,_,-,-,-,-,c6,-,c8,-⟩:=S1.o.cells;go_wp2_with fail
 go_still_tail 11,(by kernel_rfl)
 change wpList _ _ _ _ _ w0.drew;clear c6 c8;have SD:=hD (S1.o.no (fR w0).drew);have BD:=hD (B1.o.fr (fR w0).drew (λx=>x));have OD:=hD (O1.o.fr (fR w0).drew (λ_ _ x=>x));have FD:Hd (FrK G w w0.drew):=FrK.no (FA.o.tr (fR w0).drew);clear S1 B1 O1 FA;generalize w0.drew=w1 at *;obtain⟨⟨u2,bf⟩,zf⟩:=SD.o.fn.gY (j:=x) (by omega);have S2:Hd (Kq G _ (bK k x s) zs k 0 0):=(SD.o.kI x k).1;have F2:=hD (FD.o.trans (SD.o.kI x k).2);have B2:=hD (BD.o.far (p:=⟨G.bf,x,none⟩) (λe=>GN.o.2.2.2 e) (.int .i64 (k:Nat)));have O2:=hD (OD.o.far (p:=⟨G.bf,x,none⟩) (λe=>by have h9:G.bf<G.B:=HLO.o _ e;have:=HG.o.hf;omega) (.int .i64 (k:Nat)));go_upto_region 2 with fail;clear bf zf SD BD OD FD;generalize w1.setCell ⟨G.bf,x,none⟩ (.int .i64 (k:Nat))=w2 at *;have d0:w2.cell? ⟨T,0,none⟩=some (.int .i64 kd):=(B2.o.cell 0).trans rfl;have d4:=(B2.o.cell 4).trans rfl;obtain⟨kb,e9,kc⟩:=O2.o.some (by simp);subst e9;have k0:=kc 0 (.int .i64 (a:Nat)) rfl;have hc1:2<=c:=by have:=O2.o.oH.1;omega
 have hc3:(2:Int)<=(c:Int):=by omega
 have KB:=hD (show kb≠G.g∧kb≠G.bt∧kb≠G.bs∧kb≠G.bf from by have:=HLO.o kb (aQ (by omega) (by omega));have:=HG.o.hg;have:=HG.o.ht;have:=HG.o.hs;have:=HG.o.hf;exact⟨by omega,by omega,by omega,by omega⟩);clear kc;have K2:=hD (And.intro d4 k0);have M2:Hd (KqM G w2 (.good (bK k x s)) zs k):=S2;go_wp2_with fail
 go_region_held3 (λwx=>wx.cell? ⟨T,4,none⟩=some (.slice (some ⟨kb,0,none⟩) 2 c)∧wx.cell? ⟨kb,0,none⟩=some (.int .i64 (a:Nat))) (first|exact K2.o|exact K3.o|exact K4) (first
  | (go_at_call 170;go_loud (refine (HA _ _ (M2.o.no ((fR w2).drew))).mono ?_);go_loud (rintro en w3 ⟨u,rfl,h3,f3⟩);go_loud (have S3:=hD h3);go_loud (have F3:=hD ((FrK.no ((fR w2).drew)).trans f3));go_loud (have B3:=hD (f3.far (B2.o.fr (fR w2).drew (λx=>x)) GN.o.1 GN.o.2.1 GN.o.2.2.1 GN.o.2.2.2 (by decide)));go_loud (have O3:=hD (f3.own (O2.o.fr (fR w2).drew (λ_ _ x=>x)) (by decide) (λb hb=>by rw[aQ (by decide) hc1] at hb;injection hb with hb;subst hb;exact KB)));go_loud (have K3:=hD (And.intro ((B3.o.cell 4).trans (show _=some (.slice (some ⟨kb,0,none⟩) 2 c) from rfl)) (cell_of (j:=0) (u:= .int .i64 (a:Nat)) O3 (by decide) rfl)));go_loud (clear h3 f3))
  | (go_at_call 95;go_loud (refine (S3.o.st.ask _ 42 x (by decide) (by decide)).mono ?_);go_loud (rintro en w4 ⟨rfl,h4,f4⟩);go_loud (have S4:=hD h4);go_loud (have F4:=hD (F3.o.trans (FrK.ofG f4)));go_loud (have B4:=hD (B3.o.fr f4 GN.o.1));go_loud (have O4:=hD (O3.o.fr f4 (λb hb e=>by rw[aQ (by decide) hc1] at hb;injection hb with hb;subst hb;exact KB.o.1 e)));go_loud (have K4:=hD (And.intro ((B4.o.cell 4).trans (show _=some (.slice (some ⟨kb,0,none⟩) 2 c) from rfl)) (cell_of (j:=0) (u:= .int .i64 (a:Nat)) O4 (by decide) rfl)));go_loud (clear h4 f4)))
 all_goals
  have N0:=hD (show KqN G w4 ((((CkR.good (bK k x s)).bind (ex a)).bind λr=>if r.1=2 then .good r.2 else .bad 42 x).bind (dX bl ([b].take 0))) zs k from by
    have h9:=S4.o;rw[aAm (P:=λa=>a=2) (b:=((u:Int)==2)) S3.o.val (by rw[Bool.eq_iff_iff];simp;omega)] at h9;have h8:=h9.toN HM.o;rw[show (((CkR.good (bK k x s)).bind (ex a)).bind λr=>if r.1=2 then CkR.good r.2 else .bad 42 x).bind (dX bl ([b].take 0))=((CkR.good (bK k x s)).bind (ex a)).bind λr=>if r.1=2 then .good r.2 else .bad 42 x from aCo _];exact h8)
  have FF:=hD (F2.o.trans F4);have EQ2:=hD (show fI G.fs k ex bl x ⟨kd,line,0,[],[a,b]⟩ s=(((CkR.good (bK k x s)).bind (ex a)).bind λr=>if r.1=2 then .good r.2 else .bad 42 x).bind (dX bl [b]) from by
    rw[EQ.o];exact xI _)
  generalize (((CkR.good (bK k x s)).bind (ex a)).bind λr=>if r.1=2 then CkR.good r.2 else .bad 42 x)=R0 at *;have d4:=(B4.o.cell 4).trans (show _=some (Value.slice (some ⟨kb,0,none⟩) 2 c) from rfl);clear K2 K3 K4 M2 S2 B2 O2 F2 S3 B3 O3 F3 S4 F4 d0 k0 EQ B4;go_wp2
  clear d4;go_loopw [40] (λi wr=>∃j:Nat,j<=1∧i = .int .i64 j∧Hd (KqN G wr (R0.bind (dX bl ([b].take j))) zs k)∧Hd (Own wr 3 1 (.slice (some ⟨kb,0,none⟩) 2 c) 2 (ints [a,b]))∧Hd (FrK G w wr)) (λi _=>1 - (intOf i).toNat)
  case atStart=>exact⟨0,aA4 _,rfl,N0,O4,FF⟩
  case round=>
    clear N0 O4 FF;obtain⟨j,hj,rfl,NQ,O,F⟩:=hrel;by_cases hlt:j<1
    . obtain⟨s5,e5,p5,hck,hm⟩:=NQ.o.open_ HM.o
      obtain⟨_,_,-,-,-,-,-,-,-,-,-,c0,-⟩:=hck.cells;have c0:wr.cell? ⟨G.g,0,none⟩=some (.int .i64 (e5:Nat)):=c0;have hlt2:(j:Int)<1:=by omega
      obtain⟨y,hy⟩:∃y,[b][j]?=some y:=⟨_,gE hlt⟩;have k1:wr.cell? ⟨kb,1+j,none⟩=some (.int .i64 (y:Nat)):=cell_of O (by decide) (by rw[Nat.add_comm];show (ints [b])[j]?=_;unfold ints;rw[List.getElem?_map,hy];rfl);have ST:=hD (yZ (st:=bl) R0 hy);have HJ:=hD hlt;have HYM:=hD (HBL y (List.mem_of_getElem? hy));have KB':=hD (show ∀b,blk (.slice (some ⟨kb,0,none⟩) 2 c)=some b->b≠G.g∧b≠G.bt∧b≠G.bs∧b≠G.bf from λb hb=>by rw[aQ (by decide) hc1] at hb;injection hb with hb;subst hb;exact KB);by_cases he:e5=0
      . have heb:((e5:Int)==0)=true:=by rw[he];rfl
        have KG:=hD (show Kq G wr s5 zs k 0 0∧R0.bind (dX bl ([b].take j)) = .good s5 from by
         rcases hm with ⟨h1,h2,h3⟩|⟨h1,_⟩
         . have h9:=NQ.o;rw[h3] at h9;exact⟨h9,h3⟩
         . exact absurd he h1)
        clear hck hm hy hlt he hj;go_wp2_with fail
        refine (HYM wr s5 KG.o.1).mono ?_;rintro en w6 ⟨rfl,h6,f6⟩;have N6:=hD (show KqN G w6 (R0.bind (dX bl ([b].take (j+1)))) zs k from by rw[ST.o,KG.o.2];exact h6);have F6:=hD (F.o.trans f6);have O6:=hD (f6.own O (by decide) KB');clear h6 f6 k1 c0 NQ O F KG HYM;go_wp2
        go_roundw
        case rel=>exact⟨j+1,by have:=HJ.o;omega,by go_num,N6,O6,F6⟩
        case measure=>simp[intOf];have:=HJ.o;omega
      . have heb:((e5:Int)==0)=false:=bN.2 (by omega)
        have N6:=hD (show KqN G wr (R0.bind (dX bl ([b].take (j+1)))) zs k from by
         have h9:=NQ.o;rcases hm with ⟨h1,_⟩|⟨h1,h2,h3⟩
         . exact absurd h1 he
         . rw[h3] at h9;rw[ST.o,h3];exact h9)
        clear hck hm hy hlt he hj;go_wp2
        clear NQ k1 c0;go_roundw
        case rel=>exact⟨j+1,by have:=HJ.o;omega,by go_num,N6,O,F⟩
        case measure=>simp[intOf];have:=HJ.o;omega
    . have hlt2:¬(j:Int)<1:=by omega
      have HT:Hd ([b].take j=[b]):=aA5 (by simp;omega);clear hlt hj;go_wp2
      refine fK rfl rfl ⟨rfl,?_,F⟩;rw[EQ2.o,<-HT.o];exact NQ.o
theorem aDx {kd:Nat} (hkd:kd=15) (hM:G.M=24){a d:Nat} (hx:G.ns[x]?=some ⟨kd,line,0,[],[a,b,d]⟩) (ha:iE 170 G zs k a (ex a)) (hbl:∀y∈[b,d],aKt G zs k bl y):uF G zs k (λx s=>fI G.fs k ex bl x ⟨kd,line,0,[],[a,b,d]⟩ s) x ⟨kd,line,0,[],[a,b,d]⟩:=λw s A c h ho hlow=>by
 have ho:Own w 3 1 (.slice A 3 c) 3 (ints [a,b,d]):=ho;have HG:=hD h.geo;have HM:=hD hM;have HLO:Hd (∀b,blk (.slice A 3 c)=some b->b<G.B):=hlow;have hxl:=(gK hx);have hx3:(x:Int)<(G.ns.length:Int):=by omega
 have hx4:(G.ns.length:Int)<=300:=by have:=h.geo.few;omega
 have FA:Hd (Fr nob w (w.alloc (.cells #[.int .i64 kd,.int .i64 line,.int .i64 0,.string (bs []),.slice A 3 c] 50))):=(fR w).alloc _;have B1:=hD (Blk.new w 50 #[.int .i64 kd,.int .i64 line,.int .i64 0,.string (bs []),.slice A 3 c]);have S1:Hd (Kq G _ s zs k 0 0):=h.no FA;have O1:=hD (ho.fr FA (λ_ _ x=>x));have GN:=hD (show w.heap.size≠G.g∧w.heap.size≠G.bt∧w.heap.size≠G.bs∧w.heap.size≠G.bf from by have:=h.geo.lg;have:=h.geo.lt;have:=h.geo.ls;have:=h.geo.lf;have:=h.zle;exact⟨by omega,by omega,by omega,by omega⟩);have HA:=hD ha;have HBL:=hD hbl;have e10:((kd:Int)==10)=false:=by subst hkd;rfl
 have e11:((kd:Int)==11)=false:=by subst hkd;rfl
 have e12:((kd:Int)==12)=false:=by subst hkd;rfl
 have e13:((kd:Int)==13)=false:=by subst hkd;rfl
 have e14:((kd:Int)==14)=false:=by subst hkd;rfl
 have e17:((kd:Int)==17)=false:=by subst hkd;rfl
 have EQ:=hD (show fI G.fs k ex bl x ⟨kd,line,0,[],[a,b,d]⟩ s=((CkR.good (bK k x s)).bind (ex a)).bind λr=>if r.1=2 then dX bl [b,d] r.2 else .bad 42 x from by subst hkd;rfl);clear ha hbl hkd h ho hlow hM hx hxl;dsimp only[List.length_cons,List.length_nil];go_enter func145,ntmps145;go_upto_region 1 with fail;generalize w.alloc (.cells #[.int .i64 kd,.int .i64 line,.int .i64 0,.string (bs []),.slice A 3 c] 50)=w0 at *;generalize hT:w.heap.size=T at *;obtain⟨_,_,-,-,-,-,c6,-,c8,-⟩:=S1.o.cells;go_wp2_with fail
 go_still_tail 11,(by kernel_rfl)
 change wpList _ _ _ _ _ w0.drew;clear c6 c8;have SD:=hD (S1.o.no (fR w0).drew);have BD:=hD (B1.o.fr (fR w0).drew (λx=>x));have OD:=hD (O1.o.fr (fR w0).drew (λ_ _ x=>x));have FD:Hd (FrK G w w0.drew):=FrK.no (FA.o.tr (fR w0).drew);clear S1 B1 O1 FA;generalize w0.drew=w1 at *;obtain⟨⟨u2,bf⟩,zf⟩:=SD.o.fn.gY (j:=x) (by omega);have S2:Hd (Kq G _ (bK k x s) zs k 0 0):=(SD.o.kI x k).1;have F2:=hD (FD.o.trans (SD.o.kI x k).2);have B2:=hD (BD.o.far (p:=⟨G.bf,x,none⟩) (λe=>GN.o.2.2.2 e) (.int .i64 (k:Nat)));have O2:=hD (OD.o.far (p:=⟨G.bf,x,none⟩) (λe=>by have h9:G.bf<G.B:=HLO.o _ e;have:=HG.o.hf;omega) (.int .i64 (k:Nat)));go_upto_region 2 with fail;clear bf zf SD BD OD FD;generalize w1.setCell ⟨G.bf,x,none⟩ (.int .i64 (k:Nat))=w2 at *;have d0:w2.cell? ⟨T,0,none⟩=some (.int .i64 kd):=(B2.o.cell 0).trans rfl;have d4:=(B2.o.cell 4).trans rfl;obtain⟨kb,e9,kc⟩:=O2.o.some (by simp);subst e9;have k0:=kc 0 (.int .i64 (a:Nat)) rfl;have hc1:3<=c:=by have:=O2.o.oH.1;omega
 have hc3:(3:Int)<=(c:Int):=by omega
 have KB:=hD (show kb≠G.g∧kb≠G.bt∧kb≠G.bs∧kb≠G.bf from by have:=HLO.o kb (aQ (by omega) (by omega));have:=HG.o.hg;have:=HG.o.ht;have:=HG.o.hs;have:=HG.o.hf;exact⟨by omega,by omega,by omega,by omega⟩);clear kc;have K2:=hD (And.intro d4 k0);have M2:Hd (KqM G w2 (.good (bK k x s)) zs k):=S2;go_wp2_with fail
 go_region_held3 (λwx=>wx.cell? ⟨T,4,none⟩=some (.slice (some ⟨kb,0,none⟩) 3 c)∧wx.cell? ⟨kb,0,none⟩=some (.int .i64 (a:Nat))) (first|exact K2.o|exact K3.o|exact K4) (first
  | (go_at_call 170;go_loud (refine (HA _ _ (M2.o.no ((fR w2).drew))).mono ?_);go_loud (rintro en w3 ⟨u,rfl,h3,f3⟩);go_loud (have S3:=hD h3);go_loud (have F3:=hD ((FrK.no ((fR w2).drew)).trans f3));go_loud (have B3:=hD (f3.far (B2.o.fr (fR w2).drew (λx=>x)) GN.o.1 GN.o.2.1 GN.o.2.2.1 GN.o.2.2.2 (by decide)));go_loud (have O3:=hD (f3.own (O2.o.fr (fR w2).drew (λ_ _ x=>x)) (by decide) (λb hb=>by rw[aQ (by decide) hc1] at hb;injection hb with hb;subst hb;exact KB)));go_loud (have K3:=hD (And.intro ((B3.o.cell 4).trans (show _=some (.slice (some ⟨kb,0,none⟩) 3 c) from rfl)) (cell_of (j:=0) (u:= .int .i64 (a:Nat)) O3 (by decide) rfl)));go_loud (clear h3 f3))
  | (go_at_call 95;go_loud (refine (S3.o.st.ask _ 42 x (by decide) (by decide)).mono ?_);go_loud (rintro en w4 ⟨rfl,h4,f4⟩);go_loud (have S4:=hD h4);go_loud (have F4:=hD (F3.o.trans (FrK.ofG f4)));go_loud (have B4:=hD (B3.o.fr f4 GN.o.1));go_loud (have O4:=hD (O3.o.fr f4 (λb hb e=>by rw[aQ (by decide) hc1] at hb;injection hb with hb;subst hb;exact KB.o.1 e)));go_loud (have K4:=hD (And.intro ((B4.o.cell 4).trans (show _=some (.slice (some ⟨kb,0,none⟩) 3 c) from rfl)) (cell_of (j:=0) (u:= .int .i64 (a:Nat)) O4 (by decide) rfl)));go_loud (clear h4 f4)))
 all_goals
  have N0:=hD (show KqN G w4 ((((CkR.good (bK k x s)).bind (ex a)).bind λr=>if r.1=2 then .good r.2 else .bad 42 x).bind (dX bl ([b,d].take 0))) zs k from by
    have h9:=S4.o;rw[aAm (P:=λa=>a=2) (b:=((u:Int)==2)) S3.o.val (by rw[Bool.eq_iff_iff];simp;omega)] at h9;have h8:=h9.toN HM.o;rw[show (((CkR.good (bK k x s)).bind (ex a)).bind λr=>if r.1=2 then CkR.good r.2 else .bad 42 x).bind (dX bl ([b,d].take 0))=((CkR.good (bK k x s)).bind (ex a)).bind λr=>if r.1=2 then .good r.2 else .bad 42 x from aCo _];exact h8)
  have FF:=hD (F2.o.trans F4);have EQ2:=hD (show fI G.fs k ex bl x ⟨kd,line,0,[],[a,b,d]⟩ s=(((CkR.good (bK k x s)).bind (ex a)).bind λr=>if r.1=2 then .good r.2 else .bad 42 x).bind (dX bl [b,d]) from by
    rw[EQ.o];exact xI _)
  generalize (((CkR.good (bK k x s)).bind (ex a)).bind λr=>if r.1=2 then CkR.good r.2 else .bad 42 x)=R0 at *;have d4:=(B4.o.cell 4).trans (show _=some (Value.slice (some ⟨kb,0,none⟩) 3 c) from rfl);clear K2 K3 K4 M2 S2 B2 O2 F2 S3 B3 O3 F3 S4 F4 d0 k0 EQ B4;go_wp2
  clear d4;go_loopw [40] (λi wr=>∃j:Nat,j<=2∧i = .int .i64 j∧Hd (KqN G wr (R0.bind (dX bl ([b,d].take j))) zs k)∧Hd (Own wr 3 1 (.slice (some ⟨kb,0,none⟩) 3 c) 3 (ints [a,b,d]))∧Hd (FrK G w wr)) (λi _=>2 - (intOf i).toNat)
  case atStart=>exact⟨0,aA4 _,rfl,N0,O4,FF⟩
  case round=>
    clear N0 O4 FF;obtain⟨j,hj,rfl,NQ,O,F⟩:=hrel;by_cases hlt:j<2
    . obtain⟨s5,e5,p5,hck,hm⟩:=NQ.o.open_ HM.o
      obtain⟨_,_,-,-,-,-,-,-,-,-,-,c0,-⟩:=hck.cells;have c0:wr.cell? ⟨G.g,0,none⟩=some (.int .i64 (e5:Nat)):=c0;have hlt2:(j:Int)<2:=by omega
      obtain⟨y,hy⟩:∃y,[b,d][j]?=some y:=⟨_,gE hlt⟩;have k1:wr.cell? ⟨kb,1+j,none⟩=some (.int .i64 (y:Nat)):=cell_of O (by decide) (by rw[Nat.add_comm];show (ints [b,d])[j]?=_;unfold ints;rw[List.getElem?_map,hy];rfl);have ST:=hD (yZ (st:=bl) R0 hy);have HJ:=hD hlt;have HYM:=hD (HBL y (List.mem_of_getElem? hy));have KB':=hD (show ∀b,blk (.slice (some ⟨kb,0,none⟩) 3 c)=some b->b≠G.g∧b≠G.bt∧b≠G.bs∧b≠G.bf from λb hb=>by rw[aQ (by decide) hc1] at hb;injection hb with hb;subst hb;exact KB);by_cases he:e5=0
      . have heb:((e5:Int)==0)=true:=by rw[he];rfl
        have KG:=hD (show Kq G wr s5 zs k 0 0∧R0.bind (dX bl ([b,d].take j)) = .good s5 from by
         rcases hm with ⟨h1,h2,h3⟩|⟨h1,_⟩
         . have h9:=NQ.o;rw[h3] at h9;exact⟨h9,h3⟩
         . exact absurd he h1)
        clear hck hm hy hlt he hj;go_wp2_with fail
        refine (HYM wr s5 KG.o.1).mono ?_;rintro en w6 ⟨rfl,h6,f6⟩;have N6:=hD (show KqN G w6 (R0.bind (dX bl ([b,d].take (j+1)))) zs k from by rw[ST.o,KG.o.2];exact h6);have F6:=hD (F.o.trans f6);have O6:=hD (f6.own O (by decide) KB');clear h6 f6 k1 c0 NQ O F KG HYM;go_wp2
        go_roundw
        case rel=>exact⟨j+1,by have:=HJ.o;omega,by go_num,N6,O6,F6⟩
        case measure=>simp[intOf];have:=HJ.o;omega
      . have heb:((e5:Int)==0)=false:=bN.2 (by omega)
        have N6:=hD (show KqN G wr (R0.bind (dX bl ([b,d].take (j+1)))) zs k from by
         have h9:=NQ.o;rcases hm with ⟨h1,_⟩|⟨h1,h2,h3⟩
         . exact absurd h1 he
         . rw[h3] at h9;rw[ST.o,h3];exact h9)
        clear hck hm hy hlt he hj;go_wp2
        clear NQ k1 c0;go_roundw
        case rel=>exact⟨j+1,by have:=HJ.o;omega,by go_num,N6,O,F⟩
        case measure=>simp[intOf];have:=HJ.o;omega
    . have hlt2:¬(j:Int)<2:=by omega
      have HT:Hd ([b,d].take j=[b,d]):=aA5 (by simp;omega);clear hlt hj;go_wp2
      refine fK rfl rfl ⟨rfl,?_,F⟩;rw[EQ2.o,<-HT.o];exact NQ.o
end
section
variable {G:Geo}{w w':World}{s:CkS}{r r':CkR CkS}{zs:List Nat}{k e p:Nat}{ex:Nat->CkS->CkR (Nat×CkS)}
theorem Kq.cut (h:Kq G w s zs k e p){VA:Option Addr}{VC:Nat} (hv:w.cell? (G.g,9)=some (.slice VA s.vars.length VC)) (hm:m<=s.vars.length) (hL:G.L<=m):
   Kq G (w.setCell (G.g,U9) (.slice VA m VC)) { s with vars:=s.vars.take m } zs k e p∧FrK G w (w.setCell (G.g,U9) (.slice VA m VC)):=by
 obtain⟨zv,vv,hb,hz0,hz2,hv0,hv2⟩:=h.ex;have e7:w.cell? (G.g,9)=some vv:=by rw[hb.cell];rfl
 rw[e7] at hv;injection hv with hv;subst hv;obtain⟨n1,n2,n3⟩:=h.gne;have hB:=h.geo.hg;have hc:=(hv0.cut hm).far (p:=(G.g,U9)) ((hv0.cut hm).aD hb (by decide)) (.slice VA m VC);rw[kF] at hc;have hlen:(s.vars.take m).length=m:=by rw[List.length_take];omega
 refine⟨⟨h.geo,h.tree.keep (λb hb=>?_) (by simp),⟨zv,.slice VA m VC,hb.setCell 9 _,hz0.far (p:=(G.g,U9)) (hz0.aD hb (by decide)) _,hz2,by rw[hlen];exact hc,λb hb=>hv2 b ?_⟩,
   h.types.far (p:=(G.g,U9)) (h.types.aD hb (by decide)) _,h.slots.far (p:=(G.g,U9)) (h.slots.aD hb (by decide)) _,h.fn.far (p:=(G.g,U9)) (h.fn.aD hb (by decide)) _,h.kk,h.size,h.fine,by show (s.vars.take m).length<=s.size;rw[hlen];have:=h.vars;omega,h.zs,by simpa using h.zle,by show G.L<=(s.vars.take m).length;rw[hlen];exact hL⟩,
   ((Fr.refl (bY G.g) w).setCell (G.g,U9) _ (λ_=>rfl)).mono (λk _ e=> .inl e)⟩
 . exact Below.heap_setCell w (G.g,U9) _ b (by show b≠G.g;omega)
 . cases VA with
   | none=>simp[blk] at hb
   | some a=>simp[blk] at hb ⊢;exact hb
theorem FrK.aSm (h:FrK (G.atL m) w w'):FrK G w w':=h
theorem Kq.atL (h:Kq G w s zs k e p) (hm:m<=s.vars.length):Kq (G.atL m) w s zs k e p:=
 ⟨h.geo.atL m,h.tree,h.ex,h.types,h.slots,h.fn,h.kk,h.size,h.fine,h.vars,h.zs,h.zle,hm⟩
theorem Kq.aSm (h:Kq (G.atL m) w s zs k e p) (hg:gN G) (hm:G.L<=m):Kq G w s zs k e p:=
 ⟨hg,h.tree,h.ex,h.types,h.slots,h.fn,h.kk,h.size,h.fine,h.vars,h.zs,h.zle,Nat.le_trans hm h.low⟩
theorem aAh (hM:G.M=24){l:List Nat} (h:Kq G w s zs k 0 0) (hx:G.ns[x]?=some ⟨18,line,0,[],l⟩) (hl:∀y∈l,∃nd,G.ns[y]?=some nd∧uF (G.atL s.vars.length) zs k st y nd):
  Calls prog 98 #[(G.g,()),x] w (aGd G zs k ((dX st l (bK k x s)).map λr=>{ r with vars:=r.vars.take s.vars.length }) w):=by
 have hx3:(x:Int)<(G.ns.length:Int):=by have:=(gK hx);omega
 have hx4:(G.ns.length:Int)<=300:=by have:=h.geo.few;omega
 have hx5:x<G.ns.length:=by omega
 have hl3:l.length<=300:=h.geo.fewk _ (List.mem_of_getElem? hx);have hl4:(l.length:Int)<=300:=by omega
 have HM:=hD hM;have HL:=hD hl;have HX:=hD hx;have HG:=hD h.geo;have hvn:s.vars.length<=24:=by have:=h.vars;have:=h.size;omega
 have hvn2:(s.vars.length:Int)<=24:=by omega
 obtain⟨m,hm⟩:∃m,s.vars.length=m:=⟨_,rfl⟩;have K1:Hd (Kq (G.atL m) w s zs k 0 0):=h.atL (by omega);have HLO:=hD (show G.L<=m from by have:=h.low;omega);obtain⟨_,_,-,-,-,-,c6,-,c8,-⟩:=h.cells;have S1:=hD (K1.o.no (fR w).drew);have F1:Hd (FrK G w w.drew):=FrK.no (fR w).drew;rw[hm] at hvn hvn2 HL ⊢;clear h hx hl hM K1;go_enter func98,ntmps98;go_wp2_with fail
 go_still_tail 11,(by kernel_rfl)
 change wpList _ _ _ _ _ w.drew;clear c6 c8;generalize w.drew=w1 at *;obtain⟨⟨u2,bf⟩,zf⟩:=(show Own w1 3 1 (G.bf,G.ns.length,G.cf) G.ns.length (ints s.fn) from S1.o.fn).gY (j:=x) hx5;have S3:Hd (Kq (G.atL m) (w1.setCell (G.bf,x) k) (bK k x s) zs k 0 0):=(S1.o.kI x k).1;have F3:Hd (FrK G w (w1.setCell (G.bf,x) k)):=F1.o.trans (S1.o.kI x k).2;go_upto_region 1 with fail;clear bf zf S1 F1;generalize w1.setCell (G.bf,x) k=w2 at *;obtain⟨zv,vv,hbl,-,-,hvo,-⟩:=S3.o.ex;obtain⟨VA,VC,rfl,-,-⟩:=hvo.cap;have c9:w2.cell? (G.g,9)=some (.slice VA m VC):=by rw[<-hm];exact (hbl.cell 9).trans rfl
 clear hbl hvo;go_wp2_with fail
 refine (nU S3 HX).mono ?_;rintro en w3 ⟨⟨A,c,rfl,ho,hlow⟩,hf⟩;have S4:Hd (KqN (G.atL m) w3 (dX st (l.take 0) (bK k x s)) zs k):=S3.o.no hf;have F4:=hD (F3.o.trans (FrK.no hf));have HO:=hD ho;have HB:=hD hlow;clear ho hlow hf S3 F3 c9;have ff:=λ(a b c d e:Value) (w:World)=>show (Instr.field 50 (.agg #[a,b,c,d,e]) 4).run prog w = .ok e w from by kernel_rfl
 go_wp2
 clear ff;go_loopw [28] (λi wr=>∃j:Nat,j<=l.length∧i = .int .i64 j∧Hd (KqN (G.atL m) wr (dX st (l.take j) (bK k x s)) zs k)∧Hd (Own wr 3 1 (.slice A l.length c) l.length (ints l))∧Hd (FrK G w wr)) (λi _=>l.length - (intOf i).toNat)
 case atStart=>exact⟨0,aA4 _,rfl,S4,HO,F4⟩
 case round=>
  clear S4 HO F4;obtain⟨j,hj,rfl,N,O,FR⟩:=hrel;obtain⟨s5,e5,p5,hck,hm5⟩:=N.o.open_ (show (G.atL m).M=24 from HM);obtain⟨_,_,-,-,-,-,-,-,-,-,-,c0,-⟩:=hck.cells;have c0:wr.cell? (G.g,0)=e5:=c0;by_cases hlt:j<l.length
  . have hlt2:(j:Int)<(l.length:Int):=by omega
    obtain⟨y,hy⟩:∃y,l[j]?=some y:=⟨_,gE hlt⟩;obtain⟨tb,e9,htc⟩:=O.o.some (by omega);subst e9;have k1:=htc j y (by simp[ints,hy]);obtain⟨nd,hnd,hst⟩:=HL.o y (List.mem_of_getElem? hy);have HND:=hD hnd;have HST:=hD hst;have ST:=hD (show dX st (l.take (j+1)) (bK k x s)=(dX st (l.take j) (bK k x s)).bind (st y) from by rw[show l.take (j+1)=l.take j++[y] by rw[List.take_add_one,hy];rfl,iJ]);have HJ:=hD hlt;have LOW:=hD (show ∀b,blk (tb,l.length,c)=some b->b≠G.g∧b≠G.bt∧b≠G.bs∧b≠G.bf from λb hb=>by have h9:b<G.B:=HB.o b hb;have:=HG.o.hg;have:=HG.o.ht;have:=HG.o.hs;have:=HG.o.hf;exact⟨by omega,by omega,by omega,by omega⟩);by_cases he:e5=0
    . have heb:((e5:Int)==0)=true:=by rw[he];rfl
      have KG:=hD (show Kq (G.atL m) wr s5 zs k 0 0∧dX st (l.take j) (bK k x s) = .good s5 from by
        rcases hm5 with ⟨h1,h2,h3⟩|⟨h1,_⟩
        . have h9:=N.o;rw[h3] at h9;exact⟨h9,h3⟩
        . exact absurd he h1)
      clear hck hm5 hy hlt he hj hnd hst htc;go_wp2_with fail
      refine (nU KG.o.1 HND).mono ?_;rintro en w6 ⟨⟨A6,c6,rfl,ho6,hlow6⟩,f6⟩;have HS:=hD (HST w6 s5 A6 c6 (KG.o.1.no f6) ho6 hlow6);have O6:=hD (O.o.fr f6 (λ_ _ x=>x));have F6:=hD (FR.o.trans (FrK.no f6));clear ho6 hlow6 f6 k1 c0 N O FR HST HND;go_wp2_with fail
      refine HS.o.mono ?_;rintro en w7 ⟨rfl,h7,f7⟩;have N7:=hD (show KqN (G.atL m) w7 (dX st (l.take (j+1)) (bK k x s)) zs k from by rw[ST.o,KG.o.2];exact h7);have F7:=hD (F6.o.trans (show FrK G w6 w7 from f7));have O7:=hD (FrK.own (G:=G) f7 O6 (by decide) LOW);clear h7 f7 O6 F6 HS KG;go_wp2
      go_roundw
      case rel=>exact⟨j+1,by have:=HJ.o;omega,by go_num,N7,O7,F7⟩
      case measure=>simp[intOf];have:=HJ.o;omega
    . have heb:((e5:Int)==0)=false:=bN.2 (by omega)
      have N7:=hD (show KqN (G.atL m) wr (dX st (l.take (j+1)) (bK k x s)) zs k from by
        have h9:=N.o;rcases hm5 with ⟨h1,_⟩|⟨h1,h2,h3⟩
        . exact absurd h1 he
        . rw[h3] at h9;rw[ST.o,h3];exact h9)
      clear hck hm5 hy hlt he hj hnd hst htc;go_wp2
      clear N k1 c0;go_roundw
      case rel=>exact⟨j+1,by have:=HJ.o;omega,by go_num,N7,O,FR⟩
      case measure=>simp[intOf];have:=HJ.o;omega
  . have hlt2:¬(j:Int)<(l.length:Int):=by omega
    have HT:Hd (l.take j=l):=aA5 (by omega);have HMO:=hD (show fO (dX st l (bK k x s)) s5 e5 p5 from by rw[HT.o] at hm5;exact hm5);obtain⟨zv,vv,hbl,-,-,hvo,-⟩:=hck.ex;obtain⟨VA,VC,rfl,hvc,-⟩:=hvo.cap;have hbl2:Blk wr G.g 94 (jS (G.atL m).more zv (.slice VA s5.vars.length VC) k s5.size e5 p5):=hbl;have c9:wr.cell? (G.g,9)=some (.slice VA s5.vars.length VC):=(hbl2.cell 9).trans rfl;have f9:=hbl2.frozen 9;have glt:=hbl2.lt;have hlo:m<=s5.vars.length:=hck.low;have hmv:(m:Int)<=(VC:Int):=by omega
    have hm0:(0:Int)<=(m:Int):=by omega
    have SC:=hD (hck.cut c9 hlo (show m<=m from aA1 m));have NF:=hD (show KqN G (wr.setCell (G.g,U9) (.slice VA m VC)) ((dX st l (bK k x s)).map λr=>{ r with vars:=r.vars.take m }) zs k from by
      have h9:=SC.o.1;rcases HMO.o with ⟨h1,h2,h3⟩|⟨h1,h2,h3⟩
      . rw[h3];subst h1;subst h2
        exact (Kq.less (G:=G.atL m) h9 (HG.o.atL m) HM).aSm HG HLO.o
      . rw[h3]
        exact⟨h1,h2,_,Kq.aSm (G:=G.more) (m:=m) h9 (HG.o.more (by have:=HM.o;omega)) HLO⟩)
    have FF:Hd (FrK G w (wr.setCell (G.g,U9) (.slice VA m VC))):=FR.o.trans SC.o.2;clear hck hm5 hbl hbl2 hvo SC hlt hj c0 hvc hlo;go_wp2
    exact fK rfl rfl ⟨rfl,NF,FF⟩
theorem uS:∀(f x:Nat) (nd:aF) (G:Geo),gN G->G.M=24->x<f->G.ns[x]?=some nd->nd.kind=18->aKt G zs k (eT G.ns G.fs k f) x
 | 0,x,nd,_,_,_,h,_,_=>absurd h (Nat.not_lt_zero _)
 | f+1,x,nd,G,hg,hM,h,hx,h18=>by
  intro w s hck;have hE:∀n,iV n=true->kC n=true:=λn h=>by unfold kC;rw[h];rfl
  have key:∀{cls:Nat->Bool} {a:Nat},(∀n,cls n=true->kC n=true)->Kid G.ns cls a->iE 170 (G.atL s.vars.length) zs k a (eO G.ns G.fs k G.ns.length a):=λ{cls a} hc hk=>by
   obtain⟨c,hc1,hc2⟩:=hk;exact xX G.ns.length a c (G.atL s.vars.length) (hg.atL _) (gK hc1) hc1 (hc _ hc2)
  have hC:∀n,aNn n=true->kC n=true:=λn h=>by simp[aNn] at h;subst h;decide
  have hok:=hg.ok.nodes x nd hx;cases hok with
  | block line l hk=>
   have:=aAh (st:=λa s=>match G.ns[a]? with
    | none=> .bad 95 0
    | some na=>fI G.fs k (eO G.ns G.fs k G.ns.length) (eT G.ns G.fs k f) a na s) hM hck hx (λy hy=>by
    obtain⟨hlt,c,hc1,hc2⟩:=(hk y hy).take;have hok2:=hg.ok.nodes y c hc1;have kb:∀{b:Nat},Kid (G.ns.take y) pO b->aKt (G.atL s.vars.length) zs k (eT G.ns G.fs k f) b:=λ{b} hb=>by
     obtain⟨hlt2,d,hd1,hd2⟩:=hb.take;exact uS f b d (G.atL s.vars.length) (hg.atL _) hM (by omega) hd1 (by simpa[pO] using hd2)
    refine⟨c,hc1,?_⟩;intro w2 s2 A2 c2 hck2 ho hlow;simp only[hc1];have one:∀{a:Nat},iE 170 (G.atL s.vars.length) zs k a (eO G.ns G.fs k G.ns.length a)->∀i∈[a],iE 170 (G.atL s.vars.length) zs k i (eO G.ns G.fs k G.ns.length i):=λ{a} h i hi=>by rw[List.mem_singleton.1 hi];exact h
    cases hok2 with
    | let_ line nm a ha=>exact aLz (G:=G.atL s.vars.length) hM hc1 (key (λ_ h=>h) ha.take.2) w2 s2 A2 c2 hck2 ho hlow
    | set line nm a ha=>exact aLx (G:=G.atL s.vars.length) hM hc1 (key (λ_ h=>h) ha.take.2) w2 s2 A2 c2 hck2 ho hlow
    | put line nm a b ha hb=>exact aLy (G:=G.atL s.vars.length) hM hc1 (λi hi=>by
      rcases List.mem_cons.1 hi with e|hi
      . rw[e];exact key hE ha.take.2
      . rw[List.mem_singleton.1 hi];exact key hE hb.take.2) w2 s2 A2 c2 hck2 ho hlow
    | do_ line a ha=>exact aPc (G:=G.atL s.vars.length) hM hc1 (key hC ha.take.2) w2 s2 A2 c2 hck2 ho hlow
    | print line a ha=>exact aDy (G:=G.atL s.vars.length) hM hc1 (key hE ha.take.2) w2 s2 A2 c2 hck2 ho hlow
    | if2 line a b ha hb=>exact uR (G:=G.atL s.vars.length) (.inl rfl) hM hc1 (key hE ha.take.2) (λy hy=>by rw[List.mem_singleton.1 hy];exact kb hb) w2 s2 A2 c2 hck2 ho hlow
    | if3 line a b d ha hb hd=>exact aDx (G:=G.atL s.vars.length) rfl hM hc1 (key hE ha.take.2) (λy hy=>by
      rcases List.mem_cons.1 hy with e|hy
      . rw[e];exact kb hb
      . rw[List.mem_singleton.1 hy];exact kb hd) w2 s2 A2 c2 hck2 ho hlow
    | loop line a b ha hb=>exact uR (G:=G.atL s.vars.length) (.inr rfl) hM hc1 (key hE ha.take.2) (λy hy=>by rw[List.mem_singleton.1 hy];exact kb hb) w2 s2 A2 c2 hck2 ho hlow
    | ret0 line=>exact aHr (G:=G.atL s.vars.length) hM hc1 (λi hi=>by cases hi) w2 s2 A2 c2 hck2 ho hlow
    | ret1 line a ha=>exact aHq (G:=G.atL s.vars.length) hM hc1 (one (key hE ha.take.2)) w2 s2 A2 c2 hck2 ho hlow
    | _=>simp[mM] at hc2)
   have e1:eT G.ns G.fs k (f+1) x s=(dX (λa s=>match G.ns[a]? with
    | none=> .bad 95 0
    | some na=>fI G.fs k (eO G.ns G.fs k G.ns.length) (eT G.ns G.fs k f) a na s) l (bK k x s)).map λr=>{ r with vars:=r.vars.take s.vars.length }:=by
    rw[eT,hx];rfl
   rw[e1];exact this
  | _=>simp at h18
end
def Geo.atZ (G:Geo) (z:Nat):Geo:={ G with Z:=z }
theorem iY (b:Nat) (q:List UInt8×Nat):∀(l:List (List UInt8×Nat)) (vs:List bT),iL b (l++[q]) vs=(iL b l vs).bind λvs=>if (dV vs q.1).isSome then .bad 41 b else .good (vs++[⟨q.1,q.2,vs.length⟩])
 | [],vs=>by
  show (if (dV vs q.1).isSome=true then CkR.bad 41 b else .good (vs++[⟨q.1,q.2,vs.length⟩]))=(CkR.good vs).bind _
  rw[CkR.aC]
 | a :: l,vs=>by
  show (if (dV vs a.1).isSome=true then CkR.bad 41 b else iL b (l++[q]) (vs++[⟨a.1,a.2,vs.length⟩]))=(if (dV vs a.1).isSome=true then CkR.bad 41 b else iL b l (vs++[⟨a.1,a.2,vs.length⟩])).bind _
  by_cases h:(dV vs a.1).isSome=true
  . rw[if_pos h,if_pos h];rfl
  . rw[if_neg h,if_neg h];exact iY b q l _
section
variable {G:Geo}{w w':World}
theorem gN.z (h:gN G){z:Nat} (h1:G.g<z) (h2:G.bt<z) (h3:G.bs<z) (h4:G.bf<z):gN (G.atZ z):=
 ⟨h.hM,h.hg,h.ht,h.hs,h.hf,h1,h2,h3,h4,h.ts,h.tf,h.sf,h.pos,h.few,h.fewf,h.fewp,h.fewk,h.ok⟩
theorem FrK.toB (f:FrK G w w') (hg:gN G):Fr (λb=>G.B<=b) w w':=f.mono λb _ hm=>by
 rcases hm with x|x|x|x|⟨x,_⟩
 . rw[x];exact hg.hg
 . rw[x];exact hg.ht
 . rw[x];exact hg.hs
 . rw[x];exact hg.hf
 . exact x
end
section
variable {G:Geo}{w w':World}{s:CkS}{zs:List Nat}{k e p:Nat}
theorem Kq.z (h:Kq G w s zs k e p):Kq (G.atZ w.heap.size) w s zs k e p:=by
 obtain⟨zv,vv,hb,hz0,hz2,hv0,hv2⟩:=h.ex;exact⟨h.geo.z h.jK (h.types.aZ h.vK) (h.slots.aZ h.tF) (h.fn.aZ h.vL),h.tree,⟨zv,vv,hb,hz0,λb hb=>⟨(hz2 b hb).1,(hz2 b hb).2.1,(hz2 b hb).2.2.1,(hz2 b hb).2.2.2.1,hz0.aZ hb⟩,hv0,hv2⟩,
  h.types,h.slots,h.fn,h.kk,h.size,h.fine,h.vars,h.zs,aA1 _,h.low⟩
theorem Kq.aPo (h:Kq G.more w s zs k e p) (hg:gN G) (hM:s.size<=G.M):Kq G w s zs k e p:=
 ⟨hg,h.tree,h.ex,h.types,h.slots,h.fn,h.kk,hM,h.fine,h.vars,h.zs,h.zle,h.low⟩
theorem Kq.aSn (h:Kq G w s zs k e p) (hL:G.L=0):Kq G (w.setCell (G.g,U9) Un) { s with vars:=[] } zs k e p∧FrK G w (w.setCell (G.g,U9) Un):=by
 obtain⟨zv,vv,hb,hz0,hz2,hv0,hv2⟩:=h.ex;have hB:=h.geo.hg;refine⟨⟨h.geo,h.tree.keep (λb hb=>?_) (by simp),⟨zv,Un,hb.setCell 9 _,hz0.far (p:=(G.g,U9)) (hz0.aD hb (by decide)) _,hz2,Own.nil _ _ _,λb hb=>by simp[blk] at hb⟩,
  h.types.far (p:=(G.g,U9)) (h.types.aD hb (by decide)) _,h.slots.far (p:=(G.g,U9)) (h.slots.aD hb (by decide)) _,h.fn.far (p:=(G.g,U9)) (h.fn.aD hb (by decide)) _,h.kk,h.size,h.fine,aA4 _,h.zs,by simpa using h.zle,by show G.L<=0;omega⟩,
  ((Fr.refl (bY G.g) w).setCell (G.g,U9) _ (λ_=>rfl)).mono (λk _ e=> .inl e)⟩
 exact Below.heap_setCell w (G.g,U9) _ b (by show b≠G.g;omega)
theorem Kq.aSe (h:Kq G w s zs k e p){zv:Value} (hzv:w.cell? (G.g,7)=some zv){o:Obj}{A:Option Addr}{c:Nat}
   (ho:Own w' 3 1 (.slice A (zs.length+1) c) (zs.length+1) (ints zs++[.int .i64 (s.size:Nat)]))
   (hf:Fr (obl (blk zv)) (w.alloc o) w') (hv:blk (.slice A (zs.length+1) c)=blk zv∨blk (.slice A (zs.length+1) c)=some (w.alloc o).heap.size) (hzl:zs.length<=900):
   Kq (G.atZ (w'.setCell (G.g,U7) (.slice A (zs.length+1) c)).heap.size) (w'.setCell (G.g,U7) (.slice A (zs.length+1) c)) s (zs++[s.size]) k e p ∧
   Fr (λb=>G.B<=b) w (w'.setCell (G.g,U7) (.slice A (zs.length+1) c)):=by
 obtain⟨zv',vv,hb,hz0,hz2,hv0,hv2⟩:=h.ex;have e5:w.cell? (G.g,7)=some zv':=by rw[hb.cell];rfl
 rw[e5] at hzv;injection hzv with hzv;subst hzv;have hBg:=h.geo.hg;have hBt:=h.geo.ht;have hBs:=h.geo.hs;have hBf:=h.geo.hf;have hle:G.B<=w.heap.size:=h.tree.le;have gt:=h.types.aZ h.vK;have gs:=h.slots.aZ h.tF;have gf:=h.fn.aZ h.vL;have gl:=h.jK;have f0:Fr nob w (w.alloc o):=(fR w).alloc o;have hsz:w.heap.size<w'.heap.size:=by have:=hf.size;simp at this;omega
 have hb1:Blk w' G.g 94 (jS G zv' vv k s.size e p):=(hb.fr f0 (λx=>x)).fr hf (λhm=>hz0.aD hb (by decide) hm);have own2:∀{e' n m:Nat} {v:Value} {xs:List Value},Own w e' m v n xs->(∀b,blk v=some b->¬obl (blk zv') b)->blk v≠some G.g->Own (w'.setCell (G.g,U7) (.slice A (zs.length+1) c)) e' m v n xs:=λho' hne hg=>
   ((ho'.fr f0 (λ_ _ x=>x)).fr hf hne).far (p:=(G.g,U7)) hg _
 have keep:∀b,b<G.B->(w'.setCell (G.g,U7) (.slice A (zs.length+1) c)).heap[b]?=w.heap[b]?:=λb hb'=>by
   rw[Below.heap_setCell _ _ _ _ (by show b≠G.g;omega),hf.block b (by simp;omega) (λhm=>by have:=(hz2 b hm).1;omega)];exact Below.heap_alloc _ _ _ (by omega)
 have nt:∀b,blk (G.bt,G.ns.length,G.ct)=some b->¬obl (blk zv') b:=λb hb' hm=>by
   rw[h.vK] at hb';injection hb' with hb';exact (hz2 b hm).2.1 hb'.symm
 have ns:∀b,blk (G.bs,G.ns.length,G.cs)=some b->¬obl (blk zv') b:=λb hb' hm=>by
   rw[h.tF] at hb';injection hb' with hb';exact (hz2 b hm).2.2.1 hb'.symm
 have nf:∀b,blk (G.bf,G.ns.length,G.cf)=some b->¬obl (blk zv') b:=λb hb' hm=>by
   rw[h.vL] at hb';injection hb' with hb';exact (hz2 b hm).2.2.2.1 hb'.symm
 have hzn:Own (w'.setCell (G.g,U7) (.slice A (zs.length+1) c)) 3 1 (.slice A (zs.length+1) c) (zs++[s.size]).length (ints (zs++[s.size])):=by
   rw[aA3,show ints (zs++[s.size])=ints zs++[.int .i64 (s.size:Nat)] by simp[ints]];exact ho.far (p:=(G.g,U7)) (ho.aD hb1 (by decide)) _
 refine⟨⟨h.geo.z (by simp;omega) (by simp;omega) (by simp;omega) (by simp;omega),h.tree.keep keep (by simp;omega),⟨.slice A (zs.length+1) c,vv,hb1.setCell 7 _,hzn,λb hb'=>?_,own2 hv0 (λb hb' hm=>by
     have h1:blk zv'=some b:=hm;exact hv0.fV hz0 (by decide) h1 hb') (hv0.aD hb (by decide)),hv2⟩,own2 h.types nt (h.types.aD hb (by decide)),own2 h.slots ns (h.slots.aD hb (by decide)),own2 h.fn nf (h.fn.aD hb (by decide)),h.kk,h.size,h.fine,h.vars,?_,aA1 _,h.low⟩,?_⟩
 . show G.B<=b∧b≠G.bt∧b≠G.bs∧b≠G.bf∧b<(w'.setCell (G.g,U7) (.slice A (zs.length+1) c)).heap.size
   rcases hv with h9|h9
   . rw[h9] at hb'
     obtain⟨a1,a2,a3,a4,a5⟩:=hz2 b hb';have:=hz0.aZ hb';exact⟨a1,a2,a3,a4,by simp;omega⟩
   . have hlt:=ho.aZ hb'
     rw[hb'] at h9;injection h9 with h9;simp at h9;exact⟨by omega,by omega,by omega,by omega,by simp;exact hlt⟩
 . rw[aA3];show zs.length+1<=1000;omega
 . refine Fr.trans (M1:=nob) f0 (M2:=λb=>G.B<=b) ?_ (λ_ _ x=>x.elim) (λ_ _ x=>x)
   exact Fr.trans (M1:=obl (blk zv')) hf ((Fr.refl (bY G.g) w').setCell (G.g,U7) _ (λ_=>rfl)) (λb _ hm=>(hz2 b hm).1) (λb _ hm=>by rw[show b=G.g from hm];exact hBg)
end
def aRu (G:Geo) (zs:List Nat) (k:Nat) (r:CkR CkS) (w:World):Prop:=match r with
 | .good s=>∃Z,Kq (G.atZ Z) w s (zs++[s.size]) k 0 0
 | .bad e p=>e≠0∧e<=99∧∃Z s' zs',Kq (G.atZ Z).more w s' zs' k e p
section
variable {G:Geo}{w w0 w':World}{s:CkS}{zs:List Nat}{k k0:Nat}
theorem aRu.no {r:CkR CkS} (h:aRu G zs k r w) (f:Fr nob w w'):aRu G zs k r w':=by
 cases r with
 | good s=>obtain⟨Z,h⟩:=h;exact⟨Z,h.no f⟩
 | bad e p=>obtain⟨h1,h2,Z,s',zs',h⟩:=h;exact⟨h1,h2,Z,s',zs',h.no f⟩
theorem aNd {wv:World}{s9:CkS}{R:CkR CkS}{e9 p9:Nat}{VA:Option Addr}{VC:Nat} (hM:G.M=24) (hG:gN G) (KV:Kq G.more wv s9 zs k e9 p9) (c7:wv.cell? (G.g,7)=some (.slice VA zs.length VC)) (MK:fO R s9 e9 p9) (FV:FrK G w0 wv) (hz:zs.length<=900):
   ∀(A6:Option Addr) (c6:Nat) (w6:World),Own w6 3 1 (.slice A6 (zs.length+1) c6) (zs.length+1) (ints zs++[.int .i64 (s9.size:Nat)])->Fr (obl (blk (.slice VA zs.length VC))) (wv.alloc (.cells #[s9.size] 3)).drew w6->(blk (.slice A6 (zs.length+1) c6)=blk (.slice VA zs.length VC)∨blk (.slice A6 (zs.length+1) c6)=some (wv.alloc (.cells #[s9.size] 3)).drew.heap.size) ->
    w6.frozen? (G.g,U7)=false∧w6.cell? (G.g,7)=some (.slice VA zs.length VC)∧G.g<w6.heap.size∧Hd (aRu G zs k R (w6.setCell (G.g,U7) (.slice A6 (zs.length+1) c6))∧Fr (λb=>G.B<=b) w0 (w6.setCell (G.g,U7) (.slice A6 (zs.length+1) c6))):=by
 intro A6 c6 w6 ho6 hf6 hv6;obtain⟨zv,vv,hbl,hzo,-,-,-⟩:=KV.ex;have e1:wv.cell? (G.g,7)=some zv:=by rw[show G.g=G.more.g from rfl,hbl.cell];rfl
 rw[e1] at c7;injection c7 with c7;subst c7;have HB:Blk _ G.g 94 (jS G.more (.slice VA zs.length VC) vv k s9.size e9 p9):=(hbl.alloc (.cells #[s9.size] 3)).fr ((fR _).drew) (λx=>x);have HV:=(hzo.alloc (.cells #[s9.size] 3)).fr ((fR _).drew) (λ_ _ x=>x);have h9:=KV.aSe (o:= .cells #[s9.size] 3) e1 ho6 (Fr.trans (M1:=nob) ((fR _).drew) hf6 (λ_ _ x=>x.elim) (λ_ _ x=>x)) (by simpa using hv6) hz;have HB6:=HB.fr hf6 (λhm=>HV.aD HB (by decide) hm);refine⟨HB6.frozen 7,by rw[HB6.cell];rfl,HB6.lt,?_,(FV.toB hG).tr h9.2⟩;rcases MK with ⟨h1,h2,h3⟩|⟨h1,h2,h3⟩
 . rw[h3]
   refine⟨(w6.setCell (G.g,U7) (.slice A6 (zs.length+1) c6)).heap.size,?_⟩;have h8:=h9.1;subst h1;subst h2;exact⟨gN.z hG h8.geo.lg h8.geo.lt h8.geo.ls h8.geo.lf,h8.tree,h8.ex,h8.types,h8.slots,h8.fn,h8.kk,by have:=h8.fine rfl;show s9.size<=G.M;omega,h8.fine,h8.vars,h8.zs,h8.zle,h8.low⟩
 . rw[h3]
   exact⟨h1,h2,(w6.setCell (G.g,U7) (.slice A6 (zs.length+1) c6)).heap.size,s9,zs++[s9.size],h9.1⟩
theorem vY (hM:G.M=24) (hL:G.L=0) (h:Kq G w s zs k0 0 0){f:aG} (hf:G.fs[k]?=some f) (hz:zs.length<=900){pv:Value} (hpv:G.pvs[k]?=some pv){PA:Option Addr}{PC:Nat} (hpe:pv = .slice PA f.params.length PC) (hBL:∀zs,aKt G zs k (eT G.ns G.fs k G.ns.length) f.body):
  Calls prog 60 #[.pointer (some ⟨G.g,0,none⟩),.int .i64 k,.agg #[.string (bs f.name),.int .i64 (f.line:Nat),.slice PA f.params.length PC,.int .i64 (f.ret:Nat),.int .i64 (f.body:Nat)]] w λen w'=>en = .returned (.tuple #[])∧aRu G zs k (gV G.ns G.fs k f s) w'∧Fr (λb=>G.B<=b) w w':=by
 subst hpe;have hkl:=(gK hf);have hpl:f.params.length<=3:=h.geo.fewp f (List.mem_of_getElem? hf);have hpl2:(f.params.length:Int)<=3:=by omega
 have HQ:=hD (And.intro hf hpv);have HM:=hD hM;have HG:=hD h.geo;have HZ:=hD hz;have HBL:=hD hBL;have B1:=hD (Blk.new w 48 #[.string (bs f.name),.int .i64 (f.line:Nat),.slice PA f.params.length PC,.int .i64 (f.ret:Nat),.int .i64 (f.body:Nat)]);have FA:Hd (Fr nob w (w.alloc (.cells #[.string (bs f.name),.int .i64 (f.line:Nat),.slice PA f.params.length PC,.int .i64 (f.ret:Nat),.int .i64 (f.body:Nat)] 48))):=(fR w).alloc _;have S1:=hD (h.no FA);have GN:=hD (show w.heap.size≠G.g∧w.heap.size≠G.bt∧w.heap.size≠G.bs∧w.heap.size≠G.bf from by have:=h.geo.lg;have:=h.geo.lt;have:=h.geo.ls;have:=h.geo.lf;have:=h.zle;exact⟨by omega,by omega,by omega,by omega⟩);have HKL:=hD hkl;have HL0:=hD hL;clear h hf hpv hM hkl hz hBL hL;go_enter func60,ntmps60;go_upto_region 1 with fail;generalize w.alloc (.cells #[.string (bs f.name),.int .i64 (f.line:Nat),.slice PA f.params.length PC,.int .i64 (f.ret:Nat),.int .i64 (f.body:Nat)] 48)=w1 at *;generalize w.heap.size=D at *;obtain⟨_,vv,-,-,-,-,-,-,c8,c9,c10,-,-,hfz,-⟩:=S1.o.cells;have f8:=hfz 8;have f9:=hfz 9;have f10:=hfz 10;have A1:=hD (S1.o.aLs 8 (.int .i64 (k:Nat)) (s':=s) (k':=k) (e':=0) (p':=0) (λ_ _=>rfl) rfl rfl rfl rfl HKL S1.o.size S1.o.fine S1.o.vars);have A2:=hD (A1.o.1.aSn HL0);have A3:=hD (A2.o.1.aLs 10 (.int .i64 ((0:Nat):Int)) (s':={ s with vars:=[],size:=0 }) (k':=k) (e':=0) (p':=0) (λ_ _=>rfl) rfl rfl rfl rfl HKL (aA4 _) (λ_=>aA4 _) (aA1 _));have F3:Hd (FrK G w _):=(((FrK.no FA).trans A1.o.2).trans A2.o.2).trans A3.o.2;have S3:=hD A3.o.1;have B3:=hD (((B1.o.far (p:=⟨G.g,8,none⟩) GN.o.1 (.int .i64 (k:Nat))).far (p:=⟨G.g,9,none⟩) GN.o.1 (.slice none 0 0)).far (p:=⟨G.g,10,none⟩) GN.o.1 (.int .i64 ((0:Nat):Int)));clear A1 A2 A3 S1 B1 hfz;go_upto_region 2 with fail;clear c8 c9 c10 f8 f9 f10
 generalize ((w1.setCell ⟨G.g,8,none⟩ (.int .i64 (k:Nat))).setCell ⟨G.g,9,none⟩ (.slice none 0 0)).setCell ⟨G.g,10,none⟩ (.int .i64 0)=w3 at *;have d2:w3.cell? ⟨D,2,none⟩=some (.slice PA f.params.length PC):=(B3.o.cell 2).trans rfl;go_wp2
 clear d2;go_loopw [23] (λi wr=>∃j:Nat,j<=f.params.length∧i = .int .i64 j∧∃(s':CkS) (e p:Nat),Hd (Kq G wr s' zs k e p)∧Hd (s'.size=j∧s'.vars.length=j)∧Hd ((e=0∧p=0∧iL f.body (f.params.take j) [] = .good s'.vars∧s'.types=s.types∧s'.slots=s.slots∧s'.fn=s.fn)∨(e≠0∧e<=99∧iL f.body (f.params.take j) [] = .bad e p))∧Hd (Blk wr D 48 #[.string (bs f.name),.int .i64 (f.line:Nat),.slice PA f.params.length PC,.int .i64 (f.ret:Nat),.int .i64 (f.body:Nat)])∧Hd (FrK G w wr)) (λi _=>f.params.length - (intOf i).toNat)
 case atStart=>exact⟨0,aA4 _,rfl,_,0,0,S3,hD ⟨rfl,rfl⟩,hD (.inl ⟨rfl,rfl,rfl,rfl,rfl,rfl⟩),B3,F3⟩
 case round=>
  obtain⟨j,hj,rfl,s',e,p,K,SZ,MO,B,FR⟩:=hrel;clear S3 B3 F3;by_cases hlt:j<f.params.length
  . have hlt2:(j:Int)<(f.params.length:Int):=by omega
    obtain⟨q,hq⟩:∃q,f.params[j]?=some q:=⟨_,gE hlt⟩;have HT:=hD (show f.params.take (j+1)=f.params.take j++[q] from by rw[List.take_add_one,hq];rfl);obtain⟨pb,e1,p0,p1⟩:∃pb,PA=some ⟨pb,0,none⟩∧wr.cell? ⟨pb,j*2,none⟩=some (.string (bs q.1))∧wr.cell? ⟨pb,j*2+1,none⟩=some (.int .i64 (q.2:Nat)):=by
      have ho:Own wr 101 2 (.slice PA f.params.length PC) f.params.length (aN f.params):=K.o.tree.tree.pars.get HQ.o.1 HQ.o.2;obtain⟨pb,e,hc⟩:=ho.some (by omega);exact⟨pb,e,hc _ _ (aP hq).1,hc _ _ (aP hq).2⟩
    subst e1;have HJ:=hD hlt;have hj3:(j:Int)<=3:=by omega
    have FE:Hd (Fr nob wr (wr.alloc (.cells #[.string (bs q.1),.int .i64 (q.2:Nat)] 101))):=(fR wr).alloc _;have BE:=hD (Blk.new wr 101 #[.string (bs q.1),.int .i64 (q.2:Nat)]);have EZ:=hD (show wr.heap.size≠G.g∧wr.heap.size≠G.bt∧wr.heap.size≠G.bs∧wr.heap.size≠G.bf from by have h:=K.o;have:=h.geo.lg;have:=h.geo.lt;have:=h.geo.ls;have:=h.geo.lf;have:=h.zle;exact⟨by omega,by omega,by omega,by omega⟩);clear hq hlt;go_upto_region 5 with fail;clear p0 p1;generalize hw4:wr.alloc (.cells #[.string (bs q.1),.int .i64 (q.2:Nat)] 101)=w4 at *;have K4:=hD (K.o.no FE);have B4:=hD (B.o.fr FE (λx=>x));have F4:=hD (FR.o.trans (FrK.no FE));clear K B FR FE hw4;generalize wr.heap.size=E at *;have e0:w4.cell? ⟨E,0,none⟩=some (.string (bs q.1)):=(BE.o.cell 0).trans rfl;obtain⟨nm2,hR⟩:=wQ (dV s'.vars q.1);obtain⟨tb,htb⟩:∃tb,(dV s'.vars q.1).isSome=tb:=⟨_,rfl⟩;rw[htb] at hR;have HR:=hD hR;have HTB:=hD htb;generalize aIx (dV s'.vars q.1)=nt at *;generalize aIy (dV s'.vars q.1)=nsl at *;clear hR htb;go_wp2_with fail
    refine (rM K4 q.1).mono ?_;rintro en w5 ⟨rfl,hf⟩;rw[HR.o];have fa:=hf.alloc (.cells #[.string (bs nm2),.int .i64 (nt:Nat),.int .i64 (nsl:Nat)] 62);have K5:=hD (K4.o.no fa);have B5:=hD (B4.o.fr fa (λx=>x));have E5:=hD (BE.o.fr fa (λx=>x));have F5:=hD (F4.o.trans (FrK.no fa));clear hf fa K4 B4 BE F4 e0 HR;go_upto_region 6 with fail;generalize w5.alloc (.cells #[.string (bs nm2),.int .i64 (nt:Nat),.int .i64 (nsl:Nat)] 62)=w6 at *;have d4:w6.cell? ⟨D,4,none⟩=some (.int .i64 (f.body:Nat)):=(B5.o.cell 4).trans rfl;go_wp2_with fail
    go_still_tail 7,(by kernel_rfl)
    change wpList _ _ _ _ _ w6.drew;clear d4;have K7:=hD (K5.o.no (fR w6).drew);have B7:=hD (B5.o.fr (fR w6).drew (λx=>x));have E7:=hD (E5.o.fr (fR w6).drew (λx=>x));have F7:=hD (F5.o.trans (FrK.no (fR w6).drew));clear K5 B5 E5 F5;generalize w6.drew=w7 at *;go_wp2_with fail
    refine (lZ K7 (!tb) 41 f.body (by decide)).mono ?_;rintro en w8 ⟨rfl,h8,f8⟩;obtain⟨e2,he2⟩:∃e2,(if (!tb)=false∧e=0 then 41 else e)=e2:=⟨_,rfl⟩;obtain⟨p2,hp2⟩:∃p2,(if (!tb)=false∧e=0 then f.body else p)=p2:=⟨_,rfl⟩;rw[he2,hp2] at h8;have HE2:=hD he2;have HP2:=hD hp2;have K8:=hD h8;have B8:=hD (B7.o.fr f8 GN.o.1);have E8:=hD (E7.o.fr f8 EZ.o.1);have F8:=hD (F7.o.trans (FrK.ofG f8));clear h8 f8 K7 B7 E7 F7 he2 hp2;have e0:w8.cell? ⟨E,0,none⟩=some (.string (bs q.1)):=(E8.o.cell 0).trans rfl;have e1:w8.cell? ⟨E,1,none⟩=some (.int .i64 (q.2:Nat)):=(E8.o.cell 1).trans rfl;go_wp2_with fail
    refine (aCf K8 (by have:=HM.o;omega) (λ_=>by have:=SZ.o.1;have:=HJ.o;omega) q.1 q.2).mono ?_;rintro en w9 ⟨rfl,h9,f9⟩;have K9:=hD (h9.aPo HG (by show s'.size+1<=G.M;have:=SZ.o.1;have:=HJ.o;have:=HM.o;omega));have B9:=hD (f9.far B8 GN.o.1 GN.o.2.1 GN.o.2.2.1 GN.o.2.2.2 (by decide));have F9:=hD (F8.o.trans f9);clear h9 f9 K8 B8 E8 F8 e0 e1;have MO2:=hD (show (e2=0∧p2=0∧iL f.body (f.params.take (j+1)) [] = .good (s'.vars++[⟨q.1,q.2,s'.size⟩])∧s'.types=s.types∧s'.slots=s.slots∧s'.fn=s.fn)∨(e2≠0∧e2<=99∧iL f.body (f.params.take (j+1)) [] = .bad e2 p2) from by
      have h2:=HE2.o;have h3:=HP2.o;have h4:=HTB.o;have h5:=SZ.o;rw[HT.o,iY];rcases MO.o with ⟨h6,h7,h8,h9⟩|⟨h6,h7,h8⟩
      . subst h6;subst h7
        rw[h8,CkR.aC];cases tb with
        | true=>
          simp at h2 h3
          subst h2;subst h3;exact .inr ⟨by decide,by decide,by rw[if_pos h4]⟩
        | false=>
          simp at h2 h3
          subst h2;subst h3;refine .inl ⟨rfl,rfl,?_,h9⟩;rw[if_neg (by rw[h4];decide),h5.1,h5.2]
      . rw[if_neg (λh=>h6 h.2)] at h2 h3
        subst h2;subst h3;exact .inr ⟨h6,h7,by rw[h8];rfl⟩)
    clear MO;go_wp2
    go_roundw
    case rel=>exact⟨j+1,by have:=HJ.o;omega,by go_num,_,e2,p2,K9,hD ⟨by show s'.size+1=j+1;rw[SZ.o.1],by show (s'.vars++[_]).length=j+1;rw[aA3,SZ.o.2];rfl⟩,MO2,B9,F9⟩
    case measure=>simp[intOf];have:=HJ.o;omega
  . have hjm:j=f.params.length:=by omega
    have hlt2:¬(j:Int)<(f.params.length:Int):=by omega
    have MO2:=hD (show ((e=0∧p=0∧iL f.body f.params [] = .good s'.vars∧s'.types=s.types∧s'.slots=s.slots∧s'.fn=s.fn)∨(e≠0∧e<=99∧iL f.body f.params [] = .bad e p)) from by
      have h9:=MO.o;rw[aA5 (by omega)] at h9;exact h9)
    obtain⟨_,_,-,-,-,-,-,-,-,-,-,c0,-⟩:=K.o.cells;have d4:wr.cell? ⟨D,4,none⟩=some (.int .i64 (f.body:Nat)):=(B.o.cell 4).trans rfl;clear MO hlt hjm;by_cases he:e=0
    case' pos=>
     have heb:((e:Int)==0)=true:=by rw[he];rfl
     have KG:=hD (show Kq G wr s' zs k 0 0 from by
       rcases MO2.o with ⟨h1,h2,_⟩|⟨h1,_⟩
       . have h9:=K.o;rw[h1,h2] at h9;exact h9
       . exact absurd he h1)
     have EQ:=hD (show gV G.ns G.fs k f s=eT G.ns G.fs k G.ns.length f.body s' from by
       rcases MO2.o with ⟨h1,h2,h3,h4,h5,h6⟩|⟨h1,_⟩
       . unfold gV
         rw[h3,CkR.aC];congr 1
         obtain⟨ty,sl,fn,va,sz⟩:=s';have h7:=SZ.o;dsimp only at h4 h5 h6 h7 ⊢;rw[h4,h5,h6,h7.1,h7.2]
       . exact absurd he h1)
     clear he;go_wp2_with fail
     refine (HBL zs wr s' KG).mono ?_;rintro en wv ⟨rfl,h6,f6⟩;obtain⟨s9,e9,p9,hk9,hm9⟩:=h6.open_ HM.o;have KV:=hD hk9;have MK:=hD (show fO (gV G.ns G.fs k f s) s9 e9 p9 from by rw[EQ.o];exact hm9);have FV:=hD (FR.o.trans f6);clear h6 f6 hk9 hm9 c0 d4;go_wp2_with fail
    case' neg=>
     have heb:((e:Int)==0)=false:=bN.2 (by omega)
     have KV:=hD (K.o.more (by have:=HM.o;omega));have MK:=hD (show fO (gV G.ns G.fs k f s) s' e p from by
       rcases MO2.o with ⟨h1,_⟩|⟨h1,h2,h3⟩
       . exact absurd h1 he
       . exact .inr ⟨h1,h2,by unfold gV;rw[h3];rfl⟩)
     have FV:=FR;clear he;go_wp2_with fail
     clear c0 d4;generalize wr=wv at *;generalize s'=s9 at *;generalize e=e9 at *;generalize p=p9 at *
    all_goals
     obtain⟨zv,vv,hbl,hzo,-,-,-⟩:=KV.o.ex;obtain⟨VA,VC,rfl,-,-⟩:=hzo.cap;have hbl2:Blk wv G.g 94 (jS G.more (.slice VA zs.length VC) vv k s9.size e9 p9):=hbl;have c7:wv.cell? ⟨G.g,7,none⟩=some (.slice VA zs.length VC):=by rw[hbl2.cell];rfl
     have c10:wv.cell? ⟨G.g,10,none⟩=some (.int .i64 (s9.size:Nat)):=by rw[hbl2.cell];rfl
     have HV:=hD ((hzo.alloc (.cells #[.int .i64 (s9.size:Nat)] 3)).fr ((fR _).drew) (λ_ _ x=>x));have HR:=hD (Rd.eZ (n:=1) (size:=1) (cs:=[.int .i64 (s9.size:Nat)]) ((Blk.new wv 3 [.int .i64 (s9.size:Nat)].toArray).fr ((fR _).drew) (λx=>x)) rfl (by decide));have glt:=hbl2.lt;have gn:¬G.g=wv.heap.size:=by omega
     have hzl:zs.length<=900:=HZ.o;have HARM:=hD (aNd (w0:=w) HM HG KV c7 MK FV HZ);clear hbl hbl2 hzo;go_wp2_with fail
     go_region_law (first|(refine step_append (v:= .slice VA zs.length VC) (n:=zs.length) (m:=1) (xs:=ints zs) (news:=[.int .i64 (s9.size:Nat)]) (by rfl) _ _ (by rfl) gW (by rfl) (by rfl) HV HR (by simp[Value.oneCell']) (by omega) (by unfold maxLen;omega) ?_;intro A6 c6 w6 ho6 hf6 hv6;have X:=HARM.o A6 c6 w6 ho6 hf6 hv6;obtain⟨f7,c7',gl6,AV⟩:=X;clear ho6 hf6 hv6))
     all_goals
       clear c7 c10 glt gn f7 c7' gl6 HARM HV HR;generalize w6.setCell ⟨G.g,7,none⟩ (.slice A6 (zs.length+1) c6)=w10 at *;go_wp2
       exact fK rfl rfl ⟨rfl,by first|exact AV.o.1|exact AV.o.1.no ((fR _).drew),by first|exact AV.o.2|exact AV.o.2.drew⟩
end
def jF (nv fv a b c z vv:Value) (k size e p:Nat):Array Value:=
 #[e,p,nv,fv,a,b,c,z,k,vv,size]
section
variable {w w':World}{g k size e p:Nat}{nv fv a b c z vv:Value}{lvs pvs:List Value}{ns:List aF}{fs:List aG}
theorem aBz (hb:Blk w g 94 (jF nv fv a b c z vv k size e p)) (ok:Bool) (e' x:Nat) (he':e'≠0):
  Calls prog 95 #[(g,()),ok,e',x] w λen w'=>en = .returned (.tuple #[])∧Blk w' g 94 (jF nv fv a b c z vv k size (if ok=false∧e=0 then e' else e) (if ok=false∧e=0 then x else p))∧Fr (bY g) w w':=by
 have c0:w.cell? (g,0)=e:=by rw[hb.cell];rfl
 have c1:w.cell? (g,1)=p:=by rw[hb.cell];rfl
 have f0:=hb.frozen 0;have f1:=hb.frozen 1;have hg:=hb.lt;have H:=hD hb;cases ok with
 | true=>
  rw[if_neg (by simp),if_neg (by simp)];clear hb;go_enter func95,ntmps95;go_wp2
  exact fK rfl rfl ⟨rfl,H,Fr.refl _ _⟩
 | false=>
  by_cases he:e=0
  . have heb:((e:Int)==0)=true:=by rw[he];rfl
    rw[if_pos ⟨rfl,he⟩,if_pos ⟨rfl,he⟩];have S2:=hD ((hb.setCell 0 e').setCell 1 x);clear hb he;go_enter func95,ntmps95;go_wp2
    exact fK rfl rfl ⟨rfl,S2,((Fr.refl (bY g) w).setCell (g,()) _ (λ_=>rfl)).setCell (g,U1) _ (λ_=>rfl)⟩
  . have heb:((e:Int)==0)=false:=bN.2 (by omega)
    rw[if_neg (λx=>he x.2),if_neg (λx=>he x.2)];clear hb he;go_enter func95,ntmps95;go_wp2
    exact fK rfl rfl ⟨rfl,H,Fr.refl _ _⟩
theorem aOa {o:Option Nat}{seen:Bool}:(if (!seen)=false∧stE o=0 then 41 else stE o)=stE (o.or (if seen=true then some x else none))∧(if (!seen)=false∧stE o=0 then x else stP o)=stP (o.or (if seen=true then some x else none)):=by
 cases o<;>cases seen<;>simp[stE,stP]
theorem aEc {FA:Option Addr}{FC:Nat} (hb:Blk w g 94 (jF nv fv a b c z vv k size 0 0)) (ht:cZ 0 w nv (.slice FA fs.length FC) lvs pvs ns fs) (hf6:fs.length<=6) (hp3:∀f∈fs,f.params.length<=3):
  Calls prog 59 #[(g,()),.slice FA fs.length FC] w λen w'=>en = .returned (.tuple #[])∧Fr (bY g) w w'∧∃e p,Blk w' g 94 (jF nv fv a b c z vv k size e p)∧((e=0∧p=0∧jM fs = .good ())∨(e≠0∧e<=99∧jM fs = .bad e p)):=by
 have hf7:(fs.length:Int)<=6:=by omega
 have hmm:= @run_makeMap prog;have B0:=hD hb;have T0:=hD ht;have HP:=hD hp3;have F1:Hd (Fr (bY g) w (w.alloc (.map #[] 0))):=(Fr.refl _ w).alloc _;have N1:=hD (aBm.new w);have B1:=hD (hb.fr ((fR w).alloc (.map #[] 0)) (λx=>x));have HN:=hD (show w.heap.size≠g from by have:=hb.lt;omega);clear hb ht hp3 hf6;go_enter func59,ntmps59;go_wp2_with fail
 clear hmm;generalize w.alloc (.map #[] 0)=w1 at *;generalize hH:w.heap.size=H at *;have HH:=hD hH;clear hH;go_loopw [5,11] (λmm i wr=>∃j:Nat,j<=fs.length∧i = .int .i64 j∧mm = .bool ((fs.take j).any iM)∧Hd (Blk wr g 94 (jF nv fv a b c z vv k size (stE (dN [] (fs.take j))) (stP (dN [] (fs.take j)))))∧Hd (aBm wr H ((fs.take j).map (·.name)))∧Hd (Fr (bY g) w wr)) (λ_ i _=>fs.length - (intOf i).toNat)
 case atStart=>exact⟨0,aA4 _,rfl,rfl,B1,N1,F1⟩
 case round=>
  clear B1 N1 F1;obtain⟨j,hj,rfl,rfl,B,N,FR⟩:=hrel;by_cases hlt:j<fs.length
  . have hlt2:(j:Int)<(fs.length:Int):=by omega
    have hj6:(j:Int)<=6:=by omega
    obtain⟨f,hf⟩:∃f,fs[j]?=some f:=⟨_,gE hlt⟩;have HJ:=hD hlt;have hlt':=hlt;have TW:=hD (T0.o.aSo B0 (by decide) (by decide) (by decide) (by decide) FR);obtain⟨fb,e,-⟩:=TW.o.fns.some (by omega);subst e;obtain⟨pv,hpo,x0,x1,x2,x3,x4⟩:=TW.o.fn2 hf;obtain⟨PA,PC,rfl,-,-⟩:=hpo.cap;have FE:Hd (Fr nob wr (wr.alloc (.cells #[bs f.name,f.line,.slice PA f.params.length PC,f.ret,f.body] 48))):=(fR wr).alloc _;have BE:=hD (Blk.new wr 48 #[bs f.name,f.line,.slice PA f.params.length PC,f.ret,f.body]);have EN:=hD (show wr.heap.size≠g∧wr.heap.size≠H from by have:=B.o.lt;have:=N.o.lt;exact⟨by omega,by omega⟩);have HTS:=hD (nE f (fs.take j) []);have HT1:=hD (show fs.take (j+1)=fs.take j++[f] from by rw[List.take_add_one,hf];rfl);have HMA:=hD (qD hf);have hpl:(f.params.length:Int)<=3:=by have:=HP.o f (List.mem_of_getElem? hf);omega
    clear hpo hf hlt hlt' hj;go_upto_region 5 with fail;clear x0 x1 x2 x3 x4;generalize hw4:wr.alloc (.cells #[bs f.name,f.line,.slice PA f.params.length PC,f.ret,f.body] 48)=w4 at *;have B4:=hD (B.o.fr FE (λx=>x));have N4:=hD (N.o.fr FE (λx=>x));have F4:=hD (FR.o.tr (Fr.aGf FE));clear B N FR FE hw4 TW;generalize wr.heap.size=E at *;have e0:w4.cell? (E,0)=(bs f.name):=(BE.o.cell 0).trans rfl;have e4:w4.cell? (E,4)=f.body:=(BE.o.cell 4).trans rfl;obtain⟨z,hz⟩:∃z,decide (f.name∈(fs.take j).map (·.name))=z:=⟨_,rfl⟩;have HZ:=hD hz;have LK:=(N4.o.fr (fR w4).drew (λx=>x)).look f.name;rw[hz] at LK;clear hz;go_wp2_with fail
    go_still_tail 10,(by kernel_rfl)
    change wpList _ _ _ _ _ w4.drew;clear LK e0 e4;have B5:=hD (B4.o.fr (fR w4).drew (λx=>x));have N5:=hD (N4.o.fr (fR w4).drew (λx=>x));have E5:=hD (BE.o.fr (fR w4).drew (λx=>x));have F5:=hD (F4.o.tr (Fr.aGf (fR w4).drew));clear B4 N4 BE F4;generalize w4.drew=w5 at *;go_wp2_with fail
    refine (aBz B5 (!z) 41 f.body (by decide)).mono ?_;rintro en w6 ⟨rfl,h6,f6⟩;have B6:=hD (show Blk w6 g 94 (jF nv fv a b c _ vv k size (stE (dN [] (fs.take (j+1)))) (stP (dN [] (fs.take (j+1))))) from by
     rw[aOa.1,aOa.2,<-HZ.o] at h6;have e9:(if decide (f.name∈(fs.take j).map (·.name))=true then some f.body else none)=if f.name∈[]++(fs.take j).map (·.name) then some f.body else none:=by simp
     rw[e9,<-HTS.o,<-HT1.o] at h6;exact h6)
    have N6:=hD (N5.o.fr f6 (λe=>HN.o e));have E6:=hD (E5.o.fr f6 EN.o.1);have F6:=hD (F5.o.tr f6);clear h6 f6 B5 N5 E5 F5;obtain⟨w7,i1,hn7,f7⟩:=N6.o.upd f.name;have N7:=hD (show aBm w7 H ((fs.take (j+1)).map (·.name)) from by rw[HT1.o,List.map_append];exact hn7);have B7:=hD (B6.o.fr f7 (λe=>HN.o e.symm));have E7:=hD (E6.o.fr f7 EN.o.2);have F7:Hd (Fr (bY g) w w7):=Fr.trans F6 f7 (λ_ _ x=>x) (λb hb e=>by have e:b=H:=e;have:=HH.o;omega);have e0:w6.cell? (E,0)=(bs f.name):=(E6.o.cell 0).trans rfl;clear hn7 f7 N6 B6 E6 F6;go_upto_region 7 with fail;clear e0 i1;have e0:w7.cell? (E,0)=(bs f.name):=(E7.o.cell 0).trans rfl;have e2:w7.cell? (E,2)=some (.slice PA f.params.length PC):=(E7.o.cell 2).trans rfl;have e3:w7.cell? (E,3)=f.ret:=(E7.o.cell 3).trans rfl;obtain⟨m0,hm0⟩:∃m,(fs.take j).any iM=m:=⟨_,rfl⟩;obtain⟨b1,hb1⟩:∃m,((bs f.name).toList==[109,97,105,110])=m:=⟨_,rfl⟩;obtain⟨b2,hb2⟩:∃m,((f.params.length:Int)==0)=m:=⟨_,rfl⟩;obtain⟨b3,hb3⟩:∃m,((f.ret:Int)==0)=m:=⟨_,rfl⟩;have HNM:=hD (show (fs.take (j+1)).any iM=(m0 || (b1 && b2 && b3)) from by
     rw[HMA.o,hm0];congr 1
     unfold iM;rw[<-hb1,<-hb2,<-hb3,mZ];congr 1
     . congr 1
       . rw[Bool.eq_iff_iff];simp
       . rw[Bool.eq_iff_iff];simp
     . rw[Bool.eq_iff_iff];simp)
    rw[hm0];clear hm0 E7;cases m0<;>cases b1<;>cases b2<;>cases b3
    all_goals
     go_wp2
     go_roundw
     case rel=>exact⟨j+1,by have:=HJ.o;omega,by go_num,by rw[HNM.o];rfl,B7,N7,F7⟩
     case measure=>simp[intOf];have:=HJ.o;omega
  . have hlt2:¬(j:Int)<(fs.length:Int):=by omega
    have HT:Hd (fs.take j=fs):=aA5 (by omega);have E:Hd (jM fs=(match dN [] fs with|some b=> .bad 41 b|none=>if fs.any iM then .good () else .bad 44 0)):=rfl;obtain⟨m0,hm0⟩:∃m,fs.any iM=m:=⟨_,rfl⟩;have HM0:=hD hm0;rw[HT.o] at B ⊢;rw[hm0];clear hm0 hlt hj N;go_wp2_with fail
    refine dU (aBz B m0 44 0 (by decide)) λw5 B5 f5=>?_;have F5:=hD (FR.o.tr f5);clear f5;go_wp2
    refine fK rfl rfl ⟨rfl,F5,_,_,B5,?_⟩;have hE:=E.o;rw[HM0.o] at hE;cases hT:dN [] fs with
    | none=>
     rw[hT] at hE;cases m0 with
     | true=>exact .inl ⟨by simp[stE],by simp[stE,stP],hE⟩
     | false=>exact .inr ⟨by simp[stE],by simp[stE],by rw[hE];simp[stE]⟩
    | some b=>
     rw[hT] at hE;refine .inr ⟨by simp[stE],by simp[stE],?_⟩;rw[hE];simp[stE,stP]
end
def lY (n k:Nat):List Value:=List.replicate k (.int .i64 (-1))++List.replicate (n - k) (.int .i64 0)
theorem aBw {n k:Nat} (h:k<=n):(lY n k).length=n:=by unfold lY;simp;omega
theorem xR {n k:Nat} (h:k+m<=n):splice (lY n k) k (List.replicate m (-1:Int))=lY n (k+m):=by
 unfold splice lY;rw[List.take_append_of_le_length (by simp),aA5 (by simp),List.drop_append,List.drop_eq_nil_of_le (by simp),List.nil_append,List.drop_replicate,List.length_replicate,List.length_replicate,<-List.replicate_append_replicate,List.append_assoc,show n - k - (k+m - k)=n - (k+m) by omega]
theorem uZ (n:Nat) (hn:n<=1000000):∀w:World,(Instr.makeSlice 27 (n:Int) (n:Int)).run prog w = .ok (w.heap.size,n,n) (w.alloc (.cells (lY n 0).toArray 3)):=by
 intro w;obtain⟨i,hi,hz,hs,hb⟩:=gW.hi;have hr:=run_make (P:=prog) w 27 3 i U0 gW.ht hi hz .i64 .i64 n n (by omega) (Int.le_refl _) (by rw[hb];omega) (by omega);simp only[Int.toNat_natCast,hs,Nat.mul_one] at hr;have e:madeCells (Value.int .i64 0).cells n=(lY n 0).toArray:=by
  show madeCells #[U0] n=_
  apply Array.toList_inj.1
  rw[toList_madeCells_one];simp[lY]
 rw[e] at hr;exact hr
theorem aNs {w0:World} (h:Below w0.heap.size w0 w):Fr nob w0 w:=⟨h.1,h.2,h.3,h.4,λk hk _=>h.5 k hk⟩
theorem aAc (n:Nat) (hn:n<=300) (hb:Blk w b 3 #[(-1:Int)]):
  Calls prog 58 #[(b,1,1),n] w λen w'=>∃A c,en = .returned (.slice A n c)∧Own w' 3 1 (.slice A n c) n (eH (List.replicate n (-1)))∧(∀x,blk (.slice A n c)=some x->w.heap.size<=x)∧Fr nob w w':=by
 have HB:=hD hb;have hn3:(n:Int)<=300:=by omega
 have HM:=hD (show Calls prog 94 #[.int .u64 1,.int .u64 (n:Nat)] w λen w'=>en = .returned (.tuple #[.int .u64 0,.int .u64 (n:Nat)])∧w'=w from by
  have:=bits_Mul 1 n (by decide) (by omega) w;rw[show (1*n / 18446744073709551616:Nat)=0 by omega,show (1*n % 18446744073709551616:Nat)=n by omega] at this;exact this)
 have hmk:=uZ n (by omega);have k0:w.cell? (b,0)=(-1:Int):=(hb.cell 0).trans rfl;have hlt:=hb.lt;clear hb;go_enter func58,ntmps58;go_wp2_with fail
 refine HM.o.mono ?_;rintro en w1 ⟨rfl,hw⟩;subst hw;obtain⟨m0,hm0⟩:∃m,Nat.min 1 n=m:=⟨_,rfl⟩;have HM0:=hD (show m0<=n∧m0<=1∧(0<n->0<m0) from by rw[<-hm0];show min 1 n<=n∧min 1 n<=1∧(0<n->0<min 1 n);omega);have HMM:=hD hm0;have HG:Hd ((w1.alloc (.cells (lY n 0).toArray 3)).heap[w1.heap.size]?=some (.cells (lY n 0).toArray 3 (0,0))):=Blk.new _ _ _;have HBE:=hD (show Below w1.heap.size w1 (w1.alloc (.cells (lY n 0).toArray 3)) from ⟨rfl,rfl,rfl,by simp,λk hk=>Below.heap_alloc _ _ _ hk⟩);have HB2:=hD (HB.o.fr ((fR w1).alloc (.cells (lY n 0).toArray 3)) (λx=>x));have HCP:=hD (show ∀(j:Nat) (v:Value),(List.replicate m0 (Value.int .i64 (-1)))[j]?=some v->(w1.alloc (.cells (lY n 0).toArray 3)).cell? (((b,()):Addr).add j)=some v from λj v hv=>by
  have hl:=(gK hv);rw[List.length_replicate] at hl;have hj:j=0:=by have:=HM0.o.2.1;omega
  subst hj;rw[List.getElem?_replicate,if_pos hl] at hv;injection hv with hv;subst hv;exact (HB2.o.cell 0).trans rfl)
 have HFT:=hD (show 0+(List.replicate m0 (Value.int .i64 (-1))).length<=(lY n 0).length from by rw[List.length_replicate,aBw (aA4 _)];have:=HM0.o.1;omega);go_wp2_with (refine wpList_copy_splice rfl (.tmp 31) (.tmp 32) 27 27 rfl 3 (by kernel_rfl) (by kernel_rfl) (some (w1.heap.size,())) (some (b,())) n n 1 1 rfl rfl w1.heap.size 0 (lY n 0) 3 HG (List.replicate m0 (-1:Int)) (by rw[List.length_replicate];exact HMM.o.symm) (λ_=>⟨rfl,_,rfl,HCP⟩) HFT (λv hv=>by rw[List.eq_of_mem_replicate hv];rfl) w1.heap.size w1 HBE (aA1 _) ?_;rw[List.length_replicate])
 intro w4 hg4 hb4;have H4:=hD (show w4.heap[w1.heap.size]?=some (.cells (lY n m0).toArray 3 (0,0)) from by
  have:=hg4.out;rw[xR (by have:=HM0.o.1;omega),Nat.zero_add] at this;exact this)
 have B4:=hD hb4;clear hg4 hb4 HG HBE HB2 HB hm0 HMM hmk hlt k0 HCP HFT;generalize hR:w1.heap.size=R at *;go_wp2
 go_loopw [8] (λv wr=>∃k:Nat,k<=n∧v = .int .i64 k∧Hd (0<n->0<k)∧Hd (wr.heap[R]?=some (.cells (lY n k).toArray 3 (0,0)))∧Hd (Below R w1 wr)) (λv _=>n - (intOf v).toNat)
 case atStart=>exact⟨m0,HM0.o.1,rfl,hD HM0.o.2.2,H4,B4⟩
 case round=>
  clear H4 B4;obtain⟨k,hk,rfl,HP,H,B⟩:=hrel;by_cases hlt:k<n
  . have hlt2:(k:Int)<(n:Int):=by omega
    have hk0:(0:Int)<=(k:Int):=by omega
    have hkn:(k:Int)<=(n:Int):=by omega
    obtain⟨m,hm⟩:∃m,Nat.min k (n - k)=m:=⟨_,rfl⟩;have HMM:=hD hm;have HML:=hD (show k+m<=n∧m<=k∧0<m from by have:=HP.o;rw[<-hm];show k+min k (n - k)<=n∧min k (n - k)<=k∧0<min k (n - k);omega);have HJ:=hD hlt;clear hm;have HD:Hd (wr.drew.heap[R]?=some (.cells (lY n k).toArray 3 (0,0))):=H;have BD:=hD (show Below R w1 wr.drew from ⟨B.o.1,B.o.2,B.o.3,B.o.4,B.o.5⟩);have HCP:=hD (show ∀(j:Nat) (v:Value),(List.replicate m (Value.int .i64 (-1)))[j]?=some v->wr.drew.cell? (((R,()):Addr).add j)=some v from λj v hv=>by
      have hl:=(gK hv);rw[List.length_replicate] at hl;rw[List.getElem?_replicate,if_pos hl] at hv;injection hv with hv;subst hv;rw[aKq,Nat.zero_add];refine ((show Blk wr.drew R 3 (lY n k).toArray from HD).cell j).trans ?_;rw[List.getElem?_toArray];unfold lY;rw[List.getElem?_append_left (by rw[List.length_replicate];have:=HML.o.2.1;omega),List.getElem?_replicate,if_pos (by have:=HML.o.2.1;omega)])
    have HFT:=hD (show k+(List.replicate m (Value.int .i64 (-1))).length<=(lY n k).length from by rw[List.length_replicate,aBw hk];exact HML.o.1);have hne:¬n=k:=by omega
    have hmk9:(m:Int)<=(n:Int):=by have:=HML.o;omega
    have hmk8:(k:Int)+(m:Int)<=(n:Int):=by have:=HML.o;omega
    have hwr:IntKind.i64.wrap ((k:Int)+(m:Int))=((k+m:Nat):Int):=by rw[IntKind.wrap_i64];omega
    clear hlt hk;go_wp2_with fail
    go_region_held3 (λ_=>True) (first|trivial) (first|(refine step_copy_splice rfl (.tmp 41) (.tmp 44) 27 27 rfl 3 (by kernel_rfl) (by kernel_rfl) (some (R,k)) (some (R,())) (n - k) (n - k) k n rfl rfl R k (lY n k) 3 HD (List.replicate m (-1:Int)) (by rw[List.length_replicate];exact HMM.o.symm) (λ_=>⟨rfl,_,rfl,HCP⟩) HFT (λv hv=>by rw[List.eq_of_mem_replicate hv];rfl) R w1 BD (aA1 _) ?_;rw[List.length_replicate];intro w4 hg4 hb4))
    all_goals
      have H4:=hD (show w4.heap[R]?=some (.cells (lY n (k+m)).toArray 3 (0,0)) from by
        have:=hg4.out;rw[xR HML.o.1] at this;exact this)
      have B4:=hD hb4;clear hg4 hb4 HD BD HCP HFT H B;go_wp2
      go_roundw
      case rel=>exact⟨k+m,HML.o.1,by go_num,hD (λ_=>by have:=HML.o;omega),H4,B4⟩
      case measure=>simp[intOf];have:=HJ.o;have:=HML.o;omega
  . have hlt2:¬(k:Int)<(n:Int):=by omega
    have hkn:k=n:=by omega
    subst hkn;have HR:=hD hR;clear hlt hk;go_wp2
    go_ret;have BL:Blk wr R 3 (lY k k).toArray:=H.o;have e:lY k k=eH (List.replicate k (-1)):=by simp[lY,eH]
    refine⟨_,_,rfl,⟨by simp[eH],some (R,()),k,rfl,?_⟩,λx hx=>?_,?_⟩
    . by_cases h0:k=0
      . exact .inl ⟨h0,h0⟩
      . refine .inr ⟨R,_,rfl,by omega,BL,aA1 _,by unfold maxLen;omega,by rw[e];simp[eH],?_⟩
        rw[e,aA5 (by simp[eH])]
    . by_cases h0:k=0
      . subst h0;simp[blk] at hx
      . rw[aQ (by omega) (aA1 _)] at hx
        injection hx with hx
        first|(rw[HR.o,hx];exact aA1 _)|(rw[hx];exact aA1 _)
    . exact aNs (by rw[HR.o];exact B)
theorem dJ.up {B B':Nat}{nv fv:Value}{lvs pvs:List Value}{ns:List aF}{fs:List aG} (h:dJ B w nv fv lvs pvs ns fs) (h1:B<=B') (h2:B'<=w.heap.size):dJ B' w nv fv lvs pvs ns fs:=
 ⟨h.tree,λb hb=>Nat.lt_of_lt_of_le (h.hn b hb) h1,λb hb=>Nat.lt_of_lt_of_le (h.hf b hb) h1,λv hv b hb=>Nat.lt_of_lt_of_le (h.hl v hv b hb) h1,λv hv b hb=>Nat.lt_of_lt_of_le (h.hp v hv b hb) h1,h2⟩
section
variable (ns:List aF) (fs:List aG)
theorem iC (f:aG):∀(l:List aG) (k:Nat) (zs:List Nat) (s:CkS),iR ns fs k (l++[f]) zs s=(iR ns fs k l zs s).bind λr=>(gV ns fs (k+l.length) f r.2).map λs'=>(r.1++[s'.size],s')
 | [],k,zs,s=>by
  show (gV ns fs k f s).bind _=(CkR.good (zs,s)).bind _
  rw[CkR.aC]
  show _=(gV ns fs (k+0) f s).map _
  rw[Nat.add_zero];cases gV ns fs k f s<;>rfl
 | a :: l,k,zs,s=>by
  show (gV ns fs k a s).bind _=((gV ns fs k a s).bind _).bind _
  cases gV ns fs k a s with
  | bad e p=>rfl
  | good u=>
   simp only[CkR.aC];rw[show k+(a :: l).length=k+1+l.length by simp;omega];exact iC f l (k+1) _ u
theorem vD {e p:Nat}:∀(l m:List aG) (k:Nat) (zs:List Nat) (s:CkS),iR ns fs k l zs s = .bad e p->iR ns fs k (l++m) zs s = .bad e p:=by
 intro l m;induction m generalizing l with
 | nil=>intro k zs s h;rw[List.append_nil];exact h
 | cons a m ih=>
  intro k zs s h;have:l++a :: m=(l++[a])++m:=by simp
  rw[this];exact ih (l++[a]) k zs s (by rw[iC,h];rfl)
end
def aMy (B z g bt bs bf ct cs cf:Nat) (nv fv:Value) (lvs pvs:List Value) (ns:List aF) (fs:List aG):Geo:=⟨24,B,z,g,bt,bs,bf,ct,cs,cf,nv,fv,lvs,pvs,ns,fs,0⟩
theorem aGw {cs:Array Value} (h:cs.size=6):∃a b c d e f,cs = #[a,b,c,d,e,f]:=by
 obtain⟨l⟩:=cs
 match l,h with
 | [a,b,c,d,e,f],_=>exact⟨a,b,c,d,e,f,rfl⟩
theorem Fr.six (w:World) (T:Nat) (a b c d e f:Value):Fr (bY T) w ((((((w.setCell (T,()) a).setCell (T,U1) b).setCell (T,U2) c).setCell (T,U3) d).setCell (T,U4) e).setCell (T,U5) f):=
 (Fr.five w T a b c d e).setCell (T,U5) f (λ_=>rfl)
theorem kT.aSc {w':World}{nv fv tv sv uv zv:Value}{lvs pvs:List Value}{p:gB} (h:kT w nv fv tv sv uv zv lvs pvs p){RB:Nat}{cs:Array Value} (hb:Blk w RB 29 cs) (f:Fr (bY RB) w w'):kT w' nv fv tv sv uv zv lvs pvs p:=by
 have own:∀{n:Nat} {v:Value} {xs:List Value},Own w 3 1 v n xs->Own w' 3 1 v n xs:=λho=>ho.fr f λb hb' hm=>by
  have hm:b=RB:=hm;subst hm;exact ho.aD hb (by decide) hb'
 exact⟨h.tree.aSo hb (by decide) (by decide) (by decide) (by decide) f,own h.types,own h.slots,own h.fn,own h.sizes⟩
theorem uK {wx:World}{T:Nat} (hT:w.heap.size<=T) (F:Fr nob w wx) (a b c d e f:Value):Fr nob w ((((((wx.setCell (T,()) a).setCell (T,U1) b).setCell (T,U2) c).setCell (T,U3) d).setCell (T,U4) e).setCell (T,U5) f):=
 (F.trans (M:=λb=>b=T) (Fr.six wx T a b c d e f) (λ_ _ x=>x.elim) (λb _ hb=>hb)).mono (λb hb hm=>by have hm:b=T:=hm;omega)
end Go.Proofs.YtlbjicjinnnboaaGreatDoor
