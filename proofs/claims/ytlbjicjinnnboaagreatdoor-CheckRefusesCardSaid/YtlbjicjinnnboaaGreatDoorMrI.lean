/- MrI: KqQ, KqQp, KqQt, KqR, CkMe, KqFun, KqFunB. -/
import Derived.Test.YtlbjicjinnnboaaGreatDoorMrH
import Derived.Test.YtlbjicjinnnboaaGreatDoorMrG
set_option maxHeartbeats 8000000
set_option maxRecDepth 100000
set_option linter.unusedVariables false
set_option linter.unusedSimpArgs false
/- The program's own checker: statement, but for tests. Printed by wip/tools/mkqstm.py. -/
namespace Go.Proofs.YtlbjicjinnnboaaGreatDoor
open Go.RowKit Go.Proofs.Tryz
open Pw
variable {x line a b m:Nat}{nm:List UInt8}{st:Nat->CkS->CkR CkS}
section
variable {G:Geo}{w w':World}{s:CkS}{r:CkR CkS}{zs:List Nat}{k e p:Nat}{ex:Nat->CkS->CkR (Nat×CkS)}{bl:Nat->CkS->CkR CkS}
def aJi (G:Geo) (zs:List Nat) (k:Nat) (bl:Nat->CkS->CkR CkS) (x:Nat):Prop:=
 ∀(w:World) (s:CkS),Kq G w s zs k 0 0->Calls prog 98 #[(G.g,()),x] w (aEu G zs k (bl x s) w)
def sJ (G:Geo) (zs:List Nat) (k:Nat) (st:Nat->CkS->CkR CkS) (x:Nat) (nd:aH):Prop:=
 ∀(w:World) (s:CkS) (A:Option Addr) (c:Nat),Kq G w s zs k 0 0->Own w 3 1 (.slice A nd.l.length c) nd.l.length (ints nd.l)->(∀b,blk (.slice A nd.l.length c)=some b->b<G.B) ->
 Calls prog 145 #[(G.g,()),.agg #[nd.kind,nd.line,nd.n,bs nd.name,.slice A nd.l.length c],x] w (aEu G zs k (st x s) w)
theorem cell_of {e n c j:Nat}{xs:List Value}{u:Value} (h:Own w e 1 (b,n,c) n xs) (hn:0<n) (hj:xs[j]?=some u):w.cell? (b,j)=some u:=by
 obtain⟨b',e1,hc⟩:=h.some hn;injection e1 with e1;injection e1 with e1;subst e1;exact hc j u hj
theorem aNs {q1:CkR (Nat×CkS)}{f:CkS->CkR (Nat×CkS)}{P:Nat->Nat->Prop} [∀a b,Decidable (P a b)] {t u:Nat}{b:Bool} (h1:∀t' s',q1 = .good (t',s')->t=t') (h2:∀t' s',(q1.map (·.2)).bind f = .good (t',s')->u=t') (hb:b=decide (P t u)):
  ((((q1.map (·.2)).bind f).map (·.2)).bind λs=>if b=true then .good s else .bad 42 x)=q1.bind λt=>(f t.2).bind λr=>if P t.1 r.1 then .good r.2 else .bad 42 x:=by
 cases q1 with
 | bad e p=>rfl
 | good v=>
  have:=h1 v.1 v.2 rfl;subst this;simp only[CkR.cB,CkR.aC] at h2 ⊢;cases hq:f v.2 with
  | bad e p=>rfl
  | good r=>
    rw[hq] at h2;have:=h2 r.1 r.2 rfl;subst this;simp only[CkR.cB,CkR.aC,hb,decide_eq_true_eq]
theorem zB {q:CkR (Nat×CkS)}{P:Nat->Prop} [∀a,Decidable (P a)] {u:Nat}{b:Bool} (h2:∀t' s',q = .good (t',s')->u=t') (hb:b=decide (P u)):
  ((q.map (·.2)).bind λs=>if b=true then .good s else .bad 42 x)=q.bind λr=>if P r.1 then .good r.2 else .bad 42 x:=by
 cases q with
 | bad e p=>rfl
 | good r=>
  have:=h2 r.1 r.2 rfl;subst this;simp only[CkR.cB,CkR.aC,hb,decide_eq_true_eq]
theorem aKr (hM:G.M=24) (hx:G.ns[x]?=some ⟨10,line,0,nm,[a]⟩) (ha:iN 170 G zs k a (ex a)):sJ G zs k (λx s=>iP G.fs k ex bl x ⟨10,line,0,nm,[a]⟩ s) x ⟨10,line,0,nm,[a]⟩:=λw s A c h ho hlow=>by
 have ho:Own w 3 1 (.slice A 1 c) 1 (ints [a]):=ho;have HG:=hD h.geo;have HM:=hD hM;have HLO:Hd (∀b,blk (.slice A 1 c)=some b->b<G.B):=hlow;have hxl:=(gK hx);have HXL:=hD hxl;have hx3:(x:Int)<(G.ns.length:Int):=by omega
 have hx4:(G.ns.length:Int)≤300:=by have:=h.geo.few;omega
 have FA:Hd (Fr nob w (w.alloc (.cells #[(10:Int),line,U0,bs nm,.slice A 1 c] 50))):=(fR w).alloc _;have B1:=hD (Blk.new w 50 #[(10:Int),line,U0,bs nm,.slice A 1 c]);have S1:Hd (Kq G _ s zs k 0 0):=h.no FA;have O1:=hD (ho.fr FA (λ_ _ x=>x));have GN:=hD (show w.heap.size≠G.g∧w.heap.size≠G.bt∧w.heap.size≠G.bs∧w.heap.size≠G.bf from by have:=h.geo.lg;have:=h.geo.lt;have:=h.geo.ls;have:=h.geo.lf;have:=h.zle;exact⟨by omega,by omega,by omega,by omega⟩);have HA:=hD ha;clear ha h ho hlow hM hx hxl;dsimp only[List.length_cons,List.length_nil];go_enter func145,ntmps145;go_upto_region 1 with fail;generalize w.alloc (.cells #[(10:Int),line,U0,bs nm,.slice A 1 c] 50)=w0 at *;generalize hT:w.heap.size=T at *;obtain⟨_,_,-,-,-,-,c6,-,c8,-⟩:=S1.o.cells;go_wp2_with fail
 go_still_tail 11,(by kernel_rfl)
 change wpList _ _ _ _ _ w0.drew;clear c6 c8;have SD:=hD (S1.o.no (fR w0).drew);have BD:=hD (B1.o.fr (fR w0).drew (λx=>x));have OD:=hD (O1.o.fr (fR w0).drew (λ_ _ x=>x));have FD:Hd (FrK G w w0.drew):=FrK.no (FA.o.tr (fR w0).drew);clear S1 B1 O1 FA;generalize w0.drew=w1 at *;obtain⟨⟨u2,bf⟩,zf⟩:=SD.o.fn.iH (j:=x) (by omega);have S2:Hd (Kq G _ (bX k x s) zs k 0 0):=(SD.o.kH x k).1;have F2:=hD (FD.o.trans (SD.o.kH x k).2);have B2:=hD (BD.o.far (p:=(G.bf,x)) (λe=>GN.o.2.2.2 e) k);have O2:=hD (OD.o.far (p:=(G.bf,x)) (λe=>by have h9:G.bf<G.B:=HLO.o _ e;have:=HG.o.hf;omega) k);go_upto_region 2 with fail;clear bf zf SD BD OD FD;generalize w1.setCell (G.bf,x) k=w2 at *;have d0:=(B2.o.cell 0).trans rfl;have d1:=(B2.o.cell 1).trans rfl;have d2:=(B2.o.cell 2).trans rfl;have d3:=(B2.o.cell 3).trans rfl;have d4:=(B2.o.cell 4).trans rfl;go_wp2_with fail
 refine dY (aKt HM S2 HXL O2 HA) λw3 S3 f3=>?_;have F3:=hD (F2.o.trans f3);clear f3 S2 F2 B2 O2 d0 d1 d2 d3 d4;go_wp2
 exact gF rfl rfl ⟨rfl,S3,F3⟩
theorem aOb (hM:G.M=24) (hx:G.ns[x]?=some ⟨13,line,0,[],[a]⟩) (ha:iN 170 G zs k a (ex a)):sJ G zs k (λx s=>iP G.fs k ex bl x ⟨13,line,0,[],[a]⟩ s) x ⟨13,line,0,[],[a]⟩:=λw s A c h ho hlow=>by
 have ho:Own w 3 1 (.slice A 1 c) 1 (ints [a]):=ho;have HG:=hD h.geo;have HM:=hD hM;have HLO:Hd (∀b,blk (.slice A 1 c)=some b->b<G.B):=hlow;have hxl:=(gK hx);have hx3:(x:Int)<(G.ns.length:Int):=by omega
 have hx4:(G.ns.length:Int)≤300:=by have:=h.geo.few;omega
 have FA:Hd (Fr nob w (w.alloc (.cells #[(13:Int),line,U0,bs [],.slice A 1 c] 50))):=(fR w).alloc _;have B1:=hD (Blk.new w 50 #[(13:Int),line,U0,bs [],.slice A 1 c]);have S1:Hd (Kq G _ s zs k 0 0):=h.no FA;have O1:=hD (ho.fr FA (λ_ _ x=>x));have GN:=hD (show w.heap.size≠G.g∧w.heap.size≠G.bt∧w.heap.size≠G.bs∧w.heap.size≠G.bf from by have:=h.geo.lg;have:=h.geo.lt;have:=h.geo.ls;have:=h.geo.lf;have:=h.zle;exact⟨by omega,by omega,by omega,by omega⟩);have HA:=hD (show ∀i∈[a],iN 170 G zs k i (ex i) from λi hi=>by rw[List.mem_singleton.1 hi];exact ha);clear ha h ho hlow hM hx hxl;dsimp only[List.length_cons,List.length_nil];go_enter func145,ntmps145;go_upto_region 1 with fail;generalize w.alloc (.cells #[(13:Int),line,U0,bs [],.slice A 1 c] 50)=w0 at *;generalize hT:w.heap.size=T at *;obtain⟨_,_,-,-,-,-,c6,-,c8,-⟩:=S1.o.cells;go_wp2_with fail
 go_still_tail 11,(by kernel_rfl)
 change wpList _ _ _ _ _ w0.drew;clear c6 c8;have SD:=hD (S1.o.no (fR w0).drew);have BD:=hD (B1.o.fr (fR w0).drew (λx=>x));have OD:=hD (O1.o.fr (fR w0).drew (λ_ _ x=>x));have FD:Hd (FrK G w w0.drew):=FrK.no (FA.o.tr (fR w0).drew);clear S1 B1 O1 FA;generalize w0.drew=w1 at *;obtain⟨⟨u2,bf⟩,zf⟩:=SD.o.fn.iH (j:=x) (by omega);have S2:Hd (Kq G _ (bX k x s) zs k 0 0):=(SD.o.kH x k).1;have F2:=hD (FD.o.trans (SD.o.kH x k).2);have B2:=hD (BD.o.far (p:=(G.bf,x)) (λe=>GN.o.2.2.2 e) k);have O2:=hD (OD.o.far (p:=(G.bf,x)) (λe=>by have h9:G.bf<G.B:=HLO.o _ e;have:=HG.o.hf;omega) k);go_upto_region 2 with fail;clear bf zf SD BD OD FD;generalize w1.setCell (G.bf,x) k=w2 at *;have d0:=(B2.o.cell 0).trans rfl;have d1:=(B2.o.cell 1).trans rfl;have d2:=(B2.o.cell 2).trans rfl;have d3:=(B2.o.cell 3).trans rfl;have d4:=(B2.o.cell 4).trans rfl;go_wp2_with fail
 refine (iL (kind:=13) (line:=line) (n:=0) (nm:=[]) HA (show KqM G w2 (.good (bX k x s)) zs k from S2) O2 HLO (by simp)).mono ?_;rintro en w3 ⟨A3,c3,ts,rfl,h3,f3⟩;have S3:=hD h3.st;have F3:=hD (F2.o.trans f3);clear h3 f3 S2 F2 B2 O2 d0 d1 d2 d3 d4;have E:=hD (show iP G.fs k ex bl x ⟨13,line,0,[],[a]⟩ s=((CkR.good (bX k x s)).bind (bH ex [a])).map (·.2) from by
  show (ex a (bX k x s)).map (·.2)=(bH ex [a] (bX k x s)).map (·.2)
  rw[args1,CkR.map_map])
 go_wp2
 exact gF rfl rfl ⟨rfl,(by rw[E.o];exact S3.o.toN HM),F3⟩
theorem aGf (hM:G.M=24) (hx:G.ns[x]?=some ⟨17,line,0,[],[]⟩) (ha:∀i∈([]:List Nat),iN 170 G zs k i (ex i)):sJ G zs k (λx s=>iP G.fs k ex bl x ⟨17,line,0,[],[]⟩ s) x ⟨17,line,0,[],[]⟩:=λw s A c h ho hlow=>by
 have ho:Own w 3 1 (.slice A 0 c) 0 (ints []):=ho;have HG:=hD h.geo;have HM:=hD hM;have HLO:Hd (∀b,blk (.slice A 0 c)=some b->b<G.B):=hlow;have hxl:=(gK hx);have hx3:(x:Int)<(G.ns.length:Int):=by omega
 have hx4:(G.ns.length:Int)≤300:=by have:=h.geo.few;omega
 have HX3:=hD (show x≤300 from by omega);have FA:Hd (Fr nob w (w.alloc (.cells #[(17:Int),line,U0,bs [],.slice A 0 c] 50))):=(fR w).alloc _;have B1:=hD (Blk.new w 50 #[(17:Int),line,U0,bs [],.slice A 0 c]);have S1:Hd (Kq G _ s zs k 0 0):=h.no FA;have O1:=hD (ho.fr FA (λ_ _ x=>x));have GN:=hD (show w.heap.size≠G.g∧w.heap.size≠G.bt∧w.heap.size≠G.bs∧w.heap.size≠G.bf from by have:=h.geo.lg;have:=h.geo.lt;have:=h.geo.ls;have:=h.geo.lf;have:=h.zle;exact⟨by omega,by omega,by omega,by omega⟩);have HA:=hD ha;clear ha h ho hlow hM hx hxl;dsimp only[List.length_cons,List.length_nil];go_enter func145,ntmps145;go_upto_region 1 with fail;generalize w.alloc (.cells #[(17:Int),line,U0,bs [],.slice A 0 c] 50)=w0 at *;generalize hT:w.heap.size=T at *;obtain⟨_,_,-,-,-,-,c6,-,c8,-⟩:=S1.o.cells;go_wp2_with fail
 go_still_tail 11,(by kernel_rfl)
 change wpList _ _ _ _ _ w0.drew;clear c6 c8;have SD:=hD (S1.o.no (fR w0).drew);have BD:=hD (B1.o.fr (fR w0).drew (λx=>x));have OD:=hD (O1.o.fr (fR w0).drew (λ_ _ x=>x));have FD:Hd (FrK G w w0.drew):=FrK.no (FA.o.tr (fR w0).drew);clear S1 B1 O1 FA;generalize w0.drew=w1 at *;obtain⟨⟨u2,bf⟩,zf⟩:=SD.o.fn.iH (j:=x) (by omega);have S2:Hd (Kq G _ (bX k x s) zs k 0 0):=(SD.o.kH x k).1;have F2:=hD (FD.o.trans (SD.o.kH x k).2);have B2:=hD (BD.o.far (p:=(G.bf,x)) (λe=>GN.o.2.2.2 e) k);have O2:=hD (OD.o.far (p:=(G.bf,x)) (λe=>by have h9:G.bf<G.B:=HLO.o _ e;have:=HG.o.hf;omega) k);go_upto_region 2 with fail;clear bf zf SD BD OD FD;generalize w1.setCell (G.bf,x) k=w2 at *;have d0:=(B2.o.cell 0).trans rfl;have d1:=(B2.o.cell 1).trans rfl;have d2:=(B2.o.cell 2).trans rfl;have d3:=(B2.o.cell 3).trans rfl;have d4:=(B2.o.cell 4).trans rfl;go_wp2_with fail
 refine dY (aAm HM (x:=x) (line:=line) (l:=[]) (by simp) S2 HX3 O2 HLO HA) λw3 S3 f3=>?_;have F3:=hD (F2.o.trans f3);clear f3 S2 F2 B2 O2 d0 d1 d2 d3 d4;go_wp2
 exact gF rfl rfl ⟨rfl,S3,F3⟩
theorem aGe (hM:G.M=24) (hx:G.ns[x]?=some ⟨17,line,0,[],[a]⟩) (ha:∀i∈[a],iN 170 G zs k i (ex i)):sJ G zs k (λx s=>iP G.fs k ex bl x ⟨17,line,0,[],[a]⟩ s) x ⟨17,line,0,[],[a]⟩:=λw s A c h ho hlow=>by
 have ho:Own w 3 1 (.slice A 1 c) 1 (ints [a]):=ho;have HG:=hD h.geo;have HM:=hD hM;have HLO:Hd (∀b,blk (.slice A 1 c)=some b->b<G.B):=hlow;have hxl:=(gK hx);have hx3:(x:Int)<(G.ns.length:Int):=by omega
 have hx4:(G.ns.length:Int)≤300:=by have:=h.geo.few;omega
 have HX3:=hD (show x≤300 from by omega);have FA:Hd (Fr nob w (w.alloc (.cells #[(17:Int),line,U0,bs [],.slice A 1 c] 50))):=(fR w).alloc _;have B1:=hD (Blk.new w 50 #[(17:Int),line,U0,bs [],.slice A 1 c]);have S1:Hd (Kq G _ s zs k 0 0):=h.no FA;have O1:=hD (ho.fr FA (λ_ _ x=>x));have GN:=hD (show w.heap.size≠G.g∧w.heap.size≠G.bt∧w.heap.size≠G.bs∧w.heap.size≠G.bf from by have:=h.geo.lg;have:=h.geo.lt;have:=h.geo.ls;have:=h.geo.lf;have:=h.zle;exact⟨by omega,by omega,by omega,by omega⟩);have HA:=hD ha;clear ha h ho hlow hM hx hxl;dsimp only[List.length_cons,List.length_nil];go_enter func145,ntmps145;go_upto_region 1 with fail;generalize w.alloc (.cells #[(17:Int),line,U0,bs [],.slice A 1 c] 50)=w0 at *;generalize hT:w.heap.size=T at *;obtain⟨_,_,-,-,-,-,c6,-,c8,-⟩:=S1.o.cells;go_wp2_with fail
 go_still_tail 11,(by kernel_rfl)
 change wpList _ _ _ _ _ w0.drew;clear c6 c8;have SD:=hD (S1.o.no (fR w0).drew);have BD:=hD (B1.o.fr (fR w0).drew (λx=>x));have OD:=hD (O1.o.fr (fR w0).drew (λ_ _ x=>x));have FD:Hd (FrK G w w0.drew):=FrK.no (FA.o.tr (fR w0).drew);clear S1 B1 O1 FA;generalize w0.drew=w1 at *;obtain⟨⟨u2,bf⟩,zf⟩:=SD.o.fn.iH (j:=x) (by omega);have S2:Hd (Kq G _ (bX k x s) zs k 0 0):=(SD.o.kH x k).1;have F2:=hD (FD.o.trans (SD.o.kH x k).2);have B2:=hD (BD.o.far (p:=(G.bf,x)) (λe=>GN.o.2.2.2 e) k);have O2:=hD (OD.o.far (p:=(G.bf,x)) (λe=>by have h9:G.bf<G.B:=HLO.o _ e;have:=HG.o.hf;omega) k);go_upto_region 2 with fail;clear bf zf SD BD OD FD;generalize w1.setCell (G.bf,x) k=w2 at *;have d0:=(B2.o.cell 0).trans rfl;have d1:=(B2.o.cell 1).trans rfl;have d2:=(B2.o.cell 2).trans rfl;have d3:=(B2.o.cell 3).trans rfl;have d4:=(B2.o.cell 4).trans rfl;go_wp2_with fail
 refine dY (aAm HM (x:=x) (line:=line) (l:=[a]) (by simp) S2 HX3 O2 HLO HA) λw3 S3 f3=>?_;have F3:=hD (F2.o.trans f3);clear f3 S2 F2 B2 O2 d0 d1 d2 d3 d4;go_wp2
 exact gF rfl rfl ⟨rfl,S3,F3⟩
theorem aCp (hM:G.M=24) (hx:G.ns[x]?=some ⟨14,line,0,[],[a]⟩) (ha:iN 170 G zs k a (ex a)):sJ G zs k (λx s=>iP G.fs k ex bl x ⟨14,line,0,[],[a]⟩ s) x ⟨14,line,0,[],[a]⟩:=λw s A c h ho hlow=>by
 have ho:Own w 3 1 (.slice A 1 c) 1 (ints [a]):=ho;have HG:=hD h.geo;have HM:=hD hM;have HLO:Hd (∀b,blk (.slice A 1 c)=some b->b<G.B):=hlow;have hxl:=(gK hx);have hx3:(x:Int)<(G.ns.length:Int):=by omega
 have hx4:(G.ns.length:Int)≤300:=by have:=h.geo.few;omega
 have FA:Hd (Fr nob w (w.alloc (.cells #[.int .i64 14,.int .i64 line,.int .i64 0,.string (bs []),.slice A 1 c] 50))):=(fR w).alloc _;have B1:=hD (Blk.new w 50 #[.int .i64 14,.int .i64 line,.int .i64 0,.string (bs []),.slice A 1 c]);have S1:Hd (Kq G _ s zs k 0 0):=h.no FA;have O1:=hD (ho.fr FA (λ_ _ x=>x));have GN:=hD (show w.heap.size≠G.g∧w.heap.size≠G.bt∧w.heap.size≠G.bs∧w.heap.size≠G.bf from by have:=h.geo.lg;have:=h.geo.lt;have:=h.geo.ls;have:=h.geo.lf;have:=h.zle;exact⟨by omega,by omega,by omega,by omega⟩);have HA:=hD ha;clear ha h ho hlow hM hx hxl;dsimp only[List.length_cons,List.length_nil];go_enter func145,ntmps145;go_upto_region 1 with fail;generalize w.alloc (.cells #[.int .i64 14,.int .i64 line,.int .i64 0,.string (bs []),.slice A 1 c] 50)=w0 at *;generalize hT:w.heap.size=T at *;obtain⟨_,_,-,-,-,-,c6,-,c8,-⟩:=S1.o.cells;go_wp2_with fail
 go_still_tail 11,(by kernel_rfl)
 change wpList _ _ _ _ _ w0.drew;clear c6 c8;have SD:=hD (S1.o.no (fR w0).drew);have BD:=hD (B1.o.fr (fR w0).drew (λx=>x));have OD:=hD (O1.o.fr (fR w0).drew (λ_ _ x=>x));have FD:Hd (FrK G w w0.drew):=FrK.no (FA.o.tr (fR w0).drew);clear S1 B1 O1 FA;generalize w0.drew=w1 at *;obtain⟨⟨u2,bf⟩,zf⟩:=SD.o.fn.iH (j:=x) (by omega);have S2:Hd (Kq G _ (bX k x s) zs k 0 0):=(SD.o.kH x k).1;have F2:=hD (FD.o.trans (SD.o.kH x k).2);have B2:=hD (BD.o.far (p:=⟨G.bf,x,none⟩) (λe=>GN.o.2.2.2 e) (.int .i64 (k:Nat)));have O2:=hD (OD.o.far (p:=⟨G.bf,x,none⟩) (λe=>by have h9:G.bf<G.B:=HLO.o _ e;have:=HG.o.hf;omega) (.int .i64 (k:Nat)));go_upto_region 2 with fail;clear bf zf SD BD OD FD;generalize w1.setCell ⟨G.bf,x,none⟩ (.int .i64 (k:Nat))=w2 at *;have d0:=(B2.o.cell 0).trans rfl;have d4:=(B2.o.cell 4).trans rfl;obtain⟨kb,e9,kc⟩:=O2.o.some (by simp);subst e9;have k0:=kc 0 (.int .i64 (a:Nat)) rfl;have hc1:1≤c:=by have:=O2.o.oU.1;omega
 have KB:=hD (show kb≠G.g∧kb≠G.bt∧kb≠G.bs∧kb≠G.bf from by have:=HLO.o kb (aZ (by omega) (by omega));have:=HG.o.hg;have:=HG.o.ht;have:=HG.o.hs;have:=HG.o.hf;exact⟨by omega,by omega,by omega,by omega⟩);clear kc;have K2:=hD (And.intro d4 k0);have M2:Hd (KqM G w2 (.good (bX k x s)) zs k):=S2;go_wp2_with fail
 go_region_held3 (λwx=>wx.cell? ⟨T,4,none⟩=some (.slice (some ⟨kb,0,none⟩) 1 c)∧wx.cell? ⟨kb,0,none⟩=some (.int .i64 (a:Nat))) (first|exact K2.o|exact K3.o|exact K4) (first
  | (go_at_call 170;go_loud (refine (HA _ _ (M2.o.no ((fR w2).drew))).mono ?_);go_loud (rintro en w3 ⟨u,rfl,h3,f3⟩);go_loud (have S3:=hD h3);go_loud (have F3:=hD ((FrK.no ((fR w2).drew)).trans f3));go_loud (have B3:=hD (f3.far (B2.o.fr (fR w2).drew (λx=>x)) GN.o.1 GN.o.2.1 GN.o.2.2.1 GN.o.2.2.2 (by decide)));go_loud (have O3:=hD (f3.own (O2.o.fr (fR w2).drew (λ_ _ x=>x)) (by decide) (λb hb=>by rw[aZ (by decide) hc1] at hb;injection hb with hb;subst hb;exact KB)));go_loud (have K3:=hD (And.intro ((B3.o.cell 4).trans (show _=some (.slice (some ⟨kb,0,none⟩) 1 c) from rfl)) (cell_of (j:=0) (u:= .int .i64 (a:Nat)) O3 (by decide) rfl)));go_loud (clear h3 f3))
  | (go_at_call 95;go_loud (refine (S3.o.st.ask _ 42 x (by decide) (by decide)).mono ?_);go_loud (rintro en w4 ⟨rfl,h4,f4⟩);go_loud (have S4:=hD h4);go_loud (have F4:=hD (F3.o.trans (FrK.ofG f4)));go_loud (have B4:=hD (B3.o.fr f4 GN.o.1));go_loud (have O4:=hD (O3.o.fr f4 (λb hb e=>by rw[aZ (by decide) hc1] at hb;injection hb with hb;subst hb;exact KB.o.1 e)));go_loud (have K4:=hD (And.intro ((B4.o.cell 4).trans (show _=some (.slice (some ⟨kb,0,none⟩) 1 c) from rfl)) (cell_of (j:=0) (u:= .int .i64 (a:Nat)) O4 (by decide) rfl)));go_loud (clear h4 f4)))
 all_goals
  have FIN:=hD (show KqM G w4 (iP G.fs k ex bl x ⟨14,line,0,[],[a]⟩ s) zs k from by
    show KqM G w4 (((CkR.good (bX k x s)).bind (ex a)).bind λr=>if r.1≠4 then .good r.2 else .bad 42 x) zs k
    rw[<-zB (P:=λa=>a≠4) (b:=((u:Int) != 4)) S3.o.val (by rw[Bool.eq_iff_iff];simp;omega)];exact S4)
  have FF:=hD (F2.o.trans F4);go_wp2
  exact gF rfl rfl ⟨rfl,by first|exact FIN.o.toN HM.o|exact (FIN.o.toN HM).no ((fR _).drew),by first|exact FF.o|exact FF.o.trans (FrK.no ((fR _).drew))⟩
theorem aKp (hM:G.M=24) (hx:G.ns[x]?=some ⟨11,line,0,nm,[a]⟩) (ha:iN 170 G zs k a (ex a)):sJ G zs k (λx s=>iP G.fs k ex bl x ⟨11,line,0,nm,[a]⟩ s) x ⟨11,line,0,nm,[a]⟩:=λw s A c h ho hlow=>by
 have ho:Own w 3 1 (.slice A 1 c) 1 (ints [a]):=ho;have HG:=hD h.geo;have HM:=hD hM;have HX:=hD hx;have HLO:Hd (∀b,blk (.slice A 1 c)=some b->b<G.B):=hlow;have hxl:=(gK hx);have hx3:(x:Int)<(G.ns.length:Int):=by omega
 have hx4:(G.ns.length:Int)≤300:=by have:=h.geo.few;omega
 have FA:Hd (Fr nob w (w.alloc (.cells #[.int .i64 11,.int .i64 line,.int .i64 0,.string (bs nm),.slice A 1 c] 50))):=(fR w).alloc _;have B1:=hD (Blk.new w 50 #[.int .i64 11,.int .i64 line,.int .i64 0,.string (bs nm),.slice A 1 c]);have S1:Hd (Kq G _ s zs k 0 0):=h.no FA;have O1:=hD (ho.fr FA (λ_ _ x=>x));have GN:=hD (show w.heap.size≠G.g∧w.heap.size≠G.bt∧w.heap.size≠G.bs∧w.heap.size≠G.bf from by have:=h.geo.lg;have:=h.geo.lt;have:=h.geo.ls;have:=h.geo.lf;have:=h.zle;exact⟨by omega,by omega,by omega,by omega⟩);have HA:=hD ha;clear ha h ho hlow hM hx hxl;dsimp only[List.length_cons,List.length_nil];go_enter func145,ntmps145;go_upto_region 1 with fail;generalize w.alloc (.cells #[.int .i64 11,.int .i64 line,.int .i64 0,.string (bs nm),.slice A 1 c] 50)=w0 at *;generalize hT:w.heap.size=T at *;obtain⟨_,_,-,-,-,-,c6,-,c8,-⟩:=S1.o.cells;go_wp2_with fail
 go_still_tail 11,(by kernel_rfl)
 change wpList _ _ _ _ _ w0.drew;clear c6 c8;have SD:=hD (S1.o.no (fR w0).drew);have BD:=hD (B1.o.fr (fR w0).drew (λx=>x));have OD:=hD (O1.o.fr (fR w0).drew (λ_ _ x=>x));have FD:Hd (FrK G w w0.drew):=FrK.no (FA.o.tr (fR w0).drew);clear S1 B1 O1 FA;generalize w0.drew=w1 at *;obtain⟨⟨u2,bf⟩,zf⟩:=SD.o.fn.iH (j:=x) (by omega);have S2:Hd (Kq G _ (bX k x s) zs k 0 0):=(SD.o.kH x k).1;have F2:=hD (FD.o.trans (SD.o.kH x k).2);have B2:=hD (BD.o.far (p:=⟨G.bf,x,none⟩) (λe=>GN.o.2.2.2 e) (.int .i64 (k:Nat)));have O2:=hD (OD.o.far (p:=⟨G.bf,x,none⟩) (λe=>by have h9:G.bf<G.B:=HLO.o _ e;have:=HG.o.hf;omega) (.int .i64 (k:Nat)));go_upto_region 2 with fail;clear bf zf SD BD OD FD;generalize w1.setCell ⟨G.bf,x,none⟩ (.int .i64 (k:Nat))=w2 at *;have d0:=(B2.o.cell 0).trans rfl;go_wp2_with fail
 refine (KqM.named (zs:=zs) (k:=k) HX _ _ (show KqM G w2 (.good (bX k x s)) zs k from S2)).mono ?_;rintro en w2 ⟨t,rfl,h3,f3⟩;have N2:=hD h3;have F9:=hD (F2.o.trans f3);have B9:=hD (f3.far B2 GN.o.1 GN.o.2.1 GN.o.2.2.1 GN.o.2.2.2 (by decide));have O9:=hD (f3.own O2 (by decide) (λb hb=>by have:=HLO.o b hb;have:=HG.o.hg;have:=HG.o.ht;have:=HG.o.hs;have:=HG.o.hf;exact⟨by omega,by omega,by omega,by omega⟩));clear h3 f3 S2 F2 B2 O2 d0;have d4:=(B9.o.cell 4).trans rfl;obtain⟨kb,e9,kc⟩:=O9.o.some (by simp);subst e9;have k0:=kc 0 (.int .i64 (a:Nat)) rfl;have hc1:1≤c:=by have:=O9.o.oU.1;omega
 have KB:=hD (show kb≠G.g∧kb≠G.bt∧kb≠G.bs∧kb≠G.bf from by have:=HLO.o kb (aZ (by omega) (by omega));have:=HG.o.hg;have:=HG.o.ht;have:=HG.o.hs;have:=HG.o.hf;exact⟨by omega,by omega,by omega,by omega⟩);clear kc;have K2:=hD (And.intro d4 k0);have M2:=hD N2.o.st;go_wp2_with fail
 go_region_held3 (λwx=>wx.cell? ⟨T,4,none⟩=some (.slice (some ⟨kb,0,none⟩) 1 c)∧wx.cell? ⟨kb,0,none⟩=some (.int .i64 (a:Nat))) (first|exact K2.o|exact K3.o|exact K4) (first
  | (go_at_call 170;go_loud (refine (HA _ _ (M2.o.no ((fR w2).drew))).mono ?_);go_loud (rintro en w3 ⟨u,rfl,h3,f3⟩);go_loud (have S3:=hD h3);go_loud (have F3:=hD ((FrK.no ((fR w2).drew)).trans f3));go_loud (have B3:=hD (f3.far (B9.o.fr (fR w2).drew (λx=>x)) GN.o.1 GN.o.2.1 GN.o.2.2.1 GN.o.2.2.2 (by decide)));go_loud (have O3:=hD (f3.own (O9.o.fr (fR w2).drew (λ_ _ x=>x)) (by decide) (λb hb=>by rw[aZ (by decide) hc1] at hb;injection hb with hb;subst hb;exact KB)));go_loud (have K3:=hD (And.intro ((B3.o.cell 4).trans (show _=some (.slice (some ⟨kb,0,none⟩) 1 c) from rfl)) (cell_of (j:=0) (u:= .int .i64 (a:Nat)) O3 (by decide) rfl)));go_loud (clear h3 f3))
  | (go_at_call 95;go_loud (refine (S3.o.st.ask _ 42 x (by decide) (by decide)).mono ?_);go_loud (rintro en w4 ⟨rfl,h4,f4⟩);go_loud (have S4:=hD h4);go_loud (have F4:=hD (F3.o.trans (FrK.ofG f4)));go_loud (have B4:=hD (B3.o.fr f4 GN.o.1));go_loud (have O4:=hD (O3.o.fr f4 (λb hb e=>by rw[aZ (by decide) hc1] at hb;injection hb with hb;subst hb;exact KB.o.1 e)));go_loud (have K4:=hD (And.intro ((B4.o.cell 4).trans (show _=some (.slice (some ⟨kb,0,none⟩) 1 c) from rfl)) (cell_of (j:=0) (u:= .int .i64 (a:Nat)) O4 (by decide) rfl)));go_loud (clear h4 f4)))
 all_goals
  have FIN:=hD (show KqM G w4 (iP G.fs k ex bl x ⟨11,line,0,nm,[a]⟩ s) zs k from by
    show KqM G w4 (((CkR.good (bX k x s)).bind (aV x nm)).bind λt=>(ex a t.2).bind λr=>if t.1=r.1 then .good r.2 else .bad 42 x) zs k
    rw[<-aNs (f:=ex a) (P:=λa b=>a=b) (b:=((u:Int)==(t:Int))) N2.o.val S3.o.val (by rw[Bool.eq_iff_iff];simp;omega)];exact S4)
  have FF:=hD (F9.o.trans F4);go_wp2
  exact gF rfl rfl ⟨rfl,by first|exact FIN.o.toN HM.o|exact (FIN.o.toN HM).no ((fR _).drew),by first|exact FF.o|exact FF.o.trans (FrK.no ((fR _).drew))⟩
end
section
variable {G:Geo}{w w':World}{s:CkS}{r:CkR CkS}{zs:List Nat}{k e p:Nat}{ex:Nat->CkS->CkR (Nat×CkS)}{bl:Nat->CkS->CkR CkS}
theorem aGt {fs:List aD}{t t0 t1:Nat}{B:Bool} (h1:∀t' s',(CkR.good (bX k x s)).bind (aV x nm) = .good (t',s')->t=t') (h2:∀t' s',((((CkR.good (bX k x s)).bind (aV x nm)).map (·.2)).bind (bH ex [a,b])) = .good (t',s')->[t0,t1]=t') (hb:B=decide (t=4∧t0=1∧t1=1)):
  iP fs k ex bl x ⟨12,line,0,nm,[a,b]⟩ s=(((((CkR.good (bX k x s)).bind (aV x nm)).map (·.2)).bind (bH ex [a,b])).map (·.2)).bind λs=>if B=true then .good s else .bad 42 x:=by
 show ((aV x nm (bX k x s)).bind λt=>(ex a t.2).bind λr=>(ex b r.2).bind λq=>if t.1=4∧r.1=1∧q.1=1 then .good q.2 else .bad 42 x)=_
 simp only[CkR.aC] at h1 h2 ⊢;cases hq:aV x nm (bX k x s) with
 | bad e p=>rfl
 | good v=>
  rw[hq] at h1 h2;have:=h1 v.1 v.2 rfl;subst this;simp only[CkR.cB,CkR.aC] at h2 ⊢;rw[args2] at h2 ⊢;cases ha:ex a v.2 with
  | bad e p=>rfl
  | good u=>
   rw[ha] at h2;simp only[CkR.aC] at h2 ⊢;cases hbb:ex b u.2 with
   | bad e p=>rfl
   | good y=>
    rw[hbb] at h2;have h3:=h2 [u.1,y.1] y.2 rfl;injection h3 with h3 h4;injection h4 with h4 _;subst h3;subst h4;simp only[CkR.cB,CkR.aC,hb,decide_eq_true_eq]
theorem aKq (hM:G.M=24) (hx:G.ns[x]?=some ⟨12,line,0,nm,[a,b]⟩) (ha:∀i∈[a,b],iN 170 G zs k i (ex i)):sJ G zs k (λx s=>iP G.fs k ex bl x ⟨12,line,0,nm,[a,b]⟩ s) x ⟨12,line,0,nm,[a,b]⟩:=λw s A c h ho hlow=>by
 have ho:Own w 3 1 (.slice A 2 c) 2 (ints [a,b]):=ho;have HG:=hD h.geo;have HM:=hD hM;have HX:=hD hx;have HLO:Hd (∀b,blk (.slice A 2 c)=some b->b<G.B):=hlow;have hxl:=(gK hx);have hx3:(x:Int)<(G.ns.length:Int):=by omega
 have hx4:(G.ns.length:Int)≤300:=by have:=h.geo.few;omega
 have FA:Hd (Fr nob w (w.alloc (.cells #[(12:Int),line,U0,bs nm,.slice A 2 c] 50))):=(fR w).alloc _;have B1:=hD (Blk.new w 50 #[(12:Int),line,U0,bs nm,.slice A 2 c]);have S1:Hd (Kq G _ s zs k 0 0):=h.no FA;have O1:=hD (ho.fr FA (λ_ _ x=>x));have GN:=hD (show w.heap.size≠G.g∧w.heap.size≠G.bt∧w.heap.size≠G.bs∧w.heap.size≠G.bf from by have:=h.geo.lg;have:=h.geo.lt;have:=h.geo.ls;have:=h.geo.lf;have:=h.zle;exact⟨by omega,by omega,by omega,by omega⟩);have HA:=hD ha;clear ha h ho hlow hM hx hxl;dsimp only[List.length_cons,List.length_nil];go_enter func145,ntmps145;go_upto_region 1 with fail;generalize w.alloc (.cells #[(12:Int),line,U0,bs nm,.slice A 2 c] 50)=w0 at *;generalize hT:w.heap.size=T at *;obtain⟨_,_,-,-,-,-,c6,-,c8,-⟩:=S1.o.cells;go_wp2_with fail
 go_still_tail 11,(by kernel_rfl)
 change wpList _ _ _ _ _ w0.drew;clear c6 c8;have SD:=hD (S1.o.no (fR w0).drew);have BD:=hD (B1.o.fr (fR w0).drew (λx=>x));have OD:=hD (O1.o.fr (fR w0).drew (λ_ _ x=>x));have FD:Hd (FrK G w w0.drew):=FrK.no (FA.o.tr (fR w0).drew);clear S1 B1 O1 FA;generalize w0.drew=w1 at *;obtain⟨⟨u2,bf⟩,zf⟩:=SD.o.fn.iH (j:=x) (by omega);have S2:Hd (Kq G _ (bX k x s) zs k 0 0):=(SD.o.kH x k).1;have F2:=hD (FD.o.trans (SD.o.kH x k).2);have B2:=hD (BD.o.far (p:=(G.bf,x)) (λe=>GN.o.2.2.2 e) k);have O2:=hD (OD.o.far (p:=(G.bf,x)) (λe=>by have h9:G.bf<G.B:=HLO.o _ e;have:=HG.o.hf;omega) k);go_upto_region 2 with fail;clear bf zf SD BD OD FD;generalize w1.setCell (G.bf,x) k=w2 at *;have d0:=(B2.o.cell 0).trans rfl;go_wp2_with fail
 refine (KqM.named (zs:=zs) (k:=k) HX _ _ (show KqM G w2 (.good (bX k x s)) zs k from S2)).mono ?_;rintro en w2 ⟨t,rfl,h3,f3⟩;have N2:=hD h3;have F9:=hD (F2.o.trans f3);have B9:=hD (f3.far B2 GN.o.1 GN.o.2.1 GN.o.2.2.1 GN.o.2.2.2 (by decide));have O9:=hD (f3.own O2 (by decide) (λb hb=>by have:=HLO.o b hb;have:=HG.o.hg;have:=HG.o.ht;have:=HG.o.hs;have:=HG.o.hf;exact⟨by omega,by omega,by omega,by omega⟩));clear h3 f3 S2 F2 B2 O2 d0;have d0:=(B9.o.cell 0).trans rfl;have d1:=(B9.o.cell 1).trans rfl;have d2:=(B9.o.cell 2).trans rfl;have d3:=(B9.o.cell 3).trans rfl;have d4:=(B9.o.cell 4).trans rfl;go_wp2_with fail
 refine (iL (kind:=12) (line:=line) (n:=0) (nm:=nm) HA N2.o.st O9 HLO (by simp)).mono ?_;rintro en w3 ⟨A3,c3,ts,rfl,h3,f3⟩;have S3:=hD h3;have F3:=hD (F9.o.trans f3);clear h3 f3 B9 O9 F9 d0 d1 d2 d3 d4;have hts:ts.length=2:=by have:=S3.o.own.len;simpa[ints] using this
 obtain⟨t0,t1,rfl⟩:∃t0 t1,ts=[t0,t1]:=by
  match ts,hts with
  | [u,v],_=>exact⟨u,v,rfl⟩
 have VL:=hD S3.o.val;obtain⟨tb,e9,htc⟩:=S3.o.own.some (by simp);subst e9;have g0:=htc 0 t0 rfl;have g1:=htc 1 t1 rfl;have hc3:2≤c3:=by have:=S3.o.own.oU.1;simpa using this
 clear htc hts;have SD:=hD (S3.o.st.no ((fR w3).drew));have FD:=hD (F3.o.trans (FrK.no ((fR w3).drew)));obtain⟨b1,hb1⟩:∃b1,((t:Int)==4)=b1:=⟨_,rfl⟩;obtain⟨b2,hb2⟩:∃b2,((t0:Int)==1)=b2:=⟨_,rfl⟩;obtain⟨b3,hb3⟩:∃b3,((t1:Int)==1)=b3:=⟨_,rfl⟩;have HB:=hD (show (b1 && b2 && b3)=decide (t=4∧t0=1∧t1=1) from by subst hb1;subst hb2;subst hb3;rw[Bool.eq_iff_iff];simp;omega);have HB9:=HB;clear HB;cases b1 with
 | false=>
  go_wp2_with fail
  refine wp_region_still_tail 18 (by kernel_rfl) (by kernel_rfl) ?_;simp only[List.take_succ_cons,List.take_zero,List.drop_succ_cons,List.drop_zero];iterate 6 still_step
  iterate 4 (with_reducible refine iR (by kernel_rfl) ?_;simp only[Act.put,List.setIfInBounds_toArray,List.set_cons_zero,List.set_cons_succ])
  iterate 2 still_step
  iterate 4 (with_reducible refine iR (by kernel_rfl) ?_;simp only[Act.put,List.setIfInBounds_toArray,List.set_cons_zero,List.set_cons_succ])
  iterate 2 still_step
  refine wpStill_nil ?_;change wpList _ _ _ _ _ w3.drew;clear g0 g1 S3 F3;generalize w3.drew=w5 at *;go_wp2_with fail
  refine dY (SD.o.ask false 42 x (by decide) (by decide)) λw6 h6 f6=>?_;have FIN:=hD (show KqM G w6 (iP G.fs k ex bl x ⟨12,line,0,nm,[a,b]⟩ s) zs k from by
   rw[aGt N2.o.val VL.o HB9.o];exact h6);have FF:=hD (FD.o.trans (FrK.ofG f6));clear h6 f6 SD FD;go_wp2
  exact gF rfl rfl ⟨rfl,FIN.o.toN HM,FF⟩
 | true=>
  cases b2
  case' false=>
   go_wp2_with fail
   refine wp_region_still_tail 18 (by kernel_rfl) (by kernel_rfl) ?_;simp only[List.take_succ_cons,List.take_zero,List.drop_succ_cons,List.drop_zero];iterate 6 still_step
   iterate 4 (with_reducible refine kU (by kernel_rfl) (λK hK=>?_);go_simp;refine hK _ ?_;clear hK K)
   iterate 2 still_step
   iterate 4 (with_reducible refine iR (by kernel_rfl) ?_;simp only[Act.put,List.setIfInBounds_toArray,List.set_cons_zero,List.set_cons_succ])
   iterate 2 still_step
   refine wpStill_nil ?_;change wpList _ _ _ _ _ w3.drew;clear g0 g1 S3 F3;generalize w3.drew=w5 at *;go_wp2_with fail
   refine dY (SD.o.ask false 42 x (by decide) (by decide)) λw6 h6 f6=>?_
  case' true=>
   go_wp2_with fail
   refine wp_region_still_tail 18 (by kernel_rfl) (by kernel_rfl) ?_;simp only[List.take_succ_cons,List.take_zero,List.drop_succ_cons,List.drop_zero];iterate 6 still_step
   iterate 4 (with_reducible refine kU (by kernel_rfl) (λK hK=>?_);go_simp;refine hK _ ?_;clear hK K)
   iterate 2 still_step
   iterate 4 (with_reducible refine kU (by kernel_rfl) (λK hK=>?_);go_simp;refine hK _ ?_;clear hK K)
   iterate 2 still_step
   refine wpStill_nil ?_;change wpList _ _ _ _ _ w3.drew;clear g0 g1 S3 F3;generalize w3.drew=w5 at *;go_wp2_with fail
   refine dY (SD.o.ask b3 42 x (by decide) (by decide)) λw6 h6 f6=>?_
  all_goals
   have FIN:=hD (show KqM G w6 (iP G.fs k ex bl x ⟨12,line,0,nm,[a,b]⟩ s) zs k from by
    rw[aGt N2.o.val VL.o HB9.o];exact h6);have FF:=hD (FD.o.trans (FrK.ofG f6));clear h6 f6 SD FD;go_wp2
   exact gF rfl rfl ⟨rfl,FIN.o.toN HM,FF⟩
end
theorem vZ {m:List Nat} (q:CkR (Nat×CkS)):(q.bind λr=>if r.1=2 then eO st m r.2 else .bad 42 x)=(q.bind λr=>if r.1=2 then .good r.2 else .bad 42 x).bind (eO st m):=by
 cases q with
 | bad e p=>rfl
 | good v=>
  simp only[CkR.aC];by_cases h:v.1=2
  . rw[if_pos h,if_pos h];rfl
  . rw[if_neg h,if_neg h];rfl
theorem xI {m:List Nat}{j y:Nat} (R:CkR CkS) (hy:m[j]?=some y):R.bind (eO st (m.take (j+1)))=(R.bind (eO st (m.take j))).bind (st y):=by
 rw[show m.take (j+1)=m.take j++[y] from by rw[List.take_add_one,hy];rfl];cases R with
 | bad e p=>rfl
 | good s=>exact iT st y _ s
theorem aBj (R:CkR CkS):R.bind (eO st [])=R:=by cases R<;>rfl
section
variable {G:Geo}{w w':World}{s:CkS}{r:CkR CkS}{zs:List Nat}{k e p:Nat}{ex:Nat->CkS->CkR (Nat×CkS)}{bl:Nat->CkS->CkR CkS}
theorem KqN.open_ (h:KqN G w r zs k) (hM:G.M=24):∃s e p,Kq G.more w s zs k e p∧gY r s e p:=by
 cases r with
 | good s=>exact⟨s,0,0,Kq.more h (by omega),.inl ⟨rfl,rfl,rfl⟩⟩
 | bad e p=>obtain⟨h1,h2,s,h3⟩:=h;exact⟨s,e,p,h3,.inr ⟨h1,h2,rfl⟩⟩
theorem tF {kd:Nat} (hkd:kd=15∨kd=16) (hM:G.M=24) (hx:G.ns[x]?=some ⟨kd,line,0,[],[a,b]⟩) (ha:iN 170 G zs k a (ex a)) (hbl:∀y∈[b],aJi G zs k bl y):sJ G zs k (λx s=>iP G.fs k ex bl x ⟨kd,line,0,[],[a,b]⟩ s) x ⟨kd,line,0,[],[a,b]⟩:=λw s A c h ho hlow=>by
 have ho:Own w 3 1 (.slice A 2 c) 2 (ints [a,b]):=ho;have HG:=hD h.geo;have HM:=hD hM;have HLO:Hd (∀b,blk (.slice A 2 c)=some b->b<G.B):=hlow;have hxl:=(gK hx);have hx3:(x:Int)<(G.ns.length:Int):=by omega
 have hx4:(G.ns.length:Int)≤300:=by have:=h.geo.few;omega
 have FA:Hd (Fr nob w (w.alloc (.cells #[.int .i64 kd,.int .i64 line,.int .i64 0,.string (bs []),.slice A 2 c] 50))):=(fR w).alloc _;have B1:=hD (Blk.new w 50 #[.int .i64 kd,.int .i64 line,.int .i64 0,.string (bs []),.slice A 2 c]);have S1:Hd (Kq G _ s zs k 0 0):=h.no FA;have O1:=hD (ho.fr FA (λ_ _ x=>x));have GN:=hD (show w.heap.size≠G.g∧w.heap.size≠G.bt∧w.heap.size≠G.bs∧w.heap.size≠G.bf from by have:=h.geo.lg;have:=h.geo.lt;have:=h.geo.ls;have:=h.geo.lf;have:=h.zle;exact⟨by omega,by omega,by omega,by omega⟩);have HA:=hD ha;have HBL:=hD hbl;have e10:((kd:Int)==10)=false:=by rcases hkd with rfl|rfl<;>rfl
 have e11:((kd:Int)==11)=false:=by rcases hkd with rfl|rfl<;>rfl
 have e12:((kd:Int)==12)=false:=by rcases hkd with rfl|rfl<;>rfl
 have e13:((kd:Int)==13)=false:=by rcases hkd with rfl|rfl<;>rfl
 have e14:((kd:Int)==14)=false:=by rcases hkd with rfl|rfl<;>rfl
 have e17:((kd:Int)==17)=false:=by rcases hkd with rfl|rfl<;>rfl
 have EQ:=hD (show iP G.fs k ex bl x ⟨kd,line,0,[],[a,b]⟩ s=((CkR.good (bX k x s)).bind (ex a)).bind λr=>if r.1=2 then eO bl [b] r.2 else .bad 42 x from by rcases hkd with rfl|rfl<;>rfl);clear ha hbl hkd h ho hlow hM hx hxl;dsimp only[List.length_cons,List.length_nil];go_enter func145,ntmps145;go_upto_region 1 with fail;generalize w.alloc (.cells #[.int .i64 kd,.int .i64 line,.int .i64 0,.string (bs []),.slice A 2 c] 50)=w0 at *;generalize hT:w.heap.size=T at *;obtain⟨_,_,-,-,-,-,c6,-,c8,-⟩:=S1.o.cells;go_wp2_with fail
 go_still_tail 11,(by kernel_rfl)
 change wpList _ _ _ _ _ w0.drew;clear c6 c8;have SD:=hD (S1.o.no (fR w0).drew);have BD:=hD (B1.o.fr (fR w0).drew (λx=>x));have OD:=hD (O1.o.fr (fR w0).drew (λ_ _ x=>x));have FD:Hd (FrK G w w0.drew):=FrK.no (FA.o.tr (fR w0).drew);clear S1 B1 O1 FA;generalize w0.drew=w1 at *;obtain⟨⟨u2,bf⟩,zf⟩:=SD.o.fn.iH (j:=x) (by omega);have S2:Hd (Kq G _ (bX k x s) zs k 0 0):=(SD.o.kH x k).1;have F2:=hD (FD.o.trans (SD.o.kH x k).2);have B2:=hD (BD.o.far (p:=⟨G.bf,x,none⟩) (λe=>GN.o.2.2.2 e) (.int .i64 (k:Nat)));have O2:=hD (OD.o.far (p:=⟨G.bf,x,none⟩) (λe=>by have h9:G.bf<G.B:=HLO.o _ e;have:=HG.o.hf;omega) (.int .i64 (k:Nat)));go_upto_region 2 with fail;clear bf zf SD BD OD FD;generalize w1.setCell ⟨G.bf,x,none⟩ (.int .i64 (k:Nat))=w2 at *;have d0:w2.cell? ⟨T,0,none⟩=some (.int .i64 kd):=(B2.o.cell 0).trans rfl;have d4:=(B2.o.cell 4).trans rfl;obtain⟨kb,e9,kc⟩:=O2.o.some (by simp);subst e9;have k0:=kc 0 (.int .i64 (a:Nat)) rfl;have hc1:2≤c:=by have:=O2.o.oU.1;omega
 have hc3:(2:Int)≤(c:Int):=by omega
 have KB:=hD (show kb≠G.g∧kb≠G.bt∧kb≠G.bs∧kb≠G.bf from by have:=HLO.o kb (aZ (by omega) (by omega));have:=HG.o.hg;have:=HG.o.ht;have:=HG.o.hs;have:=HG.o.hf;exact⟨by omega,by omega,by omega,by omega⟩);clear kc;have K2:=hD (And.intro d4 k0);have M2:Hd (KqM G w2 (.good (bX k x s)) zs k):=S2;go_wp2_with fail
 go_region_held3 (λwx=>wx.cell? ⟨T,4,none⟩=some (.slice (some ⟨kb,0,none⟩) 2 c)∧wx.cell? ⟨kb,0,none⟩=some (.int .i64 (a:Nat))) (first|exact K2.o|exact K3.o|exact K4) (first
  | (go_at_call 170;go_loud (refine (HA _ _ (M2.o.no ((fR w2).drew))).mono ?_);go_loud (rintro en w3 ⟨u,rfl,h3,f3⟩);go_loud (have S3:=hD h3);go_loud (have F3:=hD ((FrK.no ((fR w2).drew)).trans f3));go_loud (have B3:=hD (f3.far (B2.o.fr (fR w2).drew (λx=>x)) GN.o.1 GN.o.2.1 GN.o.2.2.1 GN.o.2.2.2 (by decide)));go_loud (have O3:=hD (f3.own (O2.o.fr (fR w2).drew (λ_ _ x=>x)) (by decide) (λb hb=>by rw[aZ (by decide) hc1] at hb;injection hb with hb;subst hb;exact KB)));go_loud (have K3:=hD (And.intro ((B3.o.cell 4).trans (show _=some (.slice (some ⟨kb,0,none⟩) 2 c) from rfl)) (cell_of (j:=0) (u:= .int .i64 (a:Nat)) O3 (by decide) rfl)));go_loud (clear h3 f3))
  | (go_at_call 95;go_loud (refine (S3.o.st.ask _ 42 x (by decide) (by decide)).mono ?_);go_loud (rintro en w4 ⟨rfl,h4,f4⟩);go_loud (have S4:=hD h4);go_loud (have F4:=hD (F3.o.trans (FrK.ofG f4)));go_loud (have B4:=hD (B3.o.fr f4 GN.o.1));go_loud (have O4:=hD (O3.o.fr f4 (λb hb e=>by rw[aZ (by decide) hc1] at hb;injection hb with hb;subst hb;exact KB.o.1 e)));go_loud (have K4:=hD (And.intro ((B4.o.cell 4).trans (show _=some (.slice (some ⟨kb,0,none⟩) 2 c) from rfl)) (cell_of (j:=0) (u:= .int .i64 (a:Nat)) O4 (by decide) rfl)));go_loud (clear h4 f4)))
 all_goals
  have N0:=hD (show KqN G w4 ((((CkR.good (bX k x s)).bind (ex a)).bind λr=>if r.1=2 then .good r.2 else .bad 42 x).bind (eO bl ([b].take 0))) zs k from by
    have h9:=S4.o;rw[zB (P:=λa=>a=2) (b:=((u:Int)==2)) S3.o.val (by rw[Bool.eq_iff_iff];simp;omega)] at h9;have h8:=h9.toN HM.o;rw[show (((CkR.good (bX k x s)).bind (ex a)).bind λr=>if r.1=2 then CkR.good r.2 else .bad 42 x).bind (eO bl ([b].take 0))=((CkR.good (bX k x s)).bind (ex a)).bind λr=>if r.1=2 then .good r.2 else .bad 42 x from aBj _];exact h8)
  have FF:=hD (F2.o.trans F4);have EQ2:=hD (show iP G.fs k ex bl x ⟨kd,line,0,[],[a,b]⟩ s=(((CkR.good (bX k x s)).bind (ex a)).bind λr=>if r.1=2 then .good r.2 else .bad 42 x).bind (eO bl [b]) from by
    rw[EQ.o];exact vZ _)
  generalize (((CkR.good (bX k x s)).bind (ex a)).bind λr=>if r.1=2 then CkR.good r.2 else .bad 42 x)=R0 at *;have d4:=(B4.o.cell 4).trans (show _=some (Value.slice (some ⟨kb,0,none⟩) 2 c) from rfl);clear K2 K3 K4 M2 S2 B2 O2 F2 S3 B3 O3 F3 S4 F4 d0 k0 EQ B4;go_wp2
  clear d4;go_loopw [40] (λi wr=>∃j:Nat,j≤1∧i = .int .i64 j∧Hd (KqN G wr (R0.bind (eO bl ([b].take j))) zs k)∧Hd (Own wr 3 1 (.slice (some ⟨kb,0,none⟩) 2 c) 2 (ints [a,b]))∧Hd (FrK G w wr)) (λi _=>1 - (intOf i).toNat)
  case atStart=>exact⟨0,Nat.zero_le _,rfl,N0,O4,FF⟩
  case round=>
    clear N0 O4 FF;obtain⟨j,hj,rfl,NQ,O,F⟩:=hrel;by_cases hlt:j<1
    . obtain⟨s5,e5,p5,hck,hm⟩:=NQ.o.open_ HM.o
      obtain⟨_,_,-,-,-,-,-,-,-,-,-,c0,-⟩:=hck.cells;have c0:wr.cell? ⟨G.g,0,none⟩=some (.int .i64 (e5:Nat)):=c0;have hlt2:(j:Int)<1:=by omega
      obtain⟨y,hy⟩:∃y,[b][j]?=some y:=⟨_,gE hlt⟩;have k1:wr.cell? ⟨kb,1+j,none⟩=some (.int .i64 (y:Nat)):=cell_of O (by decide) (by rw[Nat.add_comm];show (ints [b])[j]?=_;unfold ints;rw[List.getElem?_map,hy];rfl);have ST:=hD (xI (st:=bl) R0 hy);have HJ:=hD hlt;have HYM:=hD (HBL y (List.mem_of_getElem? hy));have KB':=hD (show ∀b,blk (.slice (some ⟨kb,0,none⟩) 2 c)=some b->b≠G.g∧b≠G.bt∧b≠G.bs∧b≠G.bf from λb hb=>by rw[aZ (by decide) hc1] at hb;injection hb with hb;subst hb;exact KB);by_cases he:e5=0
      . have heb:((e5:Int)==0)=true:=by rw[he];rfl
        have KG:=hD (show Kq G wr s5 zs k 0 0∧R0.bind (eO bl ([b].take j)) = .good s5 from by
         rcases hm with ⟨h1,h2,h3⟩|⟨h1,_⟩
         . have h9:=NQ.o;rw[h3] at h9;exact⟨h9,h3⟩
         . exact absurd he h1)
        clear hck hm hy hlt he hj;go_wp2_with fail
        refine (HYM wr s5 KG.o.1).mono ?_;rintro en w6 ⟨rfl,h6,f6⟩;have N6:=hD (show KqN G w6 (R0.bind (eO bl ([b].take (j+1)))) zs k from by rw[ST.o,KG.o.2];exact h6);have F6:=hD (F.o.trans f6);have O6:=hD (f6.own O (by decide) KB');clear h6 f6 k1 c0 NQ O F KG HYM;go_wp2
        go_roundw
        case rel=>exact⟨j+1,by have:=HJ.o;omega,by go_num,N6,O6,F6⟩
        case measure=>simp[intOf];have:=HJ.o;omega
      . have heb:((e5:Int)==0)=false:=bN.2 (by omega)
        have N6:=hD (show KqN G wr (R0.bind (eO bl ([b].take (j+1)))) zs k from by
         have h9:=NQ.o;rcases hm with ⟨h1,_⟩|⟨h1,h2,h3⟩
         . exact absurd h1 he
         . rw[h3] at h9;rw[ST.o,h3];exact h9)
        clear hck hm hy hlt he hj;go_wp2
        clear NQ k1 c0;go_roundw
        case rel=>exact⟨j+1,by have:=HJ.o;omega,by go_num,N6,O,F⟩
        case measure=>simp[intOf];have:=HJ.o;omega
    . have hlt2:¬(j:Int)<1:=by omega
      have HT:Hd ([b].take j=[b]):=List.take_of_length_le (by simp;omega);clear hlt hj;go_wp2
      refine gF rfl rfl ⟨rfl,?_,F⟩;rw[EQ2.o,<-HT.o];exact NQ.o
theorem aCo {kd:Nat} (hkd:kd=15) (hM:G.M=24){d:Nat} (hx:G.ns[x]?=some ⟨kd,line,0,[],[a,b,d]⟩) (ha:iN 170 G zs k a (ex a)) (hbl:∀y∈[b,d],aJi G zs k bl y):sJ G zs k (λx s=>iP G.fs k ex bl x ⟨kd,line,0,[],[a,b,d]⟩ s) x ⟨kd,line,0,[],[a,b,d]⟩:=λw s A c h ho hlow=>by
 have ho:Own w 3 1 (.slice A 3 c) 3 (ints [a,b,d]):=ho;have HG:=hD h.geo;have HM:=hD hM;have HLO:Hd (∀b,blk (.slice A 3 c)=some b->b<G.B):=hlow;have hxl:=(gK hx);have hx3:(x:Int)<(G.ns.length:Int):=by omega
 have hx4:(G.ns.length:Int)≤300:=by have:=h.geo.few;omega
 have FA:Hd (Fr nob w (w.alloc (.cells #[.int .i64 kd,.int .i64 line,.int .i64 0,.string (bs []),.slice A 3 c] 50))):=(fR w).alloc _;have B1:=hD (Blk.new w 50 #[.int .i64 kd,.int .i64 line,.int .i64 0,.string (bs []),.slice A 3 c]);have S1:Hd (Kq G _ s zs k 0 0):=h.no FA;have O1:=hD (ho.fr FA (λ_ _ x=>x));have GN:=hD (show w.heap.size≠G.g∧w.heap.size≠G.bt∧w.heap.size≠G.bs∧w.heap.size≠G.bf from by have:=h.geo.lg;have:=h.geo.lt;have:=h.geo.ls;have:=h.geo.lf;have:=h.zle;exact⟨by omega,by omega,by omega,by omega⟩);have HA:=hD ha;have HBL:=hD hbl;have e10:((kd:Int)==10)=false:=by subst hkd;rfl
 have e11:((kd:Int)==11)=false:=by subst hkd;rfl
 have e12:((kd:Int)==12)=false:=by subst hkd;rfl
 have e13:((kd:Int)==13)=false:=by subst hkd;rfl
 have e14:((kd:Int)==14)=false:=by subst hkd;rfl
 have e17:((kd:Int)==17)=false:=by subst hkd;rfl
 have EQ:=hD (show iP G.fs k ex bl x ⟨kd,line,0,[],[a,b,d]⟩ s=((CkR.good (bX k x s)).bind (ex a)).bind λr=>if r.1=2 then eO bl [b,d] r.2 else .bad 42 x from by subst hkd;rfl);clear ha hbl hkd h ho hlow hM hx hxl;dsimp only[List.length_cons,List.length_nil];go_enter func145,ntmps145;go_upto_region 1 with fail;generalize w.alloc (.cells #[.int .i64 kd,.int .i64 line,.int .i64 0,.string (bs []),.slice A 3 c] 50)=w0 at *;generalize hT:w.heap.size=T at *;obtain⟨_,_,-,-,-,-,c6,-,c8,-⟩:=S1.o.cells;go_wp2_with fail
 go_still_tail 11,(by kernel_rfl)
 change wpList _ _ _ _ _ w0.drew;clear c6 c8;have SD:=hD (S1.o.no (fR w0).drew);have BD:=hD (B1.o.fr (fR w0).drew (λx=>x));have OD:=hD (O1.o.fr (fR w0).drew (λ_ _ x=>x));have FD:Hd (FrK G w w0.drew):=FrK.no (FA.o.tr (fR w0).drew);clear S1 B1 O1 FA;generalize w0.drew=w1 at *;obtain⟨⟨u2,bf⟩,zf⟩:=SD.o.fn.iH (j:=x) (by omega);have S2:Hd (Kq G _ (bX k x s) zs k 0 0):=(SD.o.kH x k).1;have F2:=hD (FD.o.trans (SD.o.kH x k).2);have B2:=hD (BD.o.far (p:=⟨G.bf,x,none⟩) (λe=>GN.o.2.2.2 e) (.int .i64 (k:Nat)));have O2:=hD (OD.o.far (p:=⟨G.bf,x,none⟩) (λe=>by have h9:G.bf<G.B:=HLO.o _ e;have:=HG.o.hf;omega) (.int .i64 (k:Nat)));go_upto_region 2 with fail;clear bf zf SD BD OD FD;generalize w1.setCell ⟨G.bf,x,none⟩ (.int .i64 (k:Nat))=w2 at *;have d0:w2.cell? ⟨T,0,none⟩=some (.int .i64 kd):=(B2.o.cell 0).trans rfl;have d4:=(B2.o.cell 4).trans rfl;obtain⟨kb,e9,kc⟩:=O2.o.some (by simp);subst e9;have k0:=kc 0 (.int .i64 (a:Nat)) rfl;have hc1:3≤c:=by have:=O2.o.oU.1;omega
 have hc3:(3:Int)≤(c:Int):=by omega
 have KB:=hD (show kb≠G.g∧kb≠G.bt∧kb≠G.bs∧kb≠G.bf from by have:=HLO.o kb (aZ (by omega) (by omega));have:=HG.o.hg;have:=HG.o.ht;have:=HG.o.hs;have:=HG.o.hf;exact⟨by omega,by omega,by omega,by omega⟩);clear kc;have K2:=hD (And.intro d4 k0);have M2:Hd (KqM G w2 (.good (bX k x s)) zs k):=S2;go_wp2_with fail
 go_region_held3 (λwx=>wx.cell? ⟨T,4,none⟩=some (.slice (some ⟨kb,0,none⟩) 3 c)∧wx.cell? ⟨kb,0,none⟩=some (.int .i64 (a:Nat))) (first|exact K2.o|exact K3.o|exact K4) (first
  | (go_at_call 170;go_loud (refine (HA _ _ (M2.o.no ((fR w2).drew))).mono ?_);go_loud (rintro en w3 ⟨u,rfl,h3,f3⟩);go_loud (have S3:=hD h3);go_loud (have F3:=hD ((FrK.no ((fR w2).drew)).trans f3));go_loud (have B3:=hD (f3.far (B2.o.fr (fR w2).drew (λx=>x)) GN.o.1 GN.o.2.1 GN.o.2.2.1 GN.o.2.2.2 (by decide)));go_loud (have O3:=hD (f3.own (O2.o.fr (fR w2).drew (λ_ _ x=>x)) (by decide) (λb hb=>by rw[aZ (by decide) hc1] at hb;injection hb with hb;subst hb;exact KB)));go_loud (have K3:=hD (And.intro ((B3.o.cell 4).trans (show _=some (.slice (some ⟨kb,0,none⟩) 3 c) from rfl)) (cell_of (j:=0) (u:= .int .i64 (a:Nat)) O3 (by decide) rfl)));go_loud (clear h3 f3))
  | (go_at_call 95;go_loud (refine (S3.o.st.ask _ 42 x (by decide) (by decide)).mono ?_);go_loud (rintro en w4 ⟨rfl,h4,f4⟩);go_loud (have S4:=hD h4);go_loud (have F4:=hD (F3.o.trans (FrK.ofG f4)));go_loud (have B4:=hD (B3.o.fr f4 GN.o.1));go_loud (have O4:=hD (O3.o.fr f4 (λb hb e=>by rw[aZ (by decide) hc1] at hb;injection hb with hb;subst hb;exact KB.o.1 e)));go_loud (have K4:=hD (And.intro ((B4.o.cell 4).trans (show _=some (.slice (some ⟨kb,0,none⟩) 3 c) from rfl)) (cell_of (j:=0) (u:= .int .i64 (a:Nat)) O4 (by decide) rfl)));go_loud (clear h4 f4)))
 all_goals
  have N0:=hD (show KqN G w4 ((((CkR.good (bX k x s)).bind (ex a)).bind λr=>if r.1=2 then .good r.2 else .bad 42 x).bind (eO bl ([b,d].take 0))) zs k from by
    have h9:=S4.o;rw[zB (P:=λa=>a=2) (b:=((u:Int)==2)) S3.o.val (by rw[Bool.eq_iff_iff];simp;omega)] at h9;have h8:=h9.toN HM.o;rw[show (((CkR.good (bX k x s)).bind (ex a)).bind λr=>if r.1=2 then CkR.good r.2 else .bad 42 x).bind (eO bl ([b,d].take 0))=((CkR.good (bX k x s)).bind (ex a)).bind λr=>if r.1=2 then .good r.2 else .bad 42 x from aBj _];exact h8)
  have FF:=hD (F2.o.trans F4);have EQ2:=hD (show iP G.fs k ex bl x ⟨kd,line,0,[],[a,b,d]⟩ s=(((CkR.good (bX k x s)).bind (ex a)).bind λr=>if r.1=2 then .good r.2 else .bad 42 x).bind (eO bl [b,d]) from by
    rw[EQ.o];exact vZ _)
  generalize (((CkR.good (bX k x s)).bind (ex a)).bind λr=>if r.1=2 then CkR.good r.2 else .bad 42 x)=R0 at *;have d4:=(B4.o.cell 4).trans (show _=some (Value.slice (some ⟨kb,0,none⟩) 3 c) from rfl);clear K2 K3 K4 M2 S2 B2 O2 F2 S3 B3 O3 F3 S4 F4 d0 k0 EQ B4;go_wp2
  clear d4;go_loopw [40] (λi wr=>∃j:Nat,j≤2∧i = .int .i64 j∧Hd (KqN G wr (R0.bind (eO bl ([b,d].take j))) zs k)∧Hd (Own wr 3 1 (.slice (some ⟨kb,0,none⟩) 3 c) 3 (ints [a,b,d]))∧Hd (FrK G w wr)) (λi _=>2 - (intOf i).toNat)
  case atStart=>exact⟨0,Nat.zero_le _,rfl,N0,O4,FF⟩
  case round=>
    clear N0 O4 FF;obtain⟨j,hj,rfl,NQ,O,F⟩:=hrel;by_cases hlt:j<2
    . obtain⟨s5,e5,p5,hck,hm⟩:=NQ.o.open_ HM.o
      obtain⟨_,_,-,-,-,-,-,-,-,-,-,c0,-⟩:=hck.cells;have c0:wr.cell? ⟨G.g,0,none⟩=some (.int .i64 (e5:Nat)):=c0;have hlt2:(j:Int)<2:=by omega
      obtain⟨y,hy⟩:∃y,[b,d][j]?=some y:=⟨_,gE hlt⟩;have k1:wr.cell? ⟨kb,1+j,none⟩=some (.int .i64 (y:Nat)):=cell_of O (by decide) (by rw[Nat.add_comm];show (ints [b,d])[j]?=_;unfold ints;rw[List.getElem?_map,hy];rfl);have ST:=hD (xI (st:=bl) R0 hy);have HJ:=hD hlt;have HYM:=hD (HBL y (List.mem_of_getElem? hy));have KB':=hD (show ∀b,blk (.slice (some ⟨kb,0,none⟩) 3 c)=some b->b≠G.g∧b≠G.bt∧b≠G.bs∧b≠G.bf from λb hb=>by rw[aZ (by decide) hc1] at hb;injection hb with hb;subst hb;exact KB);by_cases he:e5=0
      . have heb:((e5:Int)==0)=true:=by rw[he];rfl
        have KG:=hD (show Kq G wr s5 zs k 0 0∧R0.bind (eO bl ([b,d].take j)) = .good s5 from by
         rcases hm with ⟨h1,h2,h3⟩|⟨h1,_⟩
         . have h9:=NQ.o;rw[h3] at h9;exact⟨h9,h3⟩
         . exact absurd he h1)
        clear hck hm hy hlt he hj;go_wp2_with fail
        refine (HYM wr s5 KG.o.1).mono ?_;rintro en w6 ⟨rfl,h6,f6⟩;have N6:=hD (show KqN G w6 (R0.bind (eO bl ([b,d].take (j+1)))) zs k from by rw[ST.o,KG.o.2];exact h6);have F6:=hD (F.o.trans f6);have O6:=hD (f6.own O (by decide) KB');clear h6 f6 k1 c0 NQ O F KG HYM;go_wp2
        go_roundw
        case rel=>exact⟨j+1,by have:=HJ.o;omega,by go_num,N6,O6,F6⟩
        case measure=>simp[intOf];have:=HJ.o;omega
      . have heb:((e5:Int)==0)=false:=bN.2 (by omega)
        have N6:=hD (show KqN G wr (R0.bind (eO bl ([b,d].take (j+1)))) zs k from by
         have h9:=NQ.o;rcases hm with ⟨h1,_⟩|⟨h1,h2,h3⟩
         . exact absurd h1 he
         . rw[h3] at h9;rw[ST.o,h3];exact h9)
        clear hck hm hy hlt he hj;go_wp2
        clear NQ k1 c0;go_roundw
        case rel=>exact⟨j+1,by have:=HJ.o;omega,by go_num,N6,O,F⟩
        case measure=>simp[intOf];have:=HJ.o;omega
    . have hlt2:¬(j:Int)<2:=by omega
      have HT:Hd ([b,d].take j=[b,d]):=List.take_of_length_le (by simp;omega);clear hlt hj;go_wp2
      refine gF rfl rfl ⟨rfl,?_,F⟩;rw[EQ2.o,<-HT.o];exact NQ.o
end
section
variable {G:Geo}{w w':World}{s:CkS}{r r':CkR CkS}{zs:List Nat}{k e p:Nat}{ex:Nat->CkS->CkR (Nat×CkS)}
theorem Kq.cut (h:Kq G w s zs k e p){VA:Option Addr}{VC:Nat} (hv:w.cell? (G.g,9)=some (.slice VA s.vars.length VC)) (hm:m≤s.vars.length) (hL:G.L≤m):
   Kq G (w.setCell (G.g,U9) (.slice VA m VC)) { s with vars:=s.vars.take m } zs k e p∧FrK G w (w.setCell (G.g,U9) (.slice VA m VC)):=by
 obtain⟨zv,vv,hb,hz0,hz2,hv0,hv2⟩:=h.ex;have e7:w.cell? (G.g,9)=some vv:=by rw[hb.cell];rfl
 rw[e7] at hv;injection hv with hv;subst hv;obtain⟨n1,n2,n3⟩:=h.gne;have hB:=h.geo.hg;have hc:=(hv0.cut hm).far (p:=(G.g,U9)) ((hv0.cut hm).aG hb (by decide)) (.slice VA m VC);rw[mV] at hc;have hlen:(s.vars.take m).length=m:=by rw[List.length_take];omega
 refine⟨⟨h.geo,h.tree.keep (λb hb=>?_) (by simp),⟨zv,.slice VA m VC,hb.setCell 9 _,hz0.far (p:=(G.g,U9)) (hz0.aG hb (by decide)) _,hz2,by rw[hlen];exact hc,λb hb=>hv2 b ?_⟩,
   h.types.far (p:=(G.g,U9)) (h.types.aG hb (by decide)) _,h.slots.far (p:=(G.g,U9)) (h.slots.aG hb (by decide)) _,h.fn.far (p:=(G.g,U9)) (h.fn.aG hb (by decide)) _,h.kk,h.size,h.fine,by show (s.vars.take m).length≤s.size;rw[hlen];have:=h.vars;omega,h.zs,by simpa using h.zle,by show G.L≤(s.vars.take m).length;rw[hlen];exact hL⟩,
   ((Fr.refl (dG G.g) w).setCell (G.g,U9) _ (λ_=>rfl)).mono (λk _ e=> .inl e)⟩
 . exact Below.heap_setCell w (G.g,U9) _ b (by show b≠G.g;omega)
 . cases VA with
   | none=>simp[blk] at hb
   | some a=>simp[blk] at hb ⊢;exact hb
theorem FrK.aRu (h:FrK (G.atL m) w w'):FrK G w w':=h
theorem Kq.atL (h:Kq G w s zs k e p) (hm:m≤s.vars.length):Kq (G.atL m) w s zs k e p:=
 ⟨h.geo.atL m,h.tree,h.ex,h.types,h.slots,h.fn,h.kk,h.size,h.fine,h.vars,h.zs,h.zle,hm⟩
theorem Kq.aRu (h:Kq (G.atL m) w s zs k e p) (hg:gZ G) (hm:G.L≤m):Kq G w s zs k e p:=
 ⟨hg,h.tree,h.ex,h.types,h.slots,h.fn,h.kk,h.size,h.fine,h.vars,h.zs,h.zle,Nat.le_trans hm h.low⟩
theorem yT (hM:G.M=24){l:List Nat} (h:Kq G w s zs k 0 0) (hx:G.ns[x]?=some ⟨18,line,0,[],l⟩) (hl:∀y∈l,∃nd,G.ns[y]?=some nd∧sJ (G.atL s.vars.length) zs k st y nd):
  Calls prog 98 #[(G.g,()),x] w (aEu G zs k ((eO st l (bX k x s)).map λr=>{ r with vars:=r.vars.take s.vars.length }) w):=by
 have hx3:(x:Int)<(G.ns.length:Int):=by have:=(gK hx);omega
 have hx4:(G.ns.length:Int)≤300:=by have:=h.geo.few;omega
 have hx5:x<G.ns.length:=by omega
 have hl3:l.length≤300:=h.geo.fewk _ (List.mem_of_getElem? hx);have hl4:(l.length:Int)≤300:=by omega
 have HM:=hD hM;have HL:=hD hl;have HX:=hD hx;have HG:=hD h.geo;have hvn:s.vars.length≤24:=by have:=h.vars;have:=h.size;omega
 have hvn2:(s.vars.length:Int)≤24:=by omega
 obtain⟨m,hm⟩:∃m,s.vars.length=m:=⟨_,rfl⟩;have K1:Hd (Kq (G.atL m) w s zs k 0 0):=h.atL (by omega);have HLO:=hD (show G.L≤m from by have:=h.low;omega);obtain⟨_,_,-,-,-,-,c6,-,c8,-⟩:=h.cells;have S1:=hD (K1.o.no (fR w).drew);have F1:Hd (FrK G w w.drew):=FrK.no (fR w).drew;rw[hm] at hvn hvn2 HL ⊢;clear h hx hl hM K1;go_enter func98,ntmps98;go_wp2_with fail
 go_still_tail 11,(by kernel_rfl)
 change wpList _ _ _ _ _ w.drew;clear c6 c8;generalize w.drew=w1 at *;obtain⟨⟨u2,bf⟩,zf⟩:=(show Own w1 3 1 (G.bf,G.ns.length,G.cf) G.ns.length (ints s.fn) from S1.o.fn).iH (j:=x) hx5;have S3:Hd (Kq (G.atL m) (w1.setCell (G.bf,x) k) (bX k x s) zs k 0 0):=(S1.o.kH x k).1;have F3:Hd (FrK G w (w1.setCell (G.bf,x) k)):=F1.o.trans (S1.o.kH x k).2;go_upto_region 1 with fail;clear bf zf S1 F1;generalize w1.setCell (G.bf,x) k=w2 at *;obtain⟨zv,vv,hbl,-,-,hvo,-⟩:=S3.o.ex;obtain⟨VA,VC,rfl,-,-⟩:=hvo.cap;have c9:w2.cell? (G.g,9)=some (.slice VA m VC):=by rw[<-hm];exact (hbl.cell 9).trans rfl
 clear hbl hvo;go_wp2_with fail
 refine (nC S3 HX).mono ?_;rintro en w3 ⟨⟨A,c,rfl,ho,hlow⟩,hf⟩;have S4:Hd (KqN (G.atL m) w3 (eO st (l.take 0) (bX k x s)) zs k):=S3.o.no hf;have F4:=hD (F3.o.trans (FrK.no hf));have HO:=hD ho;have HB:=hD hlow;clear ho hlow hf S3 F3 c9;have ff:=λ(a b c d e:Value) (w:World)=>show (Instr.field 50 (.agg #[a,b,c,d,e]) 4).run prog w = .ok e w from by kernel_rfl
 go_wp2
 clear ff;go_loopw [28] (λi wr=>∃j:Nat,j≤l.length∧i = .int .i64 j∧Hd (KqN (G.atL m) wr (eO st (l.take j) (bX k x s)) zs k)∧Hd (Own wr 3 1 (.slice A l.length c) l.length (ints l))∧Hd (FrK G w wr)) (λi _=>l.length - (intOf i).toNat)
 case atStart=>exact⟨0,Nat.zero_le _,rfl,S4,HO,F4⟩
 case round=>
  clear S4 HO F4;obtain⟨j,hj,rfl,N,O,FR⟩:=hrel;obtain⟨s5,e5,p5,hck,hm5⟩:=N.o.open_ (show (G.atL m).M=24 from HM);obtain⟨_,_,-,-,-,-,-,-,-,-,-,c0,-⟩:=hck.cells;have c0:wr.cell? (G.g,0)=e5:=c0;by_cases hlt:j<l.length
  . have hlt2:(j:Int)<(l.length:Int):=by omega
    obtain⟨y,hy⟩:∃y,l[j]?=some y:=⟨_,gE hlt⟩;obtain⟨tb,e9,htc⟩:=O.o.some (by omega);subst e9;have k1:=htc j y (by simp[ints,hy]);obtain⟨nd,hnd,hst⟩:=HL.o y (List.mem_of_getElem? hy);have HND:=hD hnd;have HST:=hD hst;have ST:=hD (show eO st (l.take (j+1)) (bX k x s)=(eO st (l.take j) (bX k x s)).bind (st y) from by rw[show l.take (j+1)=l.take j++[y] by rw[List.take_add_one,hy];rfl,iT]);have HJ:=hD hlt;have LOW:=hD (show ∀b,blk (tb,l.length,c)=some b->b≠G.g∧b≠G.bt∧b≠G.bs∧b≠G.bf from λb hb=>by have h9:b<G.B:=HB.o b hb;have:=HG.o.hg;have:=HG.o.ht;have:=HG.o.hs;have:=HG.o.hf;exact⟨by omega,by omega,by omega,by omega⟩);by_cases he:e5=0
    . have heb:((e5:Int)==0)=true:=by rw[he];rfl
      have KG:=hD (show Kq (G.atL m) wr s5 zs k 0 0∧eO st (l.take j) (bX k x s) = .good s5 from by
        rcases hm5 with ⟨h1,h2,h3⟩|⟨h1,_⟩
        . have h9:=N.o;rw[h3] at h9;exact⟨h9,h3⟩
        . exact absurd he h1)
      clear hck hm5 hy hlt he hj hnd hst htc;go_wp2_with fail
      refine (nC KG.o.1 HND).mono ?_;rintro en w6 ⟨⟨A6,c6,rfl,ho6,hlow6⟩,f6⟩;have HS:=hD (HST w6 s5 A6 c6 (KG.o.1.no f6) ho6 hlow6);have O6:=hD (O.o.fr f6 (λ_ _ x=>x));have F6:=hD (FR.o.trans (FrK.no f6));clear ho6 hlow6 f6 k1 c0 N O FR HST HND;go_wp2_with fail
      refine HS.o.mono ?_;rintro en w7 ⟨rfl,h7,f7⟩;have N7:=hD (show KqN (G.atL m) w7 (eO st (l.take (j+1)) (bX k x s)) zs k from by rw[ST.o,KG.o.2];exact h7);have F7:=hD (F6.o.trans (show FrK G w6 w7 from f7));have O7:=hD (FrK.own (G:=G) f7 O6 (by decide) LOW);clear h7 f7 O6 F6 HS KG;go_wp2
      go_roundw
      case rel=>exact⟨j+1,by have:=HJ.o;omega,by go_num,N7,O7,F7⟩
      case measure=>simp[intOf];have:=HJ.o;omega
    . have heb:((e5:Int)==0)=false:=bN.2 (by omega)
      have N7:=hD (show KqN (G.atL m) wr (eO st (l.take (j+1)) (bX k x s)) zs k from by
        have h9:=N.o;rcases hm5 with ⟨h1,_⟩|⟨h1,h2,h3⟩
        . exact absurd h1 he
        . rw[h3] at h9;rw[ST.o,h3];exact h9)
      clear hck hm5 hy hlt he hj hnd hst htc;go_wp2
      clear N k1 c0;go_roundw
      case rel=>exact⟨j+1,by have:=HJ.o;omega,by go_num,N7,O,FR⟩
      case measure=>simp[intOf];have:=HJ.o;omega
  . have hlt2:¬(j:Int)<(l.length:Int):=by omega
    have HT:Hd (l.take j=l):=List.take_of_length_le (by omega);have HMO:=hD (show gY (eO st l (bX k x s)) s5 e5 p5 from by rw[HT.o] at hm5;exact hm5);obtain⟨zv,vv,hbl,-,-,hvo,-⟩:=hck.ex;obtain⟨VA,VC,rfl,hvc,-⟩:=hvo.cap;have hbl2:Blk wr G.g 94 (jT (G.atL m).more zv (.slice VA s5.vars.length VC) k s5.size e5 p5):=hbl;have c9:wr.cell? (G.g,9)=some (.slice VA s5.vars.length VC):=(hbl2.cell 9).trans rfl;have f9:=hbl2.frozen 9;have glt:=hbl2.lt;have hlo:m≤s5.vars.length:=hck.low;have hmv:(m:Int)≤(VC:Int):=by omega
    have hm0:(0:Int)≤(m:Int):=by omega
    have SC:=hD (hck.cut c9 hlo (show m≤m from Nat.le_refl m));have NF:=hD (show KqN G (wr.setCell (G.g,U9) (.slice VA m VC)) ((eO st l (bX k x s)).map λr=>{ r with vars:=r.vars.take m }) zs k from by
      have h9:=SC.o.1;rcases HMO.o with ⟨h1,h2,h3⟩|⟨h1,h2,h3⟩
      . rw[h3];subst h1;subst h2
        exact (Kq.less (G:=G.atL m) h9 (HG.o.atL m) HM).aRu HG HLO.o
      . rw[h3]
        exact⟨h1,h2,_,Kq.aRu (G:=G.more) (m:=m) h9 (HG.o.more (by have:=HM.o;omega)) HLO⟩)
    have FF:Hd (FrK G w (wr.setCell (G.g,U9) (.slice VA m VC))):=FR.o.trans SC.o.2;clear hck hm5 hbl hbl2 hvo SC hlt hj c0 hvc hlo;go_wp2
    exact gF rfl rfl ⟨rfl,NF,FF⟩
theorem tH:∀(f x:Nat) (nd:aH) (G:Geo),gZ G->G.M=24->x<f->G.ns[x]?=some nd->nd.kind=18->aJi G zs k (bW G.ns G.fs k f) x
 | 0,x,nd,_,_,_,h,_,_=>absurd h (Nat.not_lt_zero _)
 | f+1,x,nd,G,hg,hM,h,hx,h18=>by
  intro w s hck;have hE:∀n,lU n=true->oQ n=true:=λn h=>by unfold oQ;rw[h];rfl
  have key:∀{cls:Nat->Bool} {a:Nat},(∀n,cls n=true->oQ n=true)->Kid G.ns cls a->iN 170 (G.atL s.vars.length) zs k a (dR G.ns G.fs k G.ns.length a):=λ{cls a} hc hk=>by
   obtain⟨c,hc1,hc2⟩:=hk;exact wK G.ns.length a c (G.atL s.vars.length) (hg.atL _) (gK hc1) hc1 (hc _ hc2)
  have hC:∀n,aPd n=true->oQ n=true:=λn h=>by simp[aPd] at h;subst h;decide
  have hok:=hg.ok.nodes x nd hx;cases hok with
  | block line l hk=>
   have:=yT (st:=λa s=>match G.ns[a]? with
    | none=> .bad 95 0
    | some na=>iP G.fs k (dR G.ns G.fs k G.ns.length) (bW G.ns G.fs k f) a na s) hM hck hx (λy hy=>by
    obtain⟨hlt,c,hc1,hc2⟩:=(hk y hy).take;have hok2:=hg.ok.nodes y c hc1;have kb:∀{b:Nat},Kid (G.ns.take y) xQ b->aJi (G.atL s.vars.length) zs k (bW G.ns G.fs k f) b:=λ{b} hb=>by
     obtain⟨hlt2,d,hd1,hd2⟩:=hb.take;exact tH f b d (G.atL s.vars.length) (hg.atL _) hM (by omega) hd1 (by simpa[xQ] using hd2)
    refine⟨c,hc1,?_⟩;intro w2 s2 A2 c2 hck2 ho hlow;simp only[hc1];have one:∀{a:Nat},iN 170 (G.atL s.vars.length) zs k a (dR G.ns G.fs k G.ns.length a)->∀i∈[a],iN 170 (G.atL s.vars.length) zs k i (dR G.ns G.fs k G.ns.length i):=λ{a} h i hi=>by rw[List.mem_singleton.1 hi];exact h
    cases hok2 with
    | let_ line nm a ha=>exact aKr (G:=G.atL s.vars.length) hM hc1 (key (λ_ h=>h) ha.take.2) w2 s2 A2 c2 hck2 ho hlow
    | set line nm a ha=>exact aKp (G:=G.atL s.vars.length) hM hc1 (key (λ_ h=>h) ha.take.2) w2 s2 A2 c2 hck2 ho hlow
    | put line nm a b ha hb=>exact aKq (G:=G.atL s.vars.length) hM hc1 (λi hi=>by
      rcases List.mem_cons.1 hi with e|hi
      . rw[e];exact key hE ha.take.2
      . rw[List.mem_singleton.1 hi];exact key hE hb.take.2) w2 s2 A2 c2 hck2 ho hlow
    | do_ line a ha=>exact aOb (G:=G.atL s.vars.length) hM hc1 (key hC ha.take.2) w2 s2 A2 c2 hck2 ho hlow
    | print line a ha=>exact aCp (G:=G.atL s.vars.length) hM hc1 (key hE ha.take.2) w2 s2 A2 c2 hck2 ho hlow
    | if2 line a b ha hb=>exact tF (G:=G.atL s.vars.length) (.inl rfl) hM hc1 (key hE ha.take.2) (λy hy=>by rw[List.mem_singleton.1 hy];exact kb hb) w2 s2 A2 c2 hck2 ho hlow
    | if3 line a b d ha hb hd=>exact aCo (G:=G.atL s.vars.length) rfl hM hc1 (key hE ha.take.2) (λy hy=>by
      rcases List.mem_cons.1 hy with e|hy
      . rw[e];exact kb hb
      . rw[List.mem_singleton.1 hy];exact kb hd) w2 s2 A2 c2 hck2 ho hlow
    | loop line a b ha hb=>exact tF (G:=G.atL s.vars.length) (.inr rfl) hM hc1 (key hE ha.take.2) (λy hy=>by rw[List.mem_singleton.1 hy];exact kb hb) w2 s2 A2 c2 hck2 ho hlow
    | ret0 line=>exact aGf (G:=G.atL s.vars.length) hM hc1 (λi hi=>by cases hi) w2 s2 A2 c2 hck2 ho hlow
    | ret1 line a ha=>exact aGe (G:=G.atL s.vars.length) hM hc1 (one (key hE ha.take.2)) w2 s2 A2 c2 hck2 ho hlow
    | _=>simp[aNk] at hc2)
   have e1:bW G.ns G.fs k (f+1) x s=(eO (λa s=>match G.ns[a]? with
    | none=> .bad 95 0
    | some na=>iP G.fs k (dR G.ns G.fs k G.ns.length) (bW G.ns G.fs k f) a na s) l (bX k x s)).map λr=>{ r with vars:=r.vars.take s.vars.length }:=by
    rw[bW,hx];rfl
   rw[e1];exact this
  | _=>simp at h18
end
def Geo.atZ (G:Geo) (z:Nat):Geo:={ G with Z:=z }
theorem jE (b:Nat) (q:List UInt8×Nat):∀(l:List (List UInt8×Nat)) (vs:List mU),jO b (l++[q]) vs=(jO b l vs).bind λvs=>if (eT vs q.1).isSome then .bad 41 b else .good (vs++[⟨q.1,q.2,vs.length⟩])
 | [],vs=>by
  show (if (eT vs q.1).isSome=true then CkR.bad 41 b else .good (vs++[⟨q.1,q.2,vs.length⟩]))=(CkR.good vs).bind _
  rw[CkR.aC]
 | a :: l,vs=>by
  show (if (eT vs a.1).isSome=true then CkR.bad 41 b else jO b (l++[q]) (vs++[⟨a.1,a.2,vs.length⟩]))=(if (eT vs a.1).isSome=true then CkR.bad 41 b else jO b l (vs++[⟨a.1,a.2,vs.length⟩])).bind _
  by_cases h:(eT vs a.1).isSome=true
  . rw[if_pos h,if_pos h];rfl
  . rw[if_neg h,if_neg h];exact jE b q l _
section
variable {G:Geo}{w w':World}
theorem gZ.z (h:gZ G){z:Nat} (h1:G.g<z) (h2:G.bt<z) (h3:G.bs<z) (h4:G.bf<z):gZ (G.atZ z):=
 ⟨h.hM,h.hg,h.ht,h.hs,h.hf,h1,h2,h3,h4,h.ts,h.tf,h.sf,h.pos,h.few,h.fewf,h.fewp,h.fewk,h.ok⟩
theorem FrK.toB (f:FrK G w w') (hg:gZ G):Fr (λb=>G.B≤b) w w':=f.mono λb _ hm=>by
 rcases hm with x|x|x|x|⟨x,_⟩
 . rw[x];exact hg.hg
 . rw[x];exact hg.ht
 . rw[x];exact hg.hs
 . rw[x];exact hg.hf
 . exact x
end
section
variable {G:Geo}{w w':World}{s:CkS}{zs:List Nat}{k e p:Nat}
theorem Kq.z (h:Kq G w s zs k e p):Kq (G.atZ w.heap.size) w s zs k e p:=by
 obtain⟨zv,vv,hb,hz0,hz2,hv0,hv2⟩:=h.ex;exact⟨h.geo.z h.jM (h.types.bD h.uI) (h.slots.bD h.rP) (h.fn.bD h.uJ),h.tree,⟨zv,vv,hb,hz0,λb hb=>⟨(hz2 b hb).1,(hz2 b hb).2.1,(hz2 b hb).2.2.1,(hz2 b hb).2.2.2.1,hz0.bD hb⟩,hv0,hv2⟩,
  h.types,h.slots,h.fn,h.kk,h.size,h.fine,h.vars,h.zs,Nat.le_refl _,h.low⟩
theorem Kq.aOp (h:Kq G.more w s zs k e p) (hg:gZ G) (hM:s.size≤G.M):Kq G w s zs k e p:=
 ⟨hg,h.tree,h.ex,h.types,h.slots,h.fn,h.kk,hM,h.fine,h.vars,h.zs,h.zle,h.low⟩
theorem Kq.aRv (h:Kq G w s zs k e p) (hL:G.L=0):Kq G (w.setCell (G.g,U9) Un) { s with vars:=[] } zs k e p∧FrK G w (w.setCell (G.g,U9) Un):=by
 obtain⟨zv,vv,hb,hz0,hz2,hv0,hv2⟩:=h.ex;have hB:=h.geo.hg;refine⟨⟨h.geo,h.tree.keep (λb hb=>?_) (by simp),⟨zv,Un,hb.setCell 9 _,hz0.far (p:=(G.g,U9)) (hz0.aG hb (by decide)) _,hz2,Own.nil _ _ _,λb hb=>by simp[blk] at hb⟩,
  h.types.far (p:=(G.g,U9)) (h.types.aG hb (by decide)) _,h.slots.far (p:=(G.g,U9)) (h.slots.aG hb (by decide)) _,h.fn.far (p:=(G.g,U9)) (h.fn.aG hb (by decide)) _,h.kk,h.size,h.fine,Nat.zero_le _,h.zs,by simpa using h.zle,by show G.L≤0;omega⟩,
  ((Fr.refl (dG G.g) w).setCell (G.g,U9) _ (λ_=>rfl)).mono (λk _ e=> .inl e)⟩
 exact Below.heap_setCell w (G.g,U9) _ b (by show b≠G.g;omega)
theorem Kq.aRj (h:Kq G w s zs k e p){zv:Value} (hzv:w.cell? (G.g,7)=some zv){o:Obj}{A:Option Addr}{c:Nat}
   (ho:Own w' 3 1 (.slice A (zs.length+1) c) (zs.length+1) (ints zs++[.int .i64 (s.size:Nat)]))
   (hf:Fr (obl (blk zv)) (w.alloc o) w') (hv:blk (.slice A (zs.length+1) c)=blk zv∨blk (.slice A (zs.length+1) c)=some (w.alloc o).heap.size) (hzl:zs.length≤900):
   Kq (G.atZ (w'.setCell (G.g,U7) (.slice A (zs.length+1) c)).heap.size) (w'.setCell (G.g,U7) (.slice A (zs.length+1) c)) s (zs++[s.size]) k e p ∧
   Fr (λb=>G.B≤b) w (w'.setCell (G.g,U7) (.slice A (zs.length+1) c)):=by
 obtain⟨zv',vv,hb,hz0,hz2,hv0,hv2⟩:=h.ex;have e5:w.cell? (G.g,7)=some zv':=by rw[hb.cell];rfl
 rw[e5] at hzv;injection hzv with hzv;subst hzv;have hBg:=h.geo.hg;have hBt:=h.geo.ht;have hBs:=h.geo.hs;have hBf:=h.geo.hf;have hle:G.B≤w.heap.size:=h.tree.le;have gt:=h.types.bD h.uI;have gs:=h.slots.bD h.rP;have gf:=h.fn.bD h.uJ;have gl:=h.jM;have f0:Fr nob w (w.alloc o):=(fR w).alloc o;have hsz:w.heap.size<w'.heap.size:=by have:=hf.size;simp at this;omega
 have hb1:Blk w' G.g 94 (jT G zv' vv k s.size e p):=(hb.fr f0 (λx=>x)).fr hf (λhm=>hz0.aG hb (by decide) hm);have own2:∀{e' n m:Nat} {v:Value} {xs:List Value},Own w e' m v n xs->(∀b,blk v=some b->¬obl (blk zv') b)->blk v≠some G.g->Own (w'.setCell (G.g,U7) (.slice A (zs.length+1) c)) e' m v n xs:=λho' hne hg=>
   ((ho'.fr f0 (λ_ _ x=>x)).fr hf hne).far (p:=(G.g,U7)) hg _
 have keep:∀b,b<G.B->(w'.setCell (G.g,U7) (.slice A (zs.length+1) c)).heap[b]?=w.heap[b]?:=λb hb'=>by
   rw[Below.heap_setCell _ _ _ _ (by show b≠G.g;omega),hf.block b (by simp;omega) (λhm=>by have:=(hz2 b hm).1;omega)];exact Below.heap_alloc _ _ _ (by omega)
 have nt:∀b,blk (G.bt,G.ns.length,G.ct)=some b->¬obl (blk zv') b:=λb hb' hm=>by
   rw[h.uI] at hb';injection hb' with hb';exact (hz2 b hm).2.1 hb'.symm
 have ns:∀b,blk (G.bs,G.ns.length,G.cs)=some b->¬obl (blk zv') b:=λb hb' hm=>by
   rw[h.rP] at hb';injection hb' with hb';exact (hz2 b hm).2.2.1 hb'.symm
 have nf:∀b,blk (G.bf,G.ns.length,G.cf)=some b->¬obl (blk zv') b:=λb hb' hm=>by
   rw[h.uJ] at hb';injection hb' with hb';exact (hz2 b hm).2.2.2.1 hb'.symm
 have hzn:Own (w'.setCell (G.g,U7) (.slice A (zs.length+1) c)) 3 1 (.slice A (zs.length+1) c) (zs++[s.size]).length (ints (zs++[s.size])):=by
   rw[List.length_append,show ints (zs++[s.size])=ints zs++[.int .i64 (s.size:Nat)] by simp[ints]];exact ho.far (p:=(G.g,U7)) (ho.aG hb1 (by decide)) _
 refine⟨⟨h.geo.z (by simp;omega) (by simp;omega) (by simp;omega) (by simp;omega),h.tree.keep keep (by simp;omega),⟨.slice A (zs.length+1) c,vv,hb1.setCell 7 _,hzn,λb hb'=>?_,own2 hv0 (λb hb' hm=>by
     have h1:blk zv'=some b:=hm;exact hv0.gQ hz0 (by decide) h1 hb') (hv0.aG hb (by decide)),hv2⟩,own2 h.types nt (h.types.aG hb (by decide)),own2 h.slots ns (h.slots.aG hb (by decide)),own2 h.fn nf (h.fn.aG hb (by decide)),h.kk,h.size,h.fine,h.vars,?_,Nat.le_refl _,h.low⟩,?_⟩
 . show G.B≤b∧b≠G.bt∧b≠G.bs∧b≠G.bf∧b<(w'.setCell (G.g,U7) (.slice A (zs.length+1) c)).heap.size
   rcases hv with h9|h9
   . rw[h9] at hb'
     obtain⟨a1,a2,a3,a4,a5⟩:=hz2 b hb';have:=hz0.bD hb';exact⟨a1,a2,a3,a4,by simp;omega⟩
   . have hlt:=ho.bD hb'
     rw[hb'] at h9;injection h9 with h9;simp at h9;exact⟨by omega,by omega,by omega,by omega,by simp;exact hlt⟩
 . rw[List.length_append];show zs.length+1≤1000;omega
 . refine Fr.trans (M1:=nob) f0 (M2:=λb=>G.B≤b) ?_ (λ_ _ x=>x.elim) (λ_ _ x=>x)
   exact Fr.trans (M1:=obl (blk zv')) hf ((Fr.refl (dG G.g) w').setCell (G.g,U7) _ (λ_=>rfl)) (λb _ hm=>(hz2 b hm).1) (λb _ hm=>by rw[show b=G.g from hm];exact hBg)
end
def aRa (G:Geo) (zs:List Nat) (k:Nat) (r:CkR CkS) (w:World):Prop:=match r with
 | .good s=>∃Z,Kq (G.atZ Z) w s (zs++[s.size]) k 0 0
 | .bad e p=>e≠0∧e≤99∧∃Z s' zs',Kq (G.atZ Z).more w s' zs' k e p
section
variable {G:Geo}{w w0 w':World}{s:CkS}{zs:List Nat}{k k0:Nat}
theorem aRa.no {r:CkR CkS} (h:aRa G zs k r w) (f:Fr nob w w'):aRa G zs k r w':=by
 cases r with
 | good s=>obtain⟨Z,h⟩:=h;exact⟨Z,h.no f⟩
 | bad e p=>obtain⟨h1,h2,Z,s',zs',h⟩:=h;exact⟨h1,h2,Z,s',zs',h.no f⟩
theorem aLy {wv:World}{s9:CkS}{R:CkR CkS}{e9 p9:Nat}{VA:Option Addr}{VC:Nat} (hM:G.M=24) (hG:gZ G) (KV:Kq G.more wv s9 zs k e9 p9) (c7:wv.cell? (G.g,7)=some (.slice VA zs.length VC)) (MK:gY R s9 e9 p9) (FV:FrK G w0 wv) (hz:zs.length≤900):
   ∀(A6:Option Addr) (c6:Nat) (w6:World),Own w6 3 1 (.slice A6 (zs.length+1) c6) (zs.length+1) (ints zs++[.int .i64 (s9.size:Nat)])->Fr (obl (blk (.slice VA zs.length VC))) (wv.alloc (.cells #[s9.size] 3)).drew w6->(blk (.slice A6 (zs.length+1) c6)=blk (.slice VA zs.length VC)∨blk (.slice A6 (zs.length+1) c6)=some (wv.alloc (.cells #[s9.size] 3)).drew.heap.size) ->
    w6.frozen? (G.g,U7)=false∧w6.cell? (G.g,7)=some (.slice VA zs.length VC)∧G.g<w6.heap.size∧Hd (aRa G zs k R (w6.setCell (G.g,U7) (.slice A6 (zs.length+1) c6))∧Fr (λb=>G.B≤b) w0 (w6.setCell (G.g,U7) (.slice A6 (zs.length+1) c6))):=by
 intro A6 c6 w6 ho6 hf6 hv6;obtain⟨zv,vv,hbl,hzo,-,-,-⟩:=KV.ex;have e1:wv.cell? (G.g,7)=some zv:=by rw[show G.g=G.more.g from rfl,hbl.cell];rfl
 rw[e1] at c7;injection c7 with c7;subst c7;have HB:Blk _ G.g 94 (jT G.more (.slice VA zs.length VC) vv k s9.size e9 p9):=(hbl.alloc (.cells #[s9.size] 3)).fr ((fR _).drew) (λx=>x);have HV:=(hzo.alloc (.cells #[s9.size] 3)).fr ((fR _).drew) (λ_ _ x=>x);have h9:=KV.aRj (o:= .cells #[s9.size] 3) e1 ho6 (Fr.trans (M1:=nob) ((fR _).drew) hf6 (λ_ _ x=>x.elim) (λ_ _ x=>x)) (by simpa using hv6) hz;have HB6:=HB.fr hf6 (λhm=>HV.aG HB (by decide) hm);refine⟨HB6.frozen 7,by rw[HB6.cell];rfl,HB6.lt,?_,(FV.toB hG).tr h9.2⟩;rcases MK with ⟨h1,h2,h3⟩|⟨h1,h2,h3⟩
 . rw[h3]
   refine⟨(w6.setCell (G.g,U7) (.slice A6 (zs.length+1) c6)).heap.size,?_⟩;have h8:=h9.1;subst h1;subst h2;exact⟨gZ.z hG h8.geo.lg h8.geo.lt h8.geo.ls h8.geo.lf,h8.tree,h8.ex,h8.types,h8.slots,h8.fn,h8.kk,by have:=h8.fine rfl;show s9.size≤G.M;omega,h8.fine,h8.vars,h8.zs,h8.zle,h8.low⟩
 . rw[h3]
   exact⟨h1,h2,(w6.setCell (G.g,U7) (.slice A6 (zs.length+1) c6)).heap.size,s9,zs++[s9.size],h9.1⟩
theorem uS (hM:G.M=24) (hL:G.L=0) (h:Kq G w s zs k0 0 0){f:aD} (hf:G.fs[k]?=some f) (hz:zs.length≤900){pv:Value} (hpv:G.pvs[k]?=some pv){PA:Option Addr}{PC:Nat} (hpe:pv = .slice PA f.params.length PC) (hBL:∀zs,aJi G zs k (bW G.ns G.fs k G.ns.length) f.body):
  Calls prog 60 #[.pointer (some ⟨G.g,0,none⟩),.int .i64 k,.agg #[.string (bs f.name),.int .i64 (f.line:Nat),.slice PA f.params.length PC,.int .i64 (f.ret:Nat),.int .i64 (f.body:Nat)]] w λen w'=>en = .returned (.tuple #[])∧aRa G zs k (gP G.ns G.fs k f s) w'∧Fr (λb=>G.B≤b) w w':=by
 subst hpe;have hkl:=(gK hf);have hpl:f.params.length≤3:=h.geo.fewp f (List.mem_of_getElem? hf);have hpl2:(f.params.length:Int)≤3:=by omega
 have HQ:=hD (And.intro hf hpv);have HM:=hD hM;have HG:=hD h.geo;have HZ:=hD hz;have HBL:=hD hBL;have B1:=hD (Blk.new w 48 #[.string (bs f.name),.int .i64 (f.line:Nat),.slice PA f.params.length PC,.int .i64 (f.ret:Nat),.int .i64 (f.body:Nat)]);have FA:Hd (Fr nob w (w.alloc (.cells #[.string (bs f.name),.int .i64 (f.line:Nat),.slice PA f.params.length PC,.int .i64 (f.ret:Nat),.int .i64 (f.body:Nat)] 48))):=(fR w).alloc _;have S1:=hD (h.no FA);have GN:=hD (show w.heap.size≠G.g∧w.heap.size≠G.bt∧w.heap.size≠G.bs∧w.heap.size≠G.bf from by have:=h.geo.lg;have:=h.geo.lt;have:=h.geo.ls;have:=h.geo.lf;have:=h.zle;exact⟨by omega,by omega,by omega,by omega⟩);have HKL:=hD hkl;have HL0:=hD hL;clear h hf hpv hM hkl hz hBL hL;go_enter func60,ntmps60;go_upto_region 1 with fail;generalize w.alloc (.cells #[.string (bs f.name),.int .i64 (f.line:Nat),.slice PA f.params.length PC,.int .i64 (f.ret:Nat),.int .i64 (f.body:Nat)] 48)=w1 at *;generalize w.heap.size=D at *;obtain⟨_,vv,-,-,-,-,-,-,c8,c9,c10,-,-,hfz,-⟩:=S1.o.cells;have f8:=hfz 8;have f9:=hfz 9;have f10:=hfz 10;have A1:=hD (S1.o.aKj 8 (.int .i64 (k:Nat)) (s':=s) (k':=k) (e':=0) (p':=0) (λ_ _=>rfl) rfl rfl rfl rfl HKL S1.o.size S1.o.fine S1.o.vars);have A2:=hD (A1.o.1.aRv HL0);have A3:=hD (A2.o.1.aKj 10 (.int .i64 ((0:Nat):Int)) (s':={ s with vars:=[],size:=0 }) (k':=k) (e':=0) (p':=0) (λ_ _=>rfl) rfl rfl rfl rfl HKL (Nat.zero_le _) (λ_=>Nat.zero_le _) (Nat.le_refl _));have F3:Hd (FrK G w _):=(((FrK.no FA).trans A1.o.2).trans A2.o.2).trans A3.o.2;have S3:=hD A3.o.1;have B3:=hD (((B1.o.far (p:=⟨G.g,8,none⟩) GN.o.1 (.int .i64 (k:Nat))).far (p:=⟨G.g,9,none⟩) GN.o.1 (.slice none 0 0)).far (p:=⟨G.g,10,none⟩) GN.o.1 (.int .i64 ((0:Nat):Int)));clear A1 A2 A3 S1 B1 hfz;go_upto_region 2 with fail;clear c8 c9 c10 f8 f9 f10
 generalize ((w1.setCell ⟨G.g,8,none⟩ (.int .i64 (k:Nat))).setCell ⟨G.g,9,none⟩ (.slice none 0 0)).setCell ⟨G.g,10,none⟩ (.int .i64 0)=w3 at *;have d2:w3.cell? ⟨D,2,none⟩=some (.slice PA f.params.length PC):=(B3.o.cell 2).trans rfl;go_wp2
 clear d2;go_loopw [23] (λi wr=>∃j:Nat,j≤f.params.length∧i = .int .i64 j∧∃(s':CkS) (e p:Nat),Hd (Kq G wr s' zs k e p)∧Hd (s'.size=j∧s'.vars.length=j)∧Hd ((e=0∧p=0∧jO f.body (f.params.take j) [] = .good s'.vars∧s'.types=s.types∧s'.slots=s.slots∧s'.fn=s.fn)∨(e≠0∧e≤99∧jO f.body (f.params.take j) [] = .bad e p))∧Hd (Blk wr D 48 #[.string (bs f.name),.int .i64 (f.line:Nat),.slice PA f.params.length PC,.int .i64 (f.ret:Nat),.int .i64 (f.body:Nat)])∧Hd (FrK G w wr)) (λi _=>f.params.length - (intOf i).toNat)
 case atStart=>exact⟨0,Nat.zero_le _,rfl,_,0,0,S3,hD ⟨rfl,rfl⟩,hD (.inl ⟨rfl,rfl,rfl,rfl,rfl,rfl⟩),B3,F3⟩
 case round=>
  obtain⟨j,hj,rfl,s',e,p,K,SZ,MO,B,FR⟩:=hrel;clear S3 B3 F3;by_cases hlt:j<f.params.length
  . have hlt2:(j:Int)<(f.params.length:Int):=by omega
    obtain⟨q,hq⟩:∃q,f.params[j]?=some q:=⟨_,gE hlt⟩;have HT:=hD (show f.params.take (j+1)=f.params.take j++[q] from by rw[List.take_add_one,hq];rfl);obtain⟨pb,e1,p0,p1⟩:∃pb,PA=some ⟨pb,0,none⟩∧wr.cell? ⟨pb,j*2,none⟩=some (.string (bs q.1))∧wr.cell? ⟨pb,j*2+1,none⟩=some (.int .i64 (q.2:Nat)):=by
      have ho:Own wr 101 2 (.slice PA f.params.length PC) f.params.length (aP f.params):=K.o.tree.tree.pars.get HQ.o.1 HQ.o.2;obtain⟨pb,e,hc⟩:=ho.some (by omega);exact⟨pb,e,hc _ _ (bZ hq).1,hc _ _ (bZ hq).2⟩
    subst e1;have HJ:=hD hlt;have hj3:(j:Int)≤3:=by omega
    have FE:Hd (Fr nob wr (wr.alloc (.cells #[.string (bs q.1),.int .i64 (q.2:Nat)] 101))):=(fR wr).alloc _;have BE:=hD (Blk.new wr 101 #[.string (bs q.1),.int .i64 (q.2:Nat)]);have EZ:=hD (show wr.heap.size≠G.g∧wr.heap.size≠G.bt∧wr.heap.size≠G.bs∧wr.heap.size≠G.bf from by have h:=K.o;have:=h.geo.lg;have:=h.geo.lt;have:=h.geo.ls;have:=h.geo.lf;have:=h.zle;exact⟨by omega,by omega,by omega,by omega⟩);clear hq hlt;go_upto_region 5 with fail;clear p0 p1;generalize hw4:wr.alloc (.cells #[.string (bs q.1),.int .i64 (q.2:Nat)] 101)=w4 at *;have K4:=hD (K.o.no FE);have B4:=hD (B.o.fr FE (λx=>x));have F4:=hD (FR.o.trans (FrK.no FE));clear K B FR FE hw4;generalize wr.heap.size=E at *;have e0:w4.cell? ⟨E,0,none⟩=some (.string (bs q.1)):=(BE.o.cell 0).trans rfl;obtain⟨nm2,hR⟩:=vJ (eT s'.vars q.1);obtain⟨tb,htb⟩:∃tb,(eT s'.vars q.1).isSome=tb:=⟨_,rfl⟩;rw[htb] at hR;have HR:=hD hR;have HTB:=hD htb;generalize aHj (eT s'.vars q.1)=nt at *;generalize aHk (eT s'.vars q.1)=nsl at *;clear hR htb;go_wp2_with fail
    refine (qK K4 q.1).mono ?_;rintro en w5 ⟨rfl,hf⟩;rw[HR.o];have fa:=hf.alloc (.cells #[.string (bs nm2),.int .i64 (nt:Nat),.int .i64 (nsl:Nat)] 62);have K5:=hD (K4.o.no fa);have B5:=hD (B4.o.fr fa (λx=>x));have E5:=hD (BE.o.fr fa (λx=>x));have F5:=hD (F4.o.trans (FrK.no fa));clear hf fa K4 B4 BE F4 e0 HR;go_upto_region 6 with fail;generalize w5.alloc (.cells #[.string (bs nm2),.int .i64 (nt:Nat),.int .i64 (nsl:Nat)] 62)=w6 at *;have d4:w6.cell? ⟨D,4,none⟩=some (.int .i64 (f.body:Nat)):=(B5.o.cell 4).trans rfl;go_wp2_with fail
    go_still_tail 7,(by kernel_rfl)
    change wpList _ _ _ _ _ w6.drew;clear d4;have K7:=hD (K5.o.no (fR w6).drew);have B7:=hD (B5.o.fr (fR w6).drew (λx=>x));have E7:=hD (E5.o.fr (fR w6).drew (λx=>x));have F7:=hD (F5.o.trans (FrK.no (fR w6).drew));clear K5 B5 E5 F5;generalize w6.drew=w7 at *;go_wp2_with fail
    refine (lI K7 (!tb) 41 f.body (by decide)).mono ?_;rintro en w8 ⟨rfl,h8,f8⟩;obtain⟨e2,he2⟩:∃e2,(if (!tb)=false∧e=0 then 41 else e)=e2:=⟨_,rfl⟩;obtain⟨p2,hp2⟩:∃p2,(if (!tb)=false∧e=0 then f.body else p)=p2:=⟨_,rfl⟩;rw[he2,hp2] at h8;have HE2:=hD he2;have HP2:=hD hp2;have K8:=hD h8;have B8:=hD (B7.o.fr f8 GN.o.1);have E8:=hD (E7.o.fr f8 EZ.o.1);have F8:=hD (F7.o.trans (FrK.ofG f8));clear h8 f8 K7 B7 E7 F7 he2 hp2;have e0:w8.cell? ⟨E,0,none⟩=some (.string (bs q.1)):=(E8.o.cell 0).trans rfl;have e1:w8.cell? ⟨E,1,none⟩=some (.int .i64 (q.2:Nat)):=(E8.o.cell 1).trans rfl;go_wp2_with fail
    refine (aAw K8 (by have:=HM.o;omega) (λ_=>by have:=SZ.o.1;have:=HJ.o;omega) q.1 q.2).mono ?_;rintro en w9 ⟨rfl,h9,f9⟩;have K9:=hD (h9.aOp HG (by show s'.size+1≤G.M;have:=SZ.o.1;have:=HJ.o;have:=HM.o;omega));have B9:=hD (f9.far B8 GN.o.1 GN.o.2.1 GN.o.2.2.1 GN.o.2.2.2 (by decide));have F9:=hD (F8.o.trans f9);clear h9 f9 K8 B8 E8 F8 e0 e1;have MO2:=hD (show (e2=0∧p2=0∧jO f.body (f.params.take (j+1)) [] = .good (s'.vars++[⟨q.1,q.2,s'.size⟩])∧s'.types=s.types∧s'.slots=s.slots∧s'.fn=s.fn)∨(e2≠0∧e2≤99∧jO f.body (f.params.take (j+1)) [] = .bad e2 p2) from by
      have h2:=HE2.o;have h3:=HP2.o;have h4:=HTB.o;have h5:=SZ.o;rw[HT.o,jE];rcases MO.o with ⟨h6,h7,h8,h9⟩|⟨h6,h7,h8⟩
      . subst h6;subst h7
        rw[h8,CkR.aC];cases tb with
        | true=>
          simp at h2 h3
          subst h2;subst h3;exact .inr ⟨by decide,by decide,by rw[if_pos h4]⟩
        | false=>
          simp at h2 h3
          subst h2;subst h3;refine .inl ⟨rfl,rfl,?_,h9⟩;rw[if_neg (by rw[h4];decide),h5.1,h5.2]
      . rw[if_neg (λh=>h6 h.2)] at h2 h3
        subst h2;subst h3;exact .inr ⟨h6,h7,by rw[h8];rfl⟩)
    clear MO;go_wp2
    go_roundw
    case rel=>exact⟨j+1,by have:=HJ.o;omega,by go_num,_,e2,p2,K9,hD ⟨by show s'.size+1=j+1;rw[SZ.o.1],by show (s'.vars++[_]).length=j+1;rw[List.length_append,SZ.o.2];rfl⟩,MO2,B9,F9⟩
    case measure=>simp[intOf];have:=HJ.o;omega
  . have hjm:j=f.params.length:=by omega
    have hlt2:¬(j:Int)<(f.params.length:Int):=by omega
    have MO2:=hD (show ((e=0∧p=0∧jO f.body f.params [] = .good s'.vars∧s'.types=s.types∧s'.slots=s.slots∧s'.fn=s.fn)∨(e≠0∧e≤99∧jO f.body f.params [] = .bad e p)) from by
      have h9:=MO.o;rw[List.take_of_length_le (by omega)] at h9;exact h9)
    obtain⟨_,_,-,-,-,-,-,-,-,-,-,c0,-⟩:=K.o.cells;have d4:wr.cell? ⟨D,4,none⟩=some (.int .i64 (f.body:Nat)):=(B.o.cell 4).trans rfl;clear MO hlt hjm;by_cases he:e=0
    case' pos=>
     have heb:((e:Int)==0)=true:=by rw[he];rfl
     have KG:=hD (show Kq G wr s' zs k 0 0 from by
       rcases MO2.o with ⟨h1,h2,_⟩|⟨h1,_⟩
       . have h9:=K.o;rw[h1,h2] at h9;exact h9
       . exact absurd he h1)
     have EQ:=hD (show gP G.ns G.fs k f s=bW G.ns G.fs k G.ns.length f.body s' from by
       rcases MO2.o with ⟨h1,h2,h3,h4,h5,h6⟩|⟨h1,_⟩
       . unfold gP
         rw[h3,CkR.aC];congr 1
         obtain⟨ty,sl,fn,va,sz⟩:=s';have h7:=SZ.o;dsimp only at h4 h5 h6 h7 ⊢;rw[h4,h5,h6,h7.1,h7.2]
       . exact absurd he h1)
     clear he;go_wp2_with fail
     refine (HBL zs wr s' KG).mono ?_;rintro en wv ⟨rfl,h6,f6⟩;obtain⟨s9,e9,p9,hk9,hm9⟩:=h6.open_ HM.o;have KV:=hD hk9;have MK:=hD (show gY (gP G.ns G.fs k f s) s9 e9 p9 from by rw[EQ.o];exact hm9);have FV:=hD (FR.o.trans f6);clear h6 f6 hk9 hm9 c0 d4;go_wp2_with fail
    case' neg=>
     have heb:((e:Int)==0)=false:=bN.2 (by omega)
     have KV:=hD (K.o.more (by have:=HM.o;omega));have MK:=hD (show gY (gP G.ns G.fs k f s) s' e p from by
       rcases MO2.o with ⟨h1,_⟩|⟨h1,h2,h3⟩
       . exact absurd h1 he
       . exact .inr ⟨h1,h2,by unfold gP;rw[h3];rfl⟩)
     have FV:=FR;clear he;go_wp2_with fail
     clear c0 d4;generalize wr=wv at *;generalize s'=s9 at *;generalize e=e9 at *;generalize p=p9 at *
    all_goals
     obtain⟨zv,vv,hbl,hzo,-,-,-⟩:=KV.o.ex;obtain⟨VA,VC,rfl,-,-⟩:=hzo.cap;have hbl2:Blk wv G.g 94 (jT G.more (.slice VA zs.length VC) vv k s9.size e9 p9):=hbl;have c7:wv.cell? ⟨G.g,7,none⟩=some (.slice VA zs.length VC):=by rw[hbl2.cell];rfl
     have c10:wv.cell? ⟨G.g,10,none⟩=some (.int .i64 (s9.size:Nat)):=by rw[hbl2.cell];rfl
     have HV:=hD ((hzo.alloc (.cells #[.int .i64 (s9.size:Nat)] 3)).fr ((fR _).drew) (λ_ _ x=>x));have HR:=hD (Rd.gG (n:=1) (size:=1) (cs:=[.int .i64 (s9.size:Nat)]) ((Blk.new wv 3 [.int .i64 (s9.size:Nat)].toArray).fr ((fR _).drew) (λx=>x)) rfl (by decide));have glt:=hbl2.lt;have gn:¬G.g=wv.heap.size:=by omega
     have hzl:zs.length≤900:=HZ.o;have HARM:=hD (aLy (w0:=w) HM HG KV c7 MK FV HZ);clear hbl hbl2 hzo;go_wp2_with fail
     go_region_law (first|(refine step_append (v:= .slice VA zs.length VC) (n:=zs.length) (m:=1) (xs:=ints zs) (news:=[.int .i64 (s9.size:Nat)]) (by rfl) _ _ (by rfl) iG (by rfl) (by rfl) HV HR (by simp[Value.oneCell']) (by omega) (by unfold maxLen;omega) ?_;intro A6 c6 w6 ho6 hf6 hv6;have X:=HARM.o A6 c6 w6 ho6 hf6 hv6;obtain⟨f7,c7',gl6,AV⟩:=X;clear ho6 hf6 hv6))
     all_goals
       clear c7 c10 glt gn f7 c7' gl6 HARM HV HR;generalize w6.setCell ⟨G.g,7,none⟩ (.slice A6 (zs.length+1) c6)=w10 at *;go_wp2
       exact gF rfl rfl ⟨rfl,by first|exact AV.o.1|exact AV.o.1.no ((fR _).drew),by first|exact AV.o.2|exact AV.o.2.drew⟩
end
end Go.Proofs.YtlbjicjinnnboaaGreatDoor
