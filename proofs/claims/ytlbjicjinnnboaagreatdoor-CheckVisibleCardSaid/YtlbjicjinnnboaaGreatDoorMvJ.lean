/- MvJ: laws and walks for CheckVisible. -/
import Derived.Test.YtlbjicjinnnboaaGreatDoorMvI
import Derived.Test.YtlbjicjinnnboaaGreatDoorMvH
set_option maxHeartbeats 8000000
set_option maxRecDepth 100000
set_option linter.unusedVariables false
set_option linter.unusedSimpArgs false
namespace Go.Proofs.YtlbjicjinnnboaaGreatDoor
open Go.RowKit Go.Proofs.Tryz
open Pw
variable {x line a n b t c:Nat}{nm:List UInt8}{fs:List aG}
def rT (kd:Nat):Nat:=if kd=8 then 2 else if kd=20 then 4 else 1
def rO (kd:Nat):Nat:=if kd=6 then 1 else if kd=7 then 2 else if kd=8 then 3 else if kd=20 then 4 else 5
def rZ (kd:Nat):List Int:=if kd=6 then [3,4] else if kd=8 then [2] else [1]
theorem xV (w:World) (kd:Nat) (h0:kd=6∨kd=7∨kd=8∨kd=20∨kd=5):Calls prog 209 #[] w λen w'=>∃h,w.heap.size<=h∧en = .returned (.map (some h))∧Fr nob w w' ∧
   (∀wx,Fr nob w' wx->(Instr.lookup 183 (.map (some h)) kd false).run prog wx = .ok (.agg #[rT kd,(h+rO kd,(rZ kd).length,(rZ kd).length)]) wx)∧Blk w' (h+rO kd) 3 (eH (rZ kd)).toArray:=by
 refine (aDz w).mono ?_;rintro en w' ⟨rfl,hf,hm,b1,b2,b3,b4,b5⟩;have hm':∀wx,Fr nob w' wx->wx.heap[w.heap.size]?=some (.map (aHh w.heap.size) 5):=λwx f=>(f.block _ (Array.getElem?_eq_some_iff.1 hm).1 (λx=>x)).trans hm
 rcases h0 with rfl|rfl|rfl|rfl|rfl
 . exact⟨_,aA1 _,rfl,hf,λwx f=>eX tN mW (hm' wx f) (key:= .int .i64 6) rfl rfl,b1⟩
 . exact⟨_,aA1 _,rfl,hf,λwx f=>eX tN mW (hm' wx f) (key:= .int .i64 7) rfl rfl,b2⟩
 . exact⟨_,aA1 _,rfl,hf,λwx f=>eX tN mW (hm' wx f) (key:= .int .i64 8) rfl rfl,b3⟩
 . exact⟨_,aA1 _,rfl,hf,λwx f=>eX tN mW (hm' wx f) (key:= .int .i64 20) rfl rfl,b4⟩
 . exact⟨_,aA1 _,rfl,hf,λwx f=>eX tN mW (hm' wx f) (key:= .int .i64 5) rfl rfl,b5⟩
theorem aCh {w:World}{zs:List Int} (t:Nat) (hz:Blk w b 3 (eH zs).toArray) (hn:zs.length<=10):Calls prog 210 #[(b,zs.length,zs.length),t] w λen w'=>en = .returned (zs.contains (t:Int))∧w'=w:=by
 have HC:=slices_Contains_int b 0 zs.length zs.length zs (t:Int) w (aA1 _) (by omega) (λj hj=>by
  rw[Nat.zero_add,hz.cell j];unfold eH;rw[<-Array.getElem?_toList,List.getElem?_map,gE hj,List.getD,gE hj];rfl)
 rw[List.take_length] at HC;exact HC.mono λen w' h=>h
section
variable {G:Geo}{w w':World}{s:CkS}{r:CkR CkS}{zs:List Nat}{k e p:Nat}{ex:Nat->CkS->CkR (Nat×CkS)}
theorem zN {kd:Nat} (h0:kd=6∨kd=7∨kd=8∨kd=20) (s:CkS):bB fs ex x ⟨kd,line,n,nm,[a]⟩ s=(bF ex [a] s).bind λq=>if (λts:List Nat=>(rZ kd).contains ((ts.getD 0 0:Nat):Int)) q.1=true then .good ((λ_:List Nat=>rT kd) q.1,q.2) else .bad 42 x:=by
 rw[args1,CkR.bind_map];unfold bB;rcases h0 with rfl|rfl|rfl|rfl
 all_goals
  simp[rZ,rT]
  congr 1
  funext u
  try (by_cases h:u.1=1<;>simp[h]<;>omega)
  try (by_cases h:u.1=2<;>simp[h]<;>omega)
  try (by_cases h:u.1=3<;>by_cases h4:u.1=4<;>simp[h,h4]<;>omega)
theorem nR (kd:Nat) (h0:kd=6∨kd=7∨kd=8∨kd=20) (hex:∀i∈[a],iE 170 G zs k i (ex i)):aQh G ex zs k x ⟨kd,line,n,nm,[a]⟩:=λw r A c h ho hlow=>by
 have FA:Hd (Fr nob w (w.alloc (.cells #[kd,line,n,bs nm,.slice A 1 c] 50))):=(fR w).alloc _;have BA:=hD (Blk.new w 50 #[kd,line,n,bs nm,.slice A 1 c]);have HN:=hD (iB (kind:=kd) (line:=line) (n:=n) (nm:=nm) hex (h.no FA) (ho.fr FA (λ_ _ x=>x)) hlow (by simp));have HG:=hD h.geo;have HZ:=hD (show G.Z<=w.heap.size from by obtain⟨s,e,p,h,_⟩:=h.open_;exact h.zle);have EQ:=hD (zN (ex:=ex) (fs:=G.fs) (x:=x) (line:=line) (n:=n) (a:=a) (nm:=nm) h0);have HRU:=hD (λw=>xV w kd (by omega));clear ho hlow h hex;dsimp only;have e1:((kd:Int)==1)=false:=by rcases h0 with rfl|rfl|rfl|rfl<;>rfl
 have e19:((kd:Int)==19)=false:=by rcases h0 with rfl|rfl|rfl|rfl<;>rfl
 have e2:((kd:Int)==2)=false:=by rcases h0 with rfl|rfl|rfl|rfl<;>rfl
 have e3:((kd:Int)==3)=false:=by rcases h0 with rfl|rfl|rfl|rfl<;>rfl
 have e4:((kd:Int)==4)=false:=by rcases h0 with rfl|rfl|rfl|rfl<;>rfl
 have e21:((kd:Int)==21)=false:=by rcases h0 with rfl|rfl|rfl|rfl<;>rfl
 have e5:((kd:Int)==5)=false:=by rcases h0 with rfl|rfl|rfl|rfl<;>rfl
 have e9:((kd:Int)==9)=false:=by rcases h0 with rfl|rfl|rfl|rfl<;>rfl
 obtain⟨RT,hRT⟩:∃RT,rT kd=RT:=⟨_,rfl⟩;obtain⟨RO,hRO⟩:∃RO,rO kd=RO:=⟨_,rfl⟩;obtain⟨RZ,hRZ⟩:∃RZ,rZ kd=RZ:=⟨_,rfl⟩;have HRZ:=hD (show RZ.length<=10 from by subst hRZ;rcases h0 with rfl|rfl|rfl|rfl<;>decide);rw[hRT,hRO,hRZ] at HRU;rw[hRZ] at EQ;clear h0 hRO;go_enter func193,ntmps193;go_wp2_with fail
 refine HN.o.mono ?_;rintro en w2 ⟨A2,c2,ts,rfl,h2,hf⟩;have S2:=hD h2;have F2:=hD ((FrK.no FA).trans hf);have GN:=hD (show w.heap.size≠G.g∧w.heap.size≠G.bt∧w.heap.size≠G.bs∧w.heap.size≠G.bf from by have:=HG.o.lg;have:=HG.o.lt;have:=HG.o.ls;have:=HG.o.lf;have:=HZ.o;exact⟨by omega,by omega,by omega,by omega⟩);have B2:=hD (hf.far BA GN.o.1 GN.o.2.1 GN.o.2.2.1 GN.o.2.2.2 (by decide));clear h2 hf HN FA BA;generalize hT:w.heap.size=T at *;have hts:ts.length=1:=by have:=S2.o.own.len;simpa[ints] using this
 obtain⟨t0,rfl⟩:∃t0,ts=[t0]:=by
  match ts,hts with
  | [u],_=>exact⟨u,rfl⟩
 have d0:w2.cell? (T,0)=kd:=(B2.o.cell 0).trans rfl;have K:=hD d0;have tn2:¬T=w2.heap.size:=by have:=B2.o.lt;omega
 clear hts;go_wp2_with fail
 go_region_held3 (λwx=>wx.cell? (T,0)=kd) (first|exact K.o|exact K8.o|exact KS _ _|go_keep) (first
  | (go_at_call 209;refine (HRU _).mono ?_;rintro en w8 ⟨h,hh,rfl,f8,LF,hb⟩;have F8:Hd (Fr nob w2 w8):=(fR w2).drew.tr f8;go_loud (have K8:Hd (w8.cell? (T,0)=kd):=((B2.o.fr F8 (λx=>x)).cell 0).trans rfl);go_loud (have R8:=hD hb);go_loud (have LK:=LF w8 (fR w8));go_loud (have LK2:=LF (w8.alloc (.cells #[U0,Un] 182)) ((fR w8).alloc _));go_loud (have x8:=K8.o);go_loud (have tn8:¬T=w8.heap.size:=(by have:=B2.o.lt;have:=F8.o.size;omega));go_loud (clear LF f8 hb))
  | (go_at_call 209;refine (HRU _).mono ?_;rintro en w8 ⟨h,hh,rfl,f8,LF,hb⟩;have F8:Hd (Fr nob w2 w8):=((fR w2).drew.alloc (.cells #[U0,Un] 182)).tr f8;go_loud (have K8:Hd (w8.cell? (T,0)=kd):=((B2.o.fr F8 (λx=>x)).cell 0).trans rfl);go_loud (have R8:=hD hb);go_loud (have LK:=LF w8 (fR w8));go_loud (have x8:=K8.o);go_loud (have BZ:Hd (Blk w8 w2.heap.size 182 #[U0,Un]):=(Blk.new w2.drew 182 #[U0,Un]).fr f8 (λx=>x));go_loud (have KS:=hD (λ(a b:Value)=>((((B2.o.fr F8 (λx=>x)).far (p:=(w2.heap.size,())) tn2 a).far (p:=(w2.heap.size,U1)) tn2 b).cell 0).trans (show _=some (Value.int .i64 kd) from rfl)));go_loud (have z0:=(BZ.o.cell 0).trans (show _=some (Value.int .i64 0) from rfl));go_loud (have z1:=(BZ.o.cell 1).trans (show _=some (Value.slice none 0 0) from rfl));go_loud (have zf0:=BZ.o.frozen 0);go_loud (have zf1:=BZ.o.frozen 1);go_loud (have zl:=BZ.o.lt);go_loud (clear LF f8 hb)))
 all_goals
  first
  | (clear LK2
     have Z:=hD (show Blk (w8.alloc (.cells #[RT,(h+RO,RZ.length,RZ.length)] 182)) w8.heap.size 182 #[RT,(h+RO,RZ.length,RZ.length)]∧Fr nob w2 (w8.alloc (.cells #[RT,(h+RO,RZ.length,RZ.length)] 182))∧Blk (w8.alloc (.cells #[RT,(h+RO,RZ.length,RZ.length)] 182)) (h+RO) 3 (eH RZ).toArray from ⟨Blk.new _ _ _,F8.o.alloc _,R8.o.alloc _⟩);clear LK x8 tn8 K8 R8 F8;generalize w8.alloc (.cells #[RT,(h+RO,RZ.length,RZ.length)] 182)=w9 at *;generalize w8.heap.size=D at *)
  | (have Z:=hD (show Blk ((w8.setCell (w2.heap.size,()) RT).setCell (w2.heap.size,U1) (h+RO,RZ.length,RZ.length)) w2.heap.size 182 #[RT,(h+RO,RZ.length,RZ.length)]∧Fr nob w2 ((w8.setCell (w2.heap.size,()) RT).setCell (w2.heap.size,U1) (h+RO,RZ.length,RZ.length))∧Blk ((w8.setCell (w2.heap.size,()) RT).setCell (w2.heap.size,U1) (h+RO,RZ.length,RZ.length)) (h+RO) 3 (eH RZ).toArray from
       ⟨(BZ.o.setCell 0 _).setCell 1 _,(F8.o.setCell (w2.heap.size,()) _ (λh=>by have h:w2.heap.size<w2.heap.size:=h;omega)).setCell (w2.heap.size,U1) _ (λh=>by have h:w2.heap.size<w2.heap.size:=h;omega),(R8.o.far (p:=(w2.heap.size,())) (R8.o.ne BZ (by decide)) _).far (p:=(w2.heap.size,U1)) (R8.o.ne BZ (by decide)) _⟩)
     clear LK x8 K8 R8 F8 KS z0 z1 zf0 zf1 zl BZ;generalize (w8.setCell (w2.heap.size,()) RT).setCell (w2.heap.size,U1) (h+RO,RZ.length,RZ.length)=w9 at *;generalize w2.heap.size=D at *)
  have S9:=hD (S2.o.st.no Z.o.2.1);have F9:=hD (F2.o.trans (FrK.no Z.o.2.1));have O9:=hD (S2.o.own.fr Z.o.2.1 (λ_ _ x=>x));have VL:=hD S2.o.val;have D9:=hD Z.o.1;have R9:=hD Z.o.2.2;clear S2 F2 B2 d0 Z K tn2 HRU;obtain⟨tb,e0,htc⟩:=O9.o.some (by simp);subst e0;have g0:=htc 0 t0 rfl;have hc2:1<=c2:=by have:=O9.o.oH.1;simpa using this
  have d1:=(D9.o.cell 1).trans (show _=some (Value.slice (some (h+RO,())) RZ.length RZ.length) from rfl);obtain⟨z,hz⟩:∃z,RZ.contains (t0:Int)=z:=⟨_,rfl⟩;have HZZ:=hD hz;have HCT:=hD (aCh t0 (R9.o.fr (fR w9).drew (λx=>x)) HRZ);rw[hz] at HCT;have K9:=hD (And.intro g0 d1);have E9:=hD (show ∀w',Fr (bY G.g) w9 w'->(w'.cell? (tb,0)=t0∧w'.cell? (D,1)=some (Value.slice (some (h+RO,())) RZ.length RZ.length))∧w'.cell? (D,0)=RT from λw' f=>by
    obtain⟨s',e',p',hk,-⟩:=S9.o.open_;obtain⟨zv,vv,hb,-⟩:=hk.ex;have nD:D≠G.g:=D9.o.ne hb (by decide);have nT:tb≠G.g:=λe=>O9.o.aD hb (by decide) (by rw[<-e];exact aQ (by simp) hc2)
    exact⟨⟨(f.cell (p:=(tb,())) (show tb<_ from World.block_lt_of_cell? _ _ g0) nT).trans g0,(f.cell (p:=(D,U1)) D9.o.lt nD).trans d1⟩,(f.cell (p:=(D,())) D9.o.lt nD).trans ((D9.o.cell 0).trans (show _=some (Value.int .i64 (RT:Nat)) from rfl))⟩)
  clear htc hz;go_wp2_with fail
  go_region_held3 (λwx=>wx.cell? (tb,0)=t0∧wx.cell? (D,1)=some (Value.slice (some (h+RO,())) RZ.length RZ.length)) (first|exact K9.o|exact K8) (first
    | (go_at_call 210;go_loud (refine HCT.o.mono ?_);go_loud (rintro en w7 ⟨rfl,hw⟩);go_loud (subst hw))
    | (go_at_call 95;go_loud (refine ((S9.o.no (fR w9).drew).ask _ 42 x (by decide) (by decide)).mono ?_);go_loud (rintro en w6 ⟨rfl,h6,f6⟩);go_loud (have S6:=hD h6);go_loud (have F6:Hd (Fr (bY G.g) w9 w6):=Fr.trans ((fR w9).drew) f6 (λ_ _ x=>x.elim) (λ_ _ x=>x));go_loud (have K8:=hD (E9 _ F6).1);go_loud (clear h6 f6)))
  all_goals
    have d0:=(E9 _ F6).2;have FF:=hD (F9.o.trans (FrK.ofG F6));clear E9 F6 K8 K9 F9 D9 R9 O9 S9;go_wp2
    go_ret;refine⟨RT,rfl,KqT.args (P:=λts=>RZ.contains ((ts.getD 0 0:Nat):Int)) (T:=λ_=>rT kd) (b:=z) EQ VL HZZ.o.symm (λ_=>hRT.symm) S6,FF⟩
theorem zO {kd t7:Nat} (h0:kd=5) (hv:∀t' s',r.bind (aU x nm) = .good (t',s')->t7=t'):r.bind (bB fs ex x ⟨kd,line,n,nm,[a]⟩)=((r.bind (aU x nm)).map (·.2)).bind λs=>(bF ex [a] s).bind λq=>if (decide (t7=4) && (rZ kd).contains ((q.1.getD 0 0:Nat):Int))=true then .good (rT kd,q.2) else .bad 42 x:=by
 subst h0;have e:bB fs ex x ⟨5,line,n,nm,[a]⟩=λs=>(aU x nm s).bind λt=>(ex a t.2).bind λr=>if t.1=4∧r.1=1 then .good (1,r.2) else .bad 42 x:=rfl
 rw[e,<-CkR.zA];cases hq:r.bind (aU x nm) with
 | bad e p=>rfl
 | good v=>
  have:=hv v.1 v.2 hq;subst this;simp only[CkR.bO,CkR.aC];rw[args1,CkR.bind_map];congr 1
  funext u
  show _=if (decide (v.1=4) && [(1:Int)].contains ((u.1:Nat):Int))=true then CkR.good (1,u.2) else .bad 42 x
  by_cases h4:v.1=4
  . by_cases h1:u.1=1
    . simp[h4,h1]
    . simp[h4,h1];omega
  . simp[h4]
theorem aHo (kd:Nat) (h0:kd=5) (hx:G.ns[x]?=some ⟨kd,line,n,nm,[a]⟩) (hex:∀i∈[a],iE 170 G zs k i (ex i)):aQh G ex zs k x ⟨kd,line,n,nm,[a]⟩:=λw r A c h ho hlow=>by
 have FA:Hd (Fr nob w (w.alloc (.cells #[kd,line,n,bs nm,.slice A 1 c] 50))):=(fR w).alloc _;have BA:=hD (Blk.new w 50 #[kd,line,n,bs nm,.slice A 1 c]);have HNA:=hD (KqM.named (zs:=zs) (k:=k) hx _ _ (h.no FA));have HO:=hD (And.intro (ho.fr FA (λ_ _ x=>x)) (And.intro hlow hex));have HG:=hD h.geo;have HZ:=hD (show G.Z<=w.heap.size from by obtain⟨s,e,p,h,_⟩:=h.open_;exact h.zle);have EQ:=hD (λt7=>zO (r:=r) (t7:=t7) (ex:=ex) (fs:=G.fs) (x:=x) (line:=line) (n:=n) (a:=a) (nm:=nm) h0);have HRU:=hD (λw=>xV w kd (by omega));clear ho hlow h hex hx;dsimp only;have e1:((kd:Int)==1)=false:=by subst h0;rfl
 have e19:((kd:Int)==19)=false:=by subst h0;rfl
 have e2:((kd:Int)==2)=false:=by subst h0;rfl
 have e3:((kd:Int)==3)=false:=by subst h0;rfl
 have e4:((kd:Int)==4)=false:=by subst h0;rfl
 have e21:((kd:Int)==21)=false:=by subst h0;rfl
 have e5:((kd:Int)==5)=true:=by subst h0;rfl
 have e9:((kd:Int)==9)=false:=by subst h0;rfl
 obtain⟨RT,hRT⟩:∃RT,rT kd=RT:=⟨_,rfl⟩;obtain⟨RO,hRO⟩:∃RO,rO kd=RO:=⟨_,rfl⟩;obtain⟨RZ,hRZ⟩:∃RZ,rZ kd=RZ:=⟨_,rfl⟩;have HRZ:=hD (show RZ.length<=10 from by subst hRZ;subst h0;decide);rw[hRT,hRO,hRZ] at HRU;rw[hRZ] at EQ;clear h0 hRO;go_enter func193,ntmps193;go_wp2_with fail
 refine HNA.o.mono ?_;rintro en w1 ⟨t7,rfl,h1,f1⟩;have N1:=hD h1;have GN:=hD (show w.heap.size≠G.g∧w.heap.size≠G.bt∧w.heap.size≠G.bs∧w.heap.size≠G.bf from by have:=HG.o.lg;have:=HG.o.lt;have:=HG.o.ls;have:=HG.o.lf;have:=HZ.o;exact⟨by omega,by omega,by omega,by omega⟩);have F1:=hD ((FrK.no FA).trans f1);have LOW:=hD (show ∀b,blk (.slice A 1 c)=some b->b≠G.g∧b≠G.bt∧b≠G.bs∧b≠G.bf from λb hb=>by have:=HO.o.2.1 b hb;have:=HG.o.hg;have:=HG.o.ht;have:=HG.o.hs;have:=HG.o.hf;exact⟨by omega,by omega,by omega,by omega⟩);have HN:=hD (iB (kind:=kd) (line:=line) (n:=n) (nm:=nm) HO.o.2.2 N1.o.st (f1.own HO.o.1 (by decide) LOW) HO.o.2.1 (by simp));have B1:=hD (f1.far BA GN.o.1 GN.o.2.1 GN.o.2.2.1 GN.o.2.2.2 (by decide));clear h1 f1 HNA BA FA  LOW;generalize hT:w.heap.size=T at *;have b0:w1.cell? (T,0)=kd:=(B1.o.cell 0).trans rfl;have b1:w1.cell? (T,1)=line:=(B1.o.cell 1).trans rfl;have b2:w1.cell? (T,2)=n:=(B1.o.cell 2).trans rfl;have b3:w1.cell? (T,3)=(bs nm):=(B1.o.cell 3).trans rfl;have b4:w1.cell? (T,4)=some (.slice A 1 c):=(B1.o.cell 4).trans rfl;go_wp2_with fail
 refine HN.o.mono ?_;rintro en w2 ⟨A2,c2,ts,rfl,h2,hf⟩;have S2:=hD h2;have F2:=hD (F1.o.trans hf);have B2:=hD (hf.far B1 GN.o.1 GN.o.2.1 GN.o.2.2.1 GN.o.2.2.2 (by decide));clear h2 hf HN b0 b1 b2 b3 b4 B1 HO F1;have hts:ts.length=1:=by have:=S2.o.own.len;simpa[ints] using this
 obtain⟨t0,rfl⟩:∃t0,ts=[t0]:=by
  match ts,hts with
  | [u],_=>exact⟨u,rfl⟩
 have d0:w2.cell? (T,0)=kd:=(B2.o.cell 0).trans rfl;have K:=hD d0;have tn2:¬T=w2.heap.size:=by have:=B2.o.lt;omega
 clear hts;go_wp2_with fail
 go_region_held3 (λwx=>wx.cell? (T,0)=kd) (first|exact K.o|exact K8.o|exact KS _ _|go_keep) (first
  | (go_at_call 209;refine (HRU _).mono ?_;rintro en w8 ⟨h,hh,rfl,f8,LF,hb⟩;have F8:Hd (Fr nob w2 w8):=(fR w2).drew.tr f8;go_loud (have K8:Hd (w8.cell? (T,0)=kd):=((B2.o.fr F8 (λx=>x)).cell 0).trans rfl);go_loud (have R8:=hD hb);go_loud (have LK:=LF w8 (fR w8));go_loud (have LK2:=LF (w8.alloc (.cells #[U0,Un] 182)) ((fR w8).alloc _));go_loud (have x8:=K8.o);go_loud (have tn8:¬T=w8.heap.size:=(by have:=B2.o.lt;have:=F8.o.size;omega));go_loud (clear LF f8 hb))
  | (go_at_call 209;refine (HRU _).mono ?_;rintro en w8 ⟨h,hh,rfl,f8,LF,hb⟩;have F8:Hd (Fr nob w2 w8):=((fR w2).drew.alloc (.cells #[U0,Un] 182)).tr f8;go_loud (have K8:Hd (w8.cell? (T,0)=kd):=((B2.o.fr F8 (λx=>x)).cell 0).trans rfl);go_loud (have R8:=hD hb);go_loud (have LK:=LF w8 (fR w8));go_loud (have x8:=K8.o);go_loud (have BZ:Hd (Blk w8 w2.heap.size 182 #[U0,Un]):=(Blk.new w2.drew 182 #[U0,Un]).fr f8 (λx=>x));go_loud (have KS:=hD (λ(a b:Value)=>((((B2.o.fr F8 (λx=>x)).far (p:=(w2.heap.size,())) tn2 a).far (p:=(w2.heap.size,U1)) tn2 b).cell 0).trans (show _=some (Value.int .i64 kd) from rfl)));go_loud (have z0:=(BZ.o.cell 0).trans (show _=some (Value.int .i64 0) from rfl));go_loud (have z1:=(BZ.o.cell 1).trans (show _=some (Value.slice none 0 0) from rfl));go_loud (have zf0:=BZ.o.frozen 0);go_loud (have zf1:=BZ.o.frozen 1);go_loud (have zl:=BZ.o.lt);go_loud (clear LF f8 hb)))
 all_goals
  first
  | (clear LK2
     have Z:=hD (show Blk (w8.alloc (.cells #[RT,(h+RO,RZ.length,RZ.length)] 182)) w8.heap.size 182 #[RT,(h+RO,RZ.length,RZ.length)]∧Fr nob w2 (w8.alloc (.cells #[RT,(h+RO,RZ.length,RZ.length)] 182))∧Blk (w8.alloc (.cells #[RT,(h+RO,RZ.length,RZ.length)] 182)) (h+RO) 3 (eH RZ).toArray from ⟨Blk.new _ _ _,F8.o.alloc _,R8.o.alloc _⟩);clear LK x8 tn8 K8 R8 F8;generalize w8.alloc (.cells #[RT,(h+RO,RZ.length,RZ.length)] 182)=w9 at *;generalize w8.heap.size=D at *)
  | (have Z:=hD (show Blk ((w8.setCell (w2.heap.size,()) RT).setCell (w2.heap.size,U1) (h+RO,RZ.length,RZ.length)) w2.heap.size 182 #[RT,(h+RO,RZ.length,RZ.length)]∧Fr nob w2 ((w8.setCell (w2.heap.size,()) RT).setCell (w2.heap.size,U1) (h+RO,RZ.length,RZ.length))∧Blk ((w8.setCell (w2.heap.size,()) RT).setCell (w2.heap.size,U1) (h+RO,RZ.length,RZ.length)) (h+RO) 3 (eH RZ).toArray from
       ⟨(BZ.o.setCell 0 _).setCell 1 _,(F8.o.setCell (w2.heap.size,()) _ (λh=>by have h:w2.heap.size<w2.heap.size:=h;omega)).setCell (w2.heap.size,U1) _ (λh=>by have h:w2.heap.size<w2.heap.size:=h;omega),(R8.o.far (p:=(w2.heap.size,())) (R8.o.ne BZ (by decide)) _).far (p:=(w2.heap.size,U1)) (R8.o.ne BZ (by decide)) _⟩)
     clear LK x8 K8 R8 F8 KS z0 z1 zf0 zf1 zl BZ;generalize (w8.setCell (w2.heap.size,()) RT).setCell (w2.heap.size,U1) (h+RO,RZ.length,RZ.length)=w9 at *;generalize w2.heap.size=D at *)
  have S9:=hD (S2.o.st.no Z.o.2.1);have F9:=hD (F2.o.trans (FrK.no Z.o.2.1));have O9:=hD (S2.o.own.fr Z.o.2.1 (λ_ _ x=>x));have VL:=hD S2.o.val;have D9:=hD Z.o.1;have R9:=hD Z.o.2.2;clear S2 F2 B2 d0 Z K tn2 HRU;obtain⟨tb,e0,htc⟩:=O9.o.some (by simp);subst e0;have g0:=htc 0 t0 rfl;have hc2:1<=c2:=by have:=O9.o.oH.1;simpa using this
  have d1:=(D9.o.cell 1).trans (show _=some (Value.slice (some (h+RO,())) RZ.length RZ.length) from rfl);obtain⟨z,hz⟩:∃z,RZ.contains (t0:Int)=z:=⟨_,rfl⟩;have HZZ:=hD hz;have HCT:=hD (aCh t0 (R9.o.fr (fR w9).drew (λx=>x)) HRZ);rw[hz] at HCT;have K9:=hD (And.intro g0 d1);have E9:=hD (show ∀w',Fr (bY G.g) w9 w'->(w'.cell? (tb,0)=t0∧w'.cell? (D,1)=some (Value.slice (some (h+RO,())) RZ.length RZ.length))∧w'.cell? (D,0)=RT from λw' f=>by
    obtain⟨s',e',p',hk,-⟩:=S9.o.open_;obtain⟨zv,vv,hb,-⟩:=hk.ex;have nD:D≠G.g:=D9.o.ne hb (by decide);have nT:tb≠G.g:=λe=>O9.o.aD hb (by decide) (by rw[<-e];exact aQ (by simp) hc2)
    exact⟨⟨(f.cell (p:=(tb,())) (show tb<_ from World.block_lt_of_cell? _ _ g0) nT).trans g0,(f.cell (p:=(D,U1)) D9.o.lt nD).trans d1⟩,(f.cell (p:=(D,())) D9.o.lt nD).trans ((D9.o.cell 0).trans (show _=some (Value.int .i64 (RT:Nat)) from rfl))⟩)
  clear htc hz;obtain⟨b7,hb7⟩:∃b,((t7:Int)==4)=b:=⟨_,rfl⟩;have H7:=hD (show decide (t7=4)=b7 from by rw[<-hb7,Bool.eq_iff_iff];simp;omega);cases b7 with
  | true=>
    go_wp2_with fail
    go_region_held3 (λwx=>wx.cell? (tb,0)=t0∧wx.cell? (D,1)=some (Value.slice (some (h+RO,())) RZ.length RZ.length)) (first|exact K9.o|exact K8) (first
      | (go_at_call 210;go_loud (refine HCT.o.mono ?_);go_loud (rintro en w7 ⟨rfl,hw⟩);go_loud (subst hw))
      | (go_at_call 95;go_loud (refine ((S9.o.no (fR w9).drew).ask _ 42 x (by decide) (by decide)).mono ?_);go_loud (rintro en w6 ⟨rfl,h6,f6⟩);go_loud (have S6:=hD h6);go_loud (have F6:Hd (Fr (bY G.g) w9 w6):=Fr.trans ((fR w9).drew) f6 (λ_ _ x=>x.elim) (λ_ _ x=>x));go_loud (have K8:=hD (E9 _ F6).1);go_loud (clear h6 f6)))
    all_goals
      have d0:=(E9 _ F6).2;have FF:=hD (F9.o.trans (FrK.ofG F6));clear E9 F6 K8 K9 F9 D9 R9 O9 S9;go_wp2
      go_ret;refine⟨RT,rfl,by rw[EQ.o t7 N1.o.val];exact KqT.args (P:=λts=>decide (t7=4) && RZ.contains ((ts.getD 0 0:Nat):Int)) (T:=λ_=>rT kd) (b:=z) (λ_=>rfl) VL (by rw[H7.o,<-HZZ.o];rfl) (λ_=>hRT.symm) S6,FF⟩
  | false=>
    go_wp2_with fail
    refine wp_region_still_tail 14 (by kernel_rfl) (by kernel_rfl) ?_;simp only[List.take_succ_cons,List.take_zero,List.drop_succ_cons,List.drop_zero];iterate 6 still_step
    with_reducible refine gD (by kernel_rfl) ?_
    simp only[Act.put,List.setIfInBounds_toArray,List.set_cons_zero,List.set_cons_succ];iterate 5 (with_reducible refine gD (by kernel_rfl) ?_;simp only[Act.put,List.setIfInBounds_toArray,List.set_cons_zero,List.set_cons_succ])
    iterate 2 still_step
    refine wpStill_nil ?_;change wpList _ _ _ _ _ w9.drew;have S8:=hD (S9.o.no (fR w9).drew);have E8:=hD (λw' (f:Fr (bY G.g) w9.drew w')=>(E9 w' (show Fr (bY G.g) w9 w' from Fr.trans ((fR w9).drew) f (λ_ _ x=>x.elim) (λ_ _ x=>x))).2);have F8:=hD (F9.o.trans (FrK.no (fR w9).drew));clear E9 K9 F9 D9 R9 O9 S9 g0 d1;generalize w9.drew=w8' at *;go_wp2_with fail
    refine (S8.o.ask false 42 x (by decide) (by decide)).mono ?_;rintro en w6 ⟨rfl,h6,f6⟩;have S6:=hD h6;have d0:=E8.o w6 f6;have FF:=hD (F8.o.trans (FrK.ofG f6));clear h6 f6 E8 S8 F8;go_wp2
    go_ret;refine⟨RT,rfl,by rw[EQ.o t7 N1.o.val];exact KqT.args (P:=λts=>decide (t7=4) && RZ.contains ((ts.getD 0 0:Nat):Int)) (T:=λ_=>rT kd) (λ_=>rfl) VL (by show false=(decide (t7=4) && _);rw[H7.o];rfl) (λ_=>hRT.symm) S6,FF⟩
end
section
variable {G:Geo}{w w':World}{s:CkS}{r:CkR CkS}{zs:List Nat}{k e p:Nat}
theorem aEe {f:Nat}{nd:aF} (hx:G.ns[x]?=some nd) (hT:aQh G (eO G.ns G.fs k f) zs k x nd):iE 170 G zs k x (eO G.ns G.fs k (f+1) x):=by
 intro w r h;have hx3:(x:Int)<(G.ns.length:Int):=by have:=(gK hx);omega
 have hx4:(G.ns.length:Int)<=300:=by have:=h.geo.few;omega
 cases r with
 | bad e p=>
  have M0:=hD h;obtain⟨he,h99,s,hck⟩:=h;obtain⟨_,_,-,-,-,-,-,-,-,-,-,c0,-⟩:=hck.cells;have heb:((e:Int) != 0)=true:=by rw[bne,bN.2 (by omega)];rfl
  clear hck he hx hT;go_enter func170,ntmps170;go_wp2
  go_ret;exact⟨0,rfl,⟨M0,λ_ _ hr=>by cases hr⟩,FrK.refl _ _⟩
 | good s=>
  have hck:Kq G w s zs k 0 0:=h;obtain⟨_,_,-,-,-,-,c6,-,c8,-,-,c0,-⟩:=hck.cells;have S1:=hD (hck.no (fR w).drew);have F1:Hd (FrK G w w.drew):=FrK.no (fR w).drew;have HX:=hD hx;have HT:=hD hT;clear h hck hx hT;go_enter func170,ntmps170;go_wp2_with fail
  go_still_tail 11,(by kernel_rfl)
  change wpList _ _ _ _ _ w.drew;clear c0 c6 c8;generalize w.drew=w1 at *;obtain⟨⟨u2,bf⟩,zf⟩:=S1.o.fn.gY (j:=x) (by omega);have S3:Hd (Kq G _ (bK k x s) zs k 0 0):=(S1.o.kI x k).1;have F3:=hD (F1.o.trans (S1.o.kI x k).2);go_upto_region 4 with fail;clear bf zf S1 F1;generalize w1.setCell (G.bf,x) k=w2 at *;go_wp2_with fail
  refine (nU S3 HX).mono ?_;rintro en w3 ⟨⟨A,c,rfl,ho,hlow⟩,hf⟩;have S4:Hd (KqM G w3 (.good (bK k x s)) zs k):=S3.o.no hf;have F4:=hD (F3.o.trans (FrK.no hf));have HC:=hD (HT w3 (.good (bK k x s)) A c S4 ho hlow);clear ho hlow hf S3 F3 S4 HT;go_wp2_with fail
  refine HC.o.mono ?_;rintro en w4 ⟨t,rfl,ht,hf⟩;have T4:=hD ht;have F5:=hD (F4.o.trans hf);obtain⟨s',e,p,hck,hm⟩:=ht.st.open_;obtain⟨_,_,-,-,c4,-⟩:=hck.cells;obtain⟨⟨u3,bt⟩,zt⟩:=hck.types.gY (j:=x) (by omega);have S5:=hD (hck.aSh x t);have HM:=hD hm;clear hck hm ht hf F4 HC;go_wp2
  go_ret;refine⟨t,rfl,?_,F5.o.trans S5.o.2⟩;have hm:=HM.o;have hv:=T4.o.val
  show KqT G _ (eO G.ns G.fs k (f+1) x s) zs k t
  rw[aAx HX.o];simp only[CkR.aC] at hm hv;cases hq:bB G.fs (eO G.ns G.fs k f) x nd (bK k x s) with
  | bad e' p'=>
   rw[hq] at hm;rcases hm with ⟨_,_,h9⟩|⟨h0,h9,h8⟩
   . cases h9
   . injection h8 with h8 h7
     subst h8;subst h7;exact⟨⟨h0,h9,_,S5.o.1⟩,λ_ _ hr=>by cases hr⟩
  | good v=>
   rw[hq] at hm hv;rcases hm with ⟨h0,h8,h9⟩|⟨_,_,h8⟩
   . injection h9 with h9
     subst h0;subst h8;subst h9;have:=hv v.1 v.2 rfl;subst this;exact⟨S5.o.1,λt' s' hr=>by injection hr with hr;injection hr⟩
   . cases h8
theorem xX:∀(f x:Nat) (nd:aF) (G:Geo),gN G->x<f->G.ns[x]?=some nd->kC nd.kind=true->iE 170 G zs k x (eO G.ns G.fs k f x)
 | 0,x,nd,_,_,h,_,_=>absurd h (Nat.not_lt_zero _)
 | f+1,x,nd,G,hg,h,hx,hR=>by
  have hok:=hg.ok.nodes x nd hx;have hE:∀n,iV n=true->kC n=true:=λn h=>by unfold kC;rw[h];rfl
  have key:∀{cls:Nat->Bool} {a:Nat},(∀n,cls n=true->kC n=true)->Kid (G.ns.take x) cls a->iE 170 G zs k a (eO G.ns G.fs k f a):=λ{cls a} hc hk=>by
   obtain⟨hlt,c,hc1,hc2⟩:=hk.take;exact xX f a c G hg (by omega) hc1 (hc _ hc2)
  have k1:∀{b:Nat},Kid (G.ns.take x) iV b->∀a∈[b],iE 170 G zs k a (eO G.ns G.fs k f a):=λ{b} hb a ha=>by rw[List.mem_singleton.1 ha];exact key hE hb
  have k2:∀{b c:Nat},Kid (G.ns.take x) iV b->Kid (G.ns.take x) iV c->∀a∈[b,c],iE 170 G zs k a (eO G.ns G.fs k f a):=λ{b c} hb hc a ha=>by
   rcases List.mem_cons.1 ha with e|ha
   . rw[e];exact key hE hb
   . rw[List.mem_singleton.1 ha];exact key hE hc
  have hx3:x<=300:=by have:=(gK hx);have:=hg.few;omega
  refine aEe hx ?_;cases hok with
  | int line n hn=>exact kL 1 (by decide)
  | bool line n hn=>exact kL 2 (by decide)
  | text line nm=>exact kL 3 (by decide)
  | input line=>exact kL 19 (by decide)
  | var line nm=>exact zY hx
  | index line nm b hb=>exact aHo 5 rfl hx (k1 hb)
  | len line b hb=>exact nR 6 (by decide) (k1 hb)
  | neg line b hb=>exact nR 7 (by decide) (k1 hb)
  | not line b hb=>exact nR 8 (by decide) (k1 hb)
  | new line b hb=>exact nR 20 (by decide) (k1 hb)
  | bin line nm b c hs hb hc=>exact aDv (k2 hb hc)
  | call line nm l hk=>exact zZ (λa ha=>key hE (hk a ha)) (hg.fewk _ (List.mem_of_getElem? hx)) hx3
  | _=>simp[kC,iV] at hR
end
def Geo.atL (G:Geo) (m:Nat):Geo:={ G with L:=m }
theorem gN.atL {G:Geo} (h:gN G) (m:Nat):gN (G.atL m):=⟨h.hM,h.hg,h.ht,h.hs,h.hf,h.lg,h.lt,h.ls,h.lf,h.ts,h.tf,h.sf,h.pos,h.few,h.fewf,h.fewp,h.fewk,h.ok⟩
def KqN (G:Geo) (w:World) (r:CkR CkS) (zs:List Nat) (k:Nat):Prop:=match r with
 | .good s=>Kq G w s zs k 0 0
 | .bad e p=>e≠0∧e<=99∧∃s,Kq G.more w s zs k e p
def aGd (G:Geo) (zs:List Nat) (k:Nat) (r:CkR CkS) (w:World) (en:Ending) (w':World):Prop:=
 en = .returned (.tuple #[])∧KqN G w' r zs k∧FrK G w w'
section
variable {G:Geo}{w w':World}{s:CkS}{r:CkR CkS}{zs:List Nat}{k e p:Nat}{ex:Nat->CkS->CkR (Nat×CkS)}
theorem KqM.toN (h:KqM G w r zs k) (hM:G.M=24):KqN G w r zs k:=by
 cases r with
 | good s=>exact h
 | bad e p=>obtain⟨h1,h2,s,h3⟩:=h;exact⟨h1,h2,s,h3.more (by omega)⟩
theorem KqN.no (h:KqN G w r zs k) (f:Fr nob w w'):KqN G w' r zs k:=by
 cases r with
 | good s=>exact Kq.no h f
 | bad e p=>obtain⟨h1,h2,s,h3⟩:=h;exact⟨h1,h2,s,h3.no f⟩
theorem Kq.less (h:Kq G.more w s zs k 0 0) (hg:gN G) (hM:G.M=24):Kq G w s zs k 0 0:=
 ⟨hg,h.tree,h.ex,h.types,h.slots,h.fn,h.kk,by have:=h.fine rfl;omega,h.fine,h.vars,h.zs,h.zle,h.low⟩
theorem fO.toQ {R:CkR CkS} (h:fO R s e p) (hck:Kq G.more w s zs k e p) (hg:gN G) (hM:G.M=24):KqN G w R zs k:=by
 rcases h with ⟨rfl,rfl,rfl⟩|⟨h1,h2,rfl⟩
 . exact hck.less hg hM
 . exact⟨h1,h2,s,hck⟩
theorem aSs {b:Bool}{e':Nat} (h:(if b=false∧e=0 then e' else e)=0) (he:e'≠0):b=true∧e=0:=by
 by_cases hc:b=false∧e=0
 . rw[if_pos hc] at h;exact absurd h he
 . rw[if_neg hc] at h
   cases b with
   | true=>exact⟨rfl,h⟩
   | false=>exact absurd ⟨rfl,h⟩ hc
theorem aMo {q:CkR (Nat×CkS)}{s1 s2:CkS}{e1 p1:Nat}{b1 b2 b3:Bool} (hm:fO (q.map (·.2)) s1 e1 p1) (hv:∀t' s',q = .good (t',s')->t=t')
   (h1:b1=decide (t≠0)) (h2:b2 = !(dV s1.vars nm).isSome) (h3:b3=decide (s1.size<24)) (hs:s2={ s1 with slots:=s1.slots.set x s1.size,vars:=s1.vars++[⟨nm,t,s1.size⟩],size:=s1.size+1 })
   {e2 p2 e3 p3 e4 p4:Nat} (he2:(if b1=false∧e1=0 then 42 else e1)=e2) (hp2:(if b1=false∧e1=0 then x else p1)=p2) (he3:(if b2=false∧e2=0 then 41 else e2)=e3) (hp3:(if b2=false∧e2=0 then x else p2)=p3) (he4:(if b3=false∧e3=0 then 4 else e3)=e4) (hp4:(if b3=false∧e3=0 then x else p3)=p4):
   fO (q.bind λr=>if r.1=0 then .bad 42 x else if (dV r.2.vars nm).isSome then .bad 41 x else if 24<=r.2.size then .bad 4 x else .good { r.2 with slots:=r.2.slots.set x r.2.size,vars:=r.2.vars++[⟨nm,r.1,r.2.size⟩],size:=r.2.size+1 }) s2 e4 p4:=by
 rcases hm with ⟨rfl,rfl,hq⟩|⟨h0,h9,hq⟩
 . obtain⟨v,rfl,rfl⟩:=CkR.map_eq hq
   have:=hv v.1 v.2 rfl;subst this;simp only[CkR.aC];by_cases ht:v.1=0
   . have:b1=false:=by rw[h1];simp[ht]
     subst this;simp only[and_self,if_true] at he2 hp2;subst he2;subst hp2;simp at he3 hp3
     subst he3;subst hp3;simp at he4 hp4
     subst he4;subst hp4;rw[if_pos ht];exact .inr ⟨by decide,by decide,rfl⟩
   . have:b1=true:=by rw[h1];simp[ht]
     subst this;simp at he2 hp2
     subst he2;subst hp2;rw[if_neg ht];cases hf:(dV v.2.vars nm).isSome with
     | true=>
      have:b2=false:=by rw[h2,hf];rfl
      subst this;simp at he3 hp3
      subst he3;subst hp3;simp at he4 hp4
      subst he4;subst hp4;exact .inr ⟨by decide,by decide,rfl⟩
     | false=>
      have:b2=true:=by rw[h2,hf];rfl
      subst this;simp at he3 hp3
      subst he3;subst hp3;by_cases hz:v.2.size<24
      . have:b3=true:=by rw[h3];simp[hz]
        subst this;simp at he4 hp4
        subst he4;subst hp4;rw[if_neg (by simp),if_neg (by omega),hs];exact .inl ⟨rfl,rfl,rfl⟩
      . have:b3=false:=by rw[h3];simp[hz]
        subst this;simp at he4 hp4
        subst he4;subst hp4;rw[if_neg (by simp),if_pos (by omega)];exact .inr ⟨by decide,by decide,rfl⟩
 . have hq':q = .bad e1 p1:=by
     cases q with
     | bad e p=>injection hq with a b;rw[a,b]
     | good v=>cases hq
   subst hq';rw[if_neg (λh=>h0 h.2)] at he2 hp2;subst he2;subst hp2;rw[if_neg (λh=>h0 h.2)] at he3 hp3;subst he3;subst hp3;rw[if_neg (λh=>h0 h.2)] at he4 hp4;subst he4;subst hp4;exact .inr ⟨h0,h9,rfl⟩
theorem aMb (hM:G.M=24){A:Option Addr} (h:Kq G w s zs k 0 0) (hx:x<G.ns.length) (ho:Own w 3 1 (.slice A 1 c) 1 (ints [a])) (ha:iE 170 G zs k a (ex a)):
   Calls prog 168 #[(G.g,()),.agg #[(10:Int),line,U0,bs nm,.slice A 1 c],x] w (aGd G zs k (aGg ex x ⟨10,line,0,nm,[a]⟩ s) w):=by
 have FA:Hd (Fr nob w (w.alloc (.cells #[(10:Int),line,U0,bs nm,.slice A 1 c] 50))):=(fR w).alloc _;have BA:=hD (Blk.new w 50 #[(10:Int),line,U0,bs nm,.slice A 1 c]);have HC:=hD (ha _ (.good s) (show KqM G _ (.good s) zs k from h.no FA));have HG:=hD h.geo;have HM:=hD hM;have hx3:(x:Int)<(G.ns.length:Int):=by omega
 have hx4:(G.ns.length:Int)<=300:=by have:=h.geo.few;omega
 have GN:=hD (show w.heap.size≠G.g∧w.heap.size≠G.bt∧w.heap.size≠G.bs∧w.heap.size≠G.bf from by have:=h.geo.lg;have:=h.geo.lt;have:=h.geo.ls;have:=h.geo.lf;have:=h.zle;exact⟨by omega,by omega,by omega,by omega⟩);obtain⟨kb,e9,kc⟩:=ho.some (by simp);subst e9;have k0:=kc 0 a rfl;have klt:=World.block_lt_of_cell? _ _ k0;have kn:¬kb=w.heap.size:=by
   have:kb<w.heap.size:=klt;omega
 have hc1:1<=c:=by have:=ho.oH;simp at this;omega
 clear h ho kc ha hM
 show Calls _ _ _ _ (aGd G zs k ((ex a s).bind λr=>if r.1=0 then .bad 42 x else if (dV r.2.vars nm).isSome then .bad 41 x else if 24<=r.2.size then .bad 4 x else .good { r.2 with slots:=r.2.slots.set x r.2.size,vars:=r.2.vars++[⟨nm,r.1,r.2.size⟩],size:=r.2.size+1 }) w)
 obtain⟨q,hq⟩:∃q,ex a s=q:=⟨_,rfl⟩;have HQ:=hD hq;rw[hq];clear hq;go_enter func168,ntmps168;go_wp2_with fail
 refine HC.o.mono ?_;rintro en w2 ⟨t,rfl,ht,hf⟩;have F2:=hD ((FrK.no FA).trans hf);have B2:=hD (hf.far BA GN.o.1 GN.o.2.1 GN.o.2.2.1 GN.o.2.2.2 (by decide));obtain⟨s1,e1,p1,hck,hm⟩:=ht.st.open_;have MM:=hD (show fO (q.map (·.2)) s1 e1 p1 from by rw[<-HQ.o];exact hm);have HV:=hD (show ∀t' s',q = .good (t',s')->t=t' from by rw[<-HQ.o];exact ht.val);have S2:=hD hck;clear ht hf hck hm HC FA BA k0 klt kn HQ;generalize w.heap.size=T at *;have d3:w2.cell? (T,3)=(bs nm):=(B2.o.cell 3).trans rfl;obtain⟨nm2,hR⟩:=wQ (dV s1.vars nm);obtain⟨tb,htb⟩:∃tb,(dV s1.vars nm).isSome=tb:=⟨_,rfl⟩;rw[htb] at hR;have HR:=hD hR;have HTB:=hD htb;generalize aIx (dV s1.vars nm)=nt at *;generalize aIy (dV s1.vars nm)=nsl at *;clear hR htb;go_wp2_with fail
 refine (rM S2 nm).mono ?_;rintro en w3 ⟨rfl,hf⟩;rw[HR.o];have fa:=hf.alloc (.cells #[bs nm2,nt,nsl] 62);have S3:=hD (S2.o.no fa);have F3:=hD (F2.o.trans (FrK.no fa));have B3:=hD (B2.o.fr fa (λx=>x));clear hf fa S2 F2 B2 d3;go_upto_region 3 with fail;generalize w3.alloc (.cells #[bs nm2,nt,nsl] 62)=w3 at *;go_wp2_with fail
 refine (lZ S3 _ 42 x (by decide)).mono ?_;rintro en w4 ⟨rfl,h4,f4⟩;obtain⟨e2,he2⟩:∃e2,(if ((t:Int) != 0)=false∧e1=0 then 42 else e1)=e2:=⟨_,rfl⟩;obtain⟨p2,hp2⟩:∃p2,(if ((t:Int) != 0)=false∧e1=0 then x else p1)=p2:=⟨_,rfl⟩;rw[he2,hp2] at h4;have HE2:=hD he2;have HP2:=hD hp2;have S4:=hD h4;have F4:=hD (F3.o.trans (FrK.ofG f4));have B4:=hD (B3.o.fr f4 GN.o.1);clear h4 f4 S3 F3 B3 he2 hp2;go_wp2_with fail
 refine (lZ S4 (!tb) 41 x (by decide)).mono ?_;rintro en w5 ⟨rfl,h5,f5⟩;obtain⟨e3,he3⟩:∃e3,(if (!tb)=false∧e2=0 then 41 else e2)=e3:=⟨_,rfl⟩;obtain⟨p3,hp3⟩:∃p3,(if (!tb)=false∧e2=0 then x else p2)=p3:=⟨_,rfl⟩;rw[he3,hp3] at h5;have HE3:=hD he3;have HP3:=hD hp3;have S5:=hD h5;have F5:=hD (F4.o.trans (FrK.ofG f5));have B5:=hD (B4.o.fr f5 GN.o.1);clear h5 f5 S4 F4 B4 he3 hp3;obtain⟨_,_,-,-,-,-,-,-,-,-,c10,-⟩:=S5.o.cells;go_wp2_with fail
 go_still_tail 9,(by kernel_rfl)
 change wpList _ _ _ _ _ w5.drew;clear c10;have S6:=hD (S5.o.no (fR w5).drew);have F6:=hD (F5.o.trans (FrK.no (fR w5).drew));have B6:=hD (B5.o.fr (fR w5).drew (λx=>x));clear S5 F5 B5;generalize w5.drew=w6 at *;go_wp2_with fail
 refine (lZ S6 (decide ((s1.size:Int)<24)) 4 x (by decide)).mono ?_;rintro en w7 ⟨rfl,h7,f7⟩;obtain⟨e4,he4⟩:∃e4,(if decide ((s1.size:Int)<24)=false∧e3=0 then 4 else e3)=e4:=⟨_,rfl⟩;obtain⟨p4,hp4⟩:∃p4,(if decide ((s1.size:Int)<24)=false∧e3=0 then x else p3)=p4:=⟨_,rfl⟩;rw[he4,hp4] at h7;have HE4:=hD he4;have HP4:=hD hp4;have S7:=hD h7;have F7:=hD (F6.o.trans (FrK.ofG f7));have B7:=hD (B6.o.fr f7 GN.o.1);clear h7 f7 S6 F6 B6 he4 hp4;obtain⟨_,_,-,-,-,c5,-,-,-,-,c10,-⟩:=S7.o.cells;go_wp2_with fail
 go_still_tail 11,(by kernel_rfl)
 change wpList _ _ _ _ _ w7.drew;clear c5 c10;have S8:=hD (S7.o.no (fR w7).drew);have F8:=hD (F7.o.trans (FrK.no (fR w7).drew));have B8:=hD (B7.o.fr (fR w7).drew (λx=>x));clear S7 F7 B7;generalize w7.drew=w8 at *;obtain⟨⟨u2,bf⟩,zf⟩:=S8.o.slots.gY (j:=x) (by omega);have S9:=hD (S8.o.aQj x (s1.size:Int));have B9:=hD (B8.o.far (p:=(G.bs,x)) (λe=>GN.o.2.2.1 e) s1.size);go_upto_region 7 with fail;clear bf zf S8 B8;generalize w8.setCell (G.bs,x) s1.size=w9 at *;have d3:w9.cell? (T,3)=(bs nm):=(B9.o.cell 3).trans rfl;go_wp2_with fail
 have hfine:e4=0->s1.size<=23:=λh0=>by
   have:=(aSs (HE4.o.trans h0) (by decide)).1;simp only[decide_eq_true_eq] at this;omega
 refine dU (aCf S9.o.1 (by have:=HM.o;omega) hfine nm t) λw10 S10 f10=>?_;have F10:=hD ((F8.o.trans S9.o.2).trans f10);clear f10 S9 F8 B9 d3;go_wp2
 refine fK rfl rfl ⟨rfl,?_,F10⟩;refine (aMo MM HV (b1:=((t:Int) != 0)) (b2:= !tb) (b3:=decide ((s1.size:Int)<24)) ?_ ?_ ?_ rfl HE2 HP2 HE3 HP3 HE4 HP4).toQ S10 HG HM.o
 . rw[Bool.eq_iff_iff];simp
 . rw[HTB.o]
 . rw[Bool.eq_iff_iff];simp;omega
end
section
variable {G:Geo}{w w':World}{s:CkS}{r:CkR CkS}{zs:List Nat}{k e p:Nat}{ex:Nat->CkS->CkR (Nat×CkS)}
def aQl (ex:Nat->CkS->CkR (Nat×CkS)) (x ret:Nat) (l ts:List Nat) (r1:CkR CkS) (j:Nat):CkR CkS:=
 if j=0 then (r1.bind (bF ex l)).map (·.2) else ((r1.bind (bF ex l)).map (·.2)).bind λs=>if ((ts.headD 0:Nat):Int)==(ret:Int) then .good s else .bad 42 x
theorem aPb {ret:Nat}{l ts:List Nat}{b:Bool}{r1:CkR CkS} (hl:l.length<=1) (hr:(fs[k]?.map (·.ret)).getD 0=ret) (hb:b=decide (l.length=1↔ret≠0)) (h1:r1=if b=true then .good s else .bad 43 x) (hv:∀t' s',r1.bind (bF ex l) = .good (t',s')->ts=t'):
   vV fs k ex x ⟨17,line,0,[],l⟩ s=aQl ex x ret l ts r1 l.length:=by
 subst h1;unfold vV aQl;rw[hr];dsimp only;by_cases hc:l.length=1↔ret≠0
 . have:b=true:=by rw[hb];exact decide_eq_true hc
   subst this;rw[if_pos hc]
   match l,hl with
   | [],_=>simp[bF]
   | [a],_=>
    simp only[if_true,List.length_cons,List.length_nil,Nat.zero_add,Nat.one_ne_zero,if_false,CkR.aC] at hv ⊢
    show ((ex a s).bind λr=>if r.1=ret then CkR.good r.2 else .bad 42 x)=_
    have e1:bF ex [a] s=(ex a s).map λu=>([u.1],u.2):=args1 a s
    rw[e1] at hv ⊢;cases hq:ex a s with
    | bad e p=>rfl
    | good u=>
     rw[hq] at hv;have:=hv [u.1] u.2 rfl;subst this;simp only[CkR.bO,CkR.aC]
     show _=if (((u.1:Nat):Int)==(ret:Int))=true then CkR.good u.2 else .bad 42 x
     by_cases hu:u.1=ret
     . rw[if_pos hu,if_pos (by rw[hu];simp)]
     . rw[if_neg hu,if_neg (by simp;omega)]
 . have:b=false:=by rw[hb];exact decide_eq_false hc
   subst this;rw[if_neg hc];simp only[Bool.false_eq_true,if_false,CkR.wV,CkR.aPm];split<;>rfl
theorem aBx (hM:G.M=24){l:List Nat} (h1:l.length<=1){A:Option Addr} (h:Kq G w s zs k 0 0) (hx:x<=300) (ho:Own w 3 1 (.slice A l.length c) l.length (ints l)) (hlow:∀b,blk (.slice A l.length c)=some b->b<G.B) (hl:∀a∈l,iE 170 G zs k a (ex a)):
  Calls prog 172 #[(G.g,()),.agg #[(17:Int),line,U0,bs [],.slice A l.length c],x] w (aGd G zs k (vV G.fs k ex x ⟨17,line,0,[],l⟩ s) w):=by
 have FA:Hd (Fr nob w (w.alloc (.cells #[(17:Int),line,U0,bs [],.slice A l.length c] 50))):=(fR w).alloc _;have BA:=hD (Blk.new w 50 #[(17:Int),line,U0,bs [],.slice A l.length c]);have S1:Hd (Kq G _ s zs k 0 0):=h.no FA;have O1:=hD (ho.fr FA (λ_ _ x=>x));have HG:=hD h.geo;have HM:=hD hM;have HLO:=hD hlow;have HL:=hD hl;have GN:=hD (show w.heap.size≠G.g∧w.heap.size≠G.bt∧w.heap.size≠G.bs∧w.heap.size≠G.bf from by have:=h.geo.lg;have:=h.geo.lt;have:=h.geo.ls;have:=h.geo.lf;have:=h.zle;exact⟨by omega,by omega,by omega,by omega⟩);obtain⟨fk,hfk⟩:∃f,G.fs[k]?=some f:=⟨_,gE h.kk⟩;have hk3:(k:Int)<(G.fs.length:Int):=by have:=h.kk;omega
 have hk4:(G.fs.length:Int)<=6:=by have:=h.geo.fewf;omega
 obtain⟨n,hn⟩:∃n,l.length=n:=⟨_,rfl⟩;have hn3:(n:Int)<=1:=by omega
 have hn4:n<=1:=by omega
 rw[hn] at O1 BA FA S1 HLO ⊢;have HN:=hD hn;have HR:=hD (show (G.fs[k]?.map (·.ret)).getD 0=fk.ret from by rw[hfk];rfl);obtain⟨fb,fc,c3,hof,hfb,hpar,hsame,glt⟩:=(show KqM G _ (.good s) zs k from S1).fns;obtain⟨pv,hpv⟩:∃pv,G.pvs[k]?=some pv:=⟨_,gE (by have:=h.kk;omega)⟩;obtain⟨fb',e9,hcell⟩:=hof.some (by have:=h.kk;omega);injection e9 with e9;injection e9 with e9;subst e9;have y3:=hcell _ _ (dI hfk hpv 3 _ rfl);obtain⟨_,_,-,-,-,-,-,-,c8,-⟩:=S1.o.cells;have d4:=(BA.o.cell 4).trans rfl;clear h ho hlow hl hM hx hof hcell hfk hpv hn hpar hsame;generalize fk.ret=ret at *;go_enter func172,ntmps172;go_upto_region 1 with fail;generalize w.alloc (.cells #[(17:Int),line,U0,bs [],.slice A n c] 50)=w1 at *;generalize hT:w.heap.size=T at *;go_wp2_with fail
 go_quiet (fail)
 have f2:Fr nob w1 (w1.drewN nq).drew:=((fR w1).drewN nq).drew;have d4':(w1.drewN nq).cell? (T,4)=some (.slice A n c):=((BA.o.fr ((fR w1).drewN nq) (λx=>x)).cell 4).trans rfl;have S2:Hd (KqM G _ (.good s) zs k):=S1.o.no f2;have B2:=hD (BA.o.fr f2 (λx=>x));have O2:=hD (O1.o.fr f2 (λ_ _ x=>x));have F2:Hd (FrK G w _):=FrK.no (FA.o.tr f2);clear f2 S1 BA O1 FA c3 c8 y3 d4 glt;generalize w1.drewN nq=w2 at *;go_wp2_with fail
 go_still_tail 11,(by kernel_rfl)
 change wpList _ _ _ _ _ w2.drew;clear d4';generalize w2.drew=w3 at *;go_wp2_with fail
 refine (S2.o.ask _ 43 x (by decide) (by decide)).mono ?_;rintro en w4 ⟨rfl,h4,f4⟩;obtain⟨b,hb⟩:∃b,(decide (0<n)==((ret:Int) != 0))=b:=⟨_,rfl⟩;rw[hb] at h4;have HB:=hD (show b=decide (l.length=1↔ret≠0) from by
  rw[<-hb,HN.o,Bool.eq_iff_iff];by_cases h9:ret=0
  . subst h9;simp;omega
  . have:((ret:Int) != 0)=true:=by simp;omega
    rw[this];simp[h9];omega)
 obtain⟨r1,hr1⟩:∃r1,(if b=true then CkR.good s else .bad 43 x)=r1:=⟨_,rfl⟩;have HR1:=hD hr1;have S4:=hD (show KqM G w4 r1 zs k from by rw[<-hr1];exact h4);have F4:=hD (F2.o.trans (FrK.ofG f4));have B4:=hD (B2.o.fr f4 GN.o.1);have O4:=hD (O2.o.fr f4 (λb hb e=>by have:=HLO.o b hb;have:=HG.o.hg;have e:b=G.g:=e;omega));have HBE:=iB (kind:=17) (line:=line) (n:=0) (nm:=[]) (A:=A) (c:=c) (l:=l) HL S4 (by rw[HN.o];exact O4) (by rw[HN.o];exact HLO) (by rw[HN.o];omega);rw[HN.o] at HBE;have HBE:=hD HBE;have HV:=hD (show G.Z<=w4.heap.size from by obtain⟨s',e',p',h,-⟩:=S4.o.open_;exact h.zle);have d0:=(B4.o.cell 0).trans (show _=some (Value.int .i64 17) from rfl);have d1:=(B4.o.cell 1).trans (show _=some (Value.int .i64 line) from rfl);have d2:=(B4.o.cell 2).trans (show _=some (Value.int .i64 0) from rfl);have d3:=(B4.o.cell 3).trans (show _=some (Value.string (bs [])) from rfl);have d4:=(B4.o.cell 4).trans (show _=some (Value.slice A n c) from rfl);clear h4 f4 hb hr1 S2 F2 B2 O2 S4;go_wp2_with fail
 refine HBE.o.mono ?_;rintro en w5 ⟨A5,c5,ts,rfl,h5,f5⟩;have Q5:Hd (KqM G w5 (aQl ex x ret l ts r1 0) zs k):=h5.st;have O5:=hD h5.own;have VL:=hD h5.val;have NW:=hD (show ∀b,blk (.slice A5 n c5)=some b->b≠G.g from λb hb=>by have:=h5.new b hb;have:=HV.o;have:=HG.o.lg;omega);have F5:=hD (F4.o.trans f5);have LT:=hD (show ts.length=n from by have:=h5.own.len;simpa[ints] using this);clear h5 f5 HBE d0 d1 d2 d3 d4 F4 B4 O4;go_wp2
 go_loopw [38] (λi wr=>∃j:Nat,j<=n∧i = .int .i64 j∧Hd (KqM G wr (aQl ex x ret l ts r1 j) zs k)∧Hd (Own wr 3 1 (.slice A5 n c5) n (ints ts))∧Hd (FrK G w wr)) (λi _=>n - (intOf i).toNat)
 case atStart=>exact⟨0,aA4 _,rfl,Q5,O5,F5⟩
 case round=>
  clear Q5 O5 F5;obtain⟨j,hj,rfl,S,O,F⟩:=hrel;by_cases hlt:j<n
  . have hlt2:(j:Int)<(n:Int):=by omega
    have HJ0:=hD (show j=0 from by omega);obtain⟨t0,ht⟩:∃t0,ts[j]?=some t0:=⟨_,gE (by have:=LT.o;omega)⟩;obtain⟨tb,e9,htc⟩:=O.o.some (by omega);subst e9;have g0:=htc j t0 (by simp[ints,ht]);have HH:=hD (show ts.headD 0=t0 from by
     rw[HJ0.o] at ht;cases ts with
     | nil=>simp at ht
     | cons a l=>simp at ht;simp[ht])
    have HJ:=hD hlt;clear htc ht hlt;go_wp2_with fail
    refine dU (S.o.ask ((t0:Int)==(ret:Int)) 42 x (by decide) (by decide)) λw6 h6 f6=>?_;have S6:=hD (show KqM G w6 (aQl ex x ret l ts r1 (j+1)) zs k from by
     unfold aQl at h6 ⊢;rw[if_pos HJ0.o] at h6;rw[if_neg (by omega),HH.o];exact h6);have O6:=hD (O.o.fr f6 (λb hb e=>NW.o b hb e));have F6:=hD (F.o.trans (FrK.ofG f6));clear h6 f6 S O F g0;go_wp2
    go_roundw
    case rel=>exact⟨j+1,by have:=HJ.o;omega,by go_num,S6,O6,F6⟩
    case measure=>simp[intOf];have:=HJ.o;omega
  . have hjn:j=n:=by omega
    subst hjn;have hlt2:¬(j:Int)<(j:Int):=by omega
    clear hlt hj;go_wp2
    refine fK rfl rfl ⟨rfl,?_,F⟩;rw[aPb (b:=b) (by rw[HN.o];exact hn4) HR.o HB.o HR1.o.symm VL.o,HN.o];exact S.o.toN HM.o
end
section
variable {G:Geo}{w w':World}{s:CkS}{r:CkR CkS}{zs:List Nat}{k e p:Nat}{ex:Nat->CkS->CkR (Nat×CkS)}{bl:Nat->CkS->CkR CkS}
def aKt (G:Geo) (zs:List Nat) (k:Nat) (bl:Nat->CkS->CkR CkS) (x:Nat):Prop:=
 ∀(w:World) (s:CkS),Kq G w s zs k 0 0->Calls prog 98 #[(G.g,()),x] w (aGd G zs k (bl x s) w)
def uF (G:Geo) (zs:List Nat) (k:Nat) (st:Nat->CkS->CkR CkS) (x:Nat) (nd:aF):Prop:=
 ∀(w:World) (s:CkS) (A:Option Addr) (c:Nat),Kq G w s zs k 0 0->Own w 3 1 (.slice A nd.l.length c) nd.l.length (ints nd.l)->(∀b,blk (.slice A nd.l.length c)=some b->b<G.B) ->
 Calls prog 145 #[(G.g,()),.agg #[nd.kind,nd.line,nd.n,bs nd.name,.slice A nd.l.length c],x] w (aGd G zs k (st x s) w)
theorem cell_of {e j:Nat}{xs:List Value}{u:Value} (h:Own w e 1 (b,n,c) n xs) (hn:0<n) (hj:xs[j]?=some u):w.cell? (b,j)=some u:=by
 obtain⟨b',e1,hc⟩:=h.some hn;injection e1 with e1;injection e1 with e1;subst e1;exact hc j u hj
theorem aOu {q1:CkR (Nat×CkS)}{f:CkS->CkR (Nat×CkS)}{P:Nat->Nat->Prop} [∀a b,Decidable (P a b)] {u:Nat}{b:Bool} (h1:∀t' s',q1 = .good (t',s')->t=t') (h2:∀t' s',(q1.map (·.2)).bind f = .good (t',s')->u=t') (hb:b=decide (P t u)):
  ((((q1.map (·.2)).bind f).map (·.2)).bind λs=>if b=true then .good s else .bad 42 x)=q1.bind λt=>(f t.2).bind λr=>if P t.1 r.1 then .good r.2 else .bad 42 x:=by
 cases q1 with
 | bad e p=>rfl
 | good v=>
  have:=h1 v.1 v.2 rfl;subst this;simp only[CkR.bO,CkR.aC] at h2 ⊢;cases hq:f v.2 with
  | bad e p=>rfl
  | good r=>
    rw[hq] at h2;have:=h2 r.1 r.2 rfl;subst this;simp only[CkR.bO,CkR.aC,hb,decide_eq_true_eq]
theorem aAm {q:CkR (Nat×CkS)}{P:Nat->Prop} [∀a,Decidable (P a)] {u:Nat}{b:Bool} (h2:∀t' s',q = .good (t',s')->u=t') (hb:b=decide (P u)):
  ((q.map (·.2)).bind λs=>if b=true then .good s else .bad 42 x)=q.bind λr=>if P r.1 then .good r.2 else .bad 42 x:=by
 cases q with
 | bad e p=>rfl
 | good r=>
  have:=h2 r.1 r.2 rfl;subst this;simp only[CkR.bO,CkR.aC,hb,decide_eq_true_eq]
theorem aLz (hM:G.M=24) (hx:G.ns[x]?=some ⟨10,line,0,nm,[a]⟩) (ha:iE 170 G zs k a (ex a)):uF G zs k (λx s=>fI G.fs k ex bl x ⟨10,line,0,nm,[a]⟩ s) x ⟨10,line,0,nm,[a]⟩:=λw s A c h ho hlow=>by
 have ho:Own w 3 1 (.slice A 1 c) 1 (ints [a]):=ho;have HG:=hD h.geo;have HM:=hD hM;have HLO:Hd (∀b,blk (.slice A 1 c)=some b->b<G.B):=hlow;have hxl:=(gK hx);have HXL:=hD hxl;have hx3:(x:Int)<(G.ns.length:Int):=by omega
 have hx4:(G.ns.length:Int)<=300:=by have:=h.geo.few;omega
 have FA:Hd (Fr nob w (w.alloc (.cells #[(10:Int),line,U0,bs nm,.slice A 1 c] 50))):=(fR w).alloc _;have B1:=hD (Blk.new w 50 #[(10:Int),line,U0,bs nm,.slice A 1 c]);have S1:Hd (Kq G _ s zs k 0 0):=h.no FA;have O1:=hD (ho.fr FA (λ_ _ x=>x));have GN:=hD (show w.heap.size≠G.g∧w.heap.size≠G.bt∧w.heap.size≠G.bs∧w.heap.size≠G.bf from by have:=h.geo.lg;have:=h.geo.lt;have:=h.geo.ls;have:=h.geo.lf;have:=h.zle;exact⟨by omega,by omega,by omega,by omega⟩);have HA:=hD ha;clear ha h ho hlow hM hx hxl;dsimp only[List.length_cons,List.length_nil];go_enter func145,ntmps145;go_upto_region 1 with fail;generalize w.alloc (.cells #[(10:Int),line,U0,bs nm,.slice A 1 c] 50)=w0 at *;generalize hT:w.heap.size=T at *;obtain⟨_,_,-,-,-,-,c6,-,c8,-⟩:=S1.o.cells;go_wp2_with fail
 go_still_tail 11,(by kernel_rfl)
 change wpList _ _ _ _ _ w0.drew;clear c6 c8;have SD:=hD (S1.o.no (fR w0).drew);have BD:=hD (B1.o.fr (fR w0).drew (λx=>x));have OD:=hD (O1.o.fr (fR w0).drew (λ_ _ x=>x));have FD:Hd (FrK G w w0.drew):=FrK.no (FA.o.tr (fR w0).drew);clear S1 B1 O1 FA;generalize w0.drew=w1 at *;obtain⟨⟨u2,bf⟩,zf⟩:=SD.o.fn.gY (j:=x) (by omega);have S2:Hd (Kq G _ (bK k x s) zs k 0 0):=(SD.o.kI x k).1;have F2:=hD (FD.o.trans (SD.o.kI x k).2);have B2:=hD (BD.o.far (p:=(G.bf,x)) (λe=>GN.o.2.2.2 e) k);have O2:=hD (OD.o.far (p:=(G.bf,x)) (λe=>by have h9:G.bf<G.B:=HLO.o _ e;have:=HG.o.hf;omega) k);go_upto_region 2 with fail;clear bf zf SD BD OD FD;generalize w1.setCell (G.bf,x) k=w2 at *;have d0:=(B2.o.cell 0).trans rfl;have d1:=(B2.o.cell 1).trans rfl;have d2:=(B2.o.cell 2).trans rfl;have d3:=(B2.o.cell 3).trans rfl;have d4:=(B2.o.cell 4).trans rfl;go_wp2_with fail
 refine dU (aMb HM S2 HXL O2 HA) λw3 S3 f3=>?_;have F3:=hD (F2.o.trans f3);clear f3 S2 F2 B2 O2 d0 d1 d2 d3 d4;go_wp2
 exact fK rfl rfl ⟨rfl,S3,F3⟩
theorem aPc (hM:G.M=24) (hx:G.ns[x]?=some ⟨13,line,0,[],[a]⟩) (ha:iE 170 G zs k a (ex a)):uF G zs k (λx s=>fI G.fs k ex bl x ⟨13,line,0,[],[a]⟩ s) x ⟨13,line,0,[],[a]⟩:=λw s A c h ho hlow=>by
 have ho:Own w 3 1 (.slice A 1 c) 1 (ints [a]):=ho;have HG:=hD h.geo;have HM:=hD hM;have HLO:Hd (∀b,blk (.slice A 1 c)=some b->b<G.B):=hlow;have hxl:=(gK hx);have hx3:(x:Int)<(G.ns.length:Int):=by omega
 have hx4:(G.ns.length:Int)<=300:=by have:=h.geo.few;omega
 have FA:Hd (Fr nob w (w.alloc (.cells #[(13:Int),line,U0,bs [],.slice A 1 c] 50))):=(fR w).alloc _;have B1:=hD (Blk.new w 50 #[(13:Int),line,U0,bs [],.slice A 1 c]);have S1:Hd (Kq G _ s zs k 0 0):=h.no FA;have O1:=hD (ho.fr FA (λ_ _ x=>x));have GN:=hD (show w.heap.size≠G.g∧w.heap.size≠G.bt∧w.heap.size≠G.bs∧w.heap.size≠G.bf from by have:=h.geo.lg;have:=h.geo.lt;have:=h.geo.ls;have:=h.geo.lf;have:=h.zle;exact⟨by omega,by omega,by omega,by omega⟩);have HA:=hD (show ∀i∈[a],iE 170 G zs k i (ex i) from λi hi=>by rw[List.mem_singleton.1 hi];exact ha);clear ha h ho hlow hM hx hxl;dsimp only[List.length_cons,List.length_nil];go_enter func145,ntmps145;go_upto_region 1 with fail;generalize w.alloc (.cells #[(13:Int),line,U0,bs [],.slice A 1 c] 50)=w0 at *;generalize hT:w.heap.size=T at *;obtain⟨_,_,-,-,-,-,c6,-,c8,-⟩:=S1.o.cells;go_wp2_with fail
 go_still_tail 11,(by kernel_rfl)
 change wpList _ _ _ _ _ w0.drew;clear c6 c8;have SD:=hD (S1.o.no (fR w0).drew);have BD:=hD (B1.o.fr (fR w0).drew (λx=>x));have OD:=hD (O1.o.fr (fR w0).drew (λ_ _ x=>x));have FD:Hd (FrK G w w0.drew):=FrK.no (FA.o.tr (fR w0).drew);clear S1 B1 O1 FA;generalize w0.drew=w1 at *;obtain⟨⟨u2,bf⟩,zf⟩:=SD.o.fn.gY (j:=x) (by omega);have S2:Hd (Kq G _ (bK k x s) zs k 0 0):=(SD.o.kI x k).1;have F2:=hD (FD.o.trans (SD.o.kI x k).2);have B2:=hD (BD.o.far (p:=(G.bf,x)) (λe=>GN.o.2.2.2 e) k);have O2:=hD (OD.o.far (p:=(G.bf,x)) (λe=>by have h9:G.bf<G.B:=HLO.o _ e;have:=HG.o.hf;omega) k);go_upto_region 2 with fail;clear bf zf SD BD OD FD;generalize w1.setCell (G.bf,x) k=w2 at *;have d0:=(B2.o.cell 0).trans rfl;have d1:=(B2.o.cell 1).trans rfl;have d2:=(B2.o.cell 2).trans rfl;have d3:=(B2.o.cell 3).trans rfl;have d4:=(B2.o.cell 4).trans rfl;go_wp2_with fail
 refine (iB (kind:=13) (line:=line) (n:=0) (nm:=[]) HA (show KqM G w2 (.good (bK k x s)) zs k from S2) O2 HLO (by simp)).mono ?_;rintro en w3 ⟨A3,c3,ts,rfl,h3,f3⟩;have S3:=hD h3.st;have F3:=hD (F2.o.trans f3);clear h3 f3 S2 F2 B2 O2 d0 d1 d2 d3 d4;have E:=hD (show fI G.fs k ex bl x ⟨13,line,0,[],[a]⟩ s=((CkR.good (bK k x s)).bind (bF ex [a])).map (·.2) from by
  show (ex a (bK k x s)).map (·.2)=(bF ex [a] (bK k x s)).map (·.2)
  rw[args1,CkR.map_map])
 go_wp2
 exact fK rfl rfl ⟨rfl,(by rw[E.o];exact S3.o.toN HM),F3⟩
theorem aHr (hM:G.M=24) (hx:G.ns[x]?=some ⟨17,line,0,[],[]⟩) (ha:∀i∈([]:List Nat),iE 170 G zs k i (ex i)):uF G zs k (λx s=>fI G.fs k ex bl x ⟨17,line,0,[],[]⟩ s) x ⟨17,line,0,[],[]⟩:=λw s A c h ho hlow=>by
 have ho:Own w 3 1 (.slice A 0 c) 0 (ints []):=ho;have HG:=hD h.geo;have HM:=hD hM;have HLO:Hd (∀b,blk (.slice A 0 c)=some b->b<G.B):=hlow;have hxl:=(gK hx);have hx3:(x:Int)<(G.ns.length:Int):=by omega
 have hx4:(G.ns.length:Int)<=300:=by have:=h.geo.few;omega
 have HX3:=hD (show x<=300 from by omega);have FA:Hd (Fr nob w (w.alloc (.cells #[(17:Int),line,U0,bs [],.slice A 0 c] 50))):=(fR w).alloc _;have B1:=hD (Blk.new w 50 #[(17:Int),line,U0,bs [],.slice A 0 c]);have S1:Hd (Kq G _ s zs k 0 0):=h.no FA;have O1:=hD (ho.fr FA (λ_ _ x=>x));have GN:=hD (show w.heap.size≠G.g∧w.heap.size≠G.bt∧w.heap.size≠G.bs∧w.heap.size≠G.bf from by have:=h.geo.lg;have:=h.geo.lt;have:=h.geo.ls;have:=h.geo.lf;have:=h.zle;exact⟨by omega,by omega,by omega,by omega⟩);have HA:=hD ha;clear ha h ho hlow hM hx hxl;dsimp only[List.length_cons,List.length_nil];go_enter func145,ntmps145;go_upto_region 1 with fail;generalize w.alloc (.cells #[(17:Int),line,U0,bs [],.slice A 0 c] 50)=w0 at *;generalize hT:w.heap.size=T at *;obtain⟨_,_,-,-,-,-,c6,-,c8,-⟩:=S1.o.cells;go_wp2_with fail
 go_still_tail 11,(by kernel_rfl)
 change wpList _ _ _ _ _ w0.drew;clear c6 c8;have SD:=hD (S1.o.no (fR w0).drew);have BD:=hD (B1.o.fr (fR w0).drew (λx=>x));have OD:=hD (O1.o.fr (fR w0).drew (λ_ _ x=>x));have FD:Hd (FrK G w w0.drew):=FrK.no (FA.o.tr (fR w0).drew);clear S1 B1 O1 FA;generalize w0.drew=w1 at *;obtain⟨⟨u2,bf⟩,zf⟩:=SD.o.fn.gY (j:=x) (by omega);have S2:Hd (Kq G _ (bK k x s) zs k 0 0):=(SD.o.kI x k).1;have F2:=hD (FD.o.trans (SD.o.kI x k).2);have B2:=hD (BD.o.far (p:=(G.bf,x)) (λe=>GN.o.2.2.2 e) k);have O2:=hD (OD.o.far (p:=(G.bf,x)) (λe=>by have h9:G.bf<G.B:=HLO.o _ e;have:=HG.o.hf;omega) k);go_upto_region 2 with fail;clear bf zf SD BD OD FD;generalize w1.setCell (G.bf,x) k=w2 at *;have d0:=(B2.o.cell 0).trans rfl;have d1:=(B2.o.cell 1).trans rfl;have d2:=(B2.o.cell 2).trans rfl;have d3:=(B2.o.cell 3).trans rfl;have d4:=(B2.o.cell 4).trans rfl;go_wp2_with fail
 refine dU (aBx HM (x:=x) (line:=line) (l:=[]) (by simp) S2 HX3 O2 HLO HA) λw3 S3 f3=>?_;have F3:=hD (F2.o.trans f3);clear f3 S2 F2 B2 O2 d0 d1 d2 d3 d4;go_wp2
 exact fK rfl rfl ⟨rfl,S3,F3⟩
theorem aHq (hM:G.M=24) (hx:G.ns[x]?=some ⟨17,line,0,[],[a]⟩) (ha:∀i∈[a],iE 170 G zs k i (ex i)):uF G zs k (λx s=>fI G.fs k ex bl x ⟨17,line,0,[],[a]⟩ s) x ⟨17,line,0,[],[a]⟩:=λw s A c h ho hlow=>by
 have ho:Own w 3 1 (.slice A 1 c) 1 (ints [a]):=ho;have HG:=hD h.geo;have HM:=hD hM;have HLO:Hd (∀b,blk (.slice A 1 c)=some b->b<G.B):=hlow;have hxl:=(gK hx);have hx3:(x:Int)<(G.ns.length:Int):=by omega
 have hx4:(G.ns.length:Int)<=300:=by have:=h.geo.few;omega
 have HX3:=hD (show x<=300 from by omega);have FA:Hd (Fr nob w (w.alloc (.cells #[(17:Int),line,U0,bs [],.slice A 1 c] 50))):=(fR w).alloc _;have B1:=hD (Blk.new w 50 #[(17:Int),line,U0,bs [],.slice A 1 c]);have S1:Hd (Kq G _ s zs k 0 0):=h.no FA;have O1:=hD (ho.fr FA (λ_ _ x=>x));have GN:=hD (show w.heap.size≠G.g∧w.heap.size≠G.bt∧w.heap.size≠G.bs∧w.heap.size≠G.bf from by have:=h.geo.lg;have:=h.geo.lt;have:=h.geo.ls;have:=h.geo.lf;have:=h.zle;exact⟨by omega,by omega,by omega,by omega⟩);have HA:=hD ha;clear ha h ho hlow hM hx hxl;dsimp only[List.length_cons,List.length_nil];go_enter func145,ntmps145;go_upto_region 1 with fail;generalize w.alloc (.cells #[(17:Int),line,U0,bs [],.slice A 1 c] 50)=w0 at *;generalize hT:w.heap.size=T at *;obtain⟨_,_,-,-,-,-,c6,-,c8,-⟩:=S1.o.cells;go_wp2_with fail
 go_still_tail 11,(by kernel_rfl)
 change wpList _ _ _ _ _ w0.drew;clear c6 c8;have SD:=hD (S1.o.no (fR w0).drew);have BD:=hD (B1.o.fr (fR w0).drew (λx=>x));have OD:=hD (O1.o.fr (fR w0).drew (λ_ _ x=>x));have FD:Hd (FrK G w w0.drew):=FrK.no (FA.o.tr (fR w0).drew);clear S1 B1 O1 FA;generalize w0.drew=w1 at *;obtain⟨⟨u2,bf⟩,zf⟩:=SD.o.fn.gY (j:=x) (by omega);have S2:Hd (Kq G _ (bK k x s) zs k 0 0):=(SD.o.kI x k).1;have F2:=hD (FD.o.trans (SD.o.kI x k).2);have B2:=hD (BD.o.far (p:=(G.bf,x)) (λe=>GN.o.2.2.2 e) k);have O2:=hD (OD.o.far (p:=(G.bf,x)) (λe=>by have h9:G.bf<G.B:=HLO.o _ e;have:=HG.o.hf;omega) k);go_upto_region 2 with fail;clear bf zf SD BD OD FD;generalize w1.setCell (G.bf,x) k=w2 at *;have d0:=(B2.o.cell 0).trans rfl;have d1:=(B2.o.cell 1).trans rfl;have d2:=(B2.o.cell 2).trans rfl;have d3:=(B2.o.cell 3).trans rfl;have d4:=(B2.o.cell 4).trans rfl;go_wp2_with fail
 refine dU (aBx HM (x:=x) (line:=line) (l:=[a]) (by simp) S2 HX3 O2 HLO HA) λw3 S3 f3=>?_;have F3:=hD (F2.o.trans f3);clear f3 S2 F2 B2 O2 d0 d1 d2 d3 d4;go_wp2
 exact fK rfl rfl ⟨rfl,S3,F3⟩
theorem aDy (hM:G.M=24) (hx:G.ns[x]?=some ⟨14,line,0,[],[a]⟩) (ha:iE 170 G zs k a (ex a)):uF G zs k (λx s=>fI G.fs k ex bl x ⟨14,line,0,[],[a]⟩ s) x ⟨14,line,0,[],[a]⟩:=λw s A c h ho hlow=>by
 have ho:Own w 3 1 (.slice A 1 c) 1 (ints [a]):=ho;have HG:=hD h.geo;have HM:=hD hM;have HLO:Hd (∀b,blk (.slice A 1 c)=some b->b<G.B):=hlow;have hxl:=(gK hx);have hx3:(x:Int)<(G.ns.length:Int):=by omega
 have hx4:(G.ns.length:Int)<=300:=by have:=h.geo.few;omega
 have FA:Hd (Fr nob w (w.alloc (.cells #[.int .i64 14,.int .i64 line,.int .i64 0,.string (bs []),.slice A 1 c] 50))):=(fR w).alloc _;have B1:=hD (Blk.new w 50 #[.int .i64 14,.int .i64 line,.int .i64 0,.string (bs []),.slice A 1 c]);have S1:Hd (Kq G _ s zs k 0 0):=h.no FA;have O1:=hD (ho.fr FA (λ_ _ x=>x));have GN:=hD (show w.heap.size≠G.g∧w.heap.size≠G.bt∧w.heap.size≠G.bs∧w.heap.size≠G.bf from by have:=h.geo.lg;have:=h.geo.lt;have:=h.geo.ls;have:=h.geo.lf;have:=h.zle;exact⟨by omega,by omega,by omega,by omega⟩);have HA:=hD ha;clear ha h ho hlow hM hx hxl;dsimp only[List.length_cons,List.length_nil];go_enter func145,ntmps145;go_upto_region 1 with fail;generalize w.alloc (.cells #[.int .i64 14,.int .i64 line,.int .i64 0,.string (bs []),.slice A 1 c] 50)=w0 at *;generalize hT:w.heap.size=T at *;obtain⟨_,_,-,-,-,-,c6,-,c8,-⟩:=S1.o.cells;go_wp2_with fail
 go_still_tail 11,(by kernel_rfl)
 change wpList _ _ _ _ _ w0.drew;clear c6 c8;have SD:=hD (S1.o.no (fR w0).drew);have BD:=hD (B1.o.fr (fR w0).drew (λx=>x));have OD:=hD (O1.o.fr (fR w0).drew (λ_ _ x=>x));have FD:Hd (FrK G w w0.drew):=FrK.no (FA.o.tr (fR w0).drew);clear S1 B1 O1 FA;generalize w0.drew=w1 at *;obtain⟨⟨u2,bf⟩,zf⟩:=SD.o.fn.gY (j:=x) (by omega);have S2:Hd (Kq G _ (bK k x s) zs k 0 0):=(SD.o.kI x k).1;have F2:=hD (FD.o.trans (SD.o.kI x k).2);have B2:=hD (BD.o.far (p:=⟨G.bf,x,none⟩) (λe=>GN.o.2.2.2 e) (.int .i64 (k:Nat)));have O2:=hD (OD.o.far (p:=⟨G.bf,x,none⟩) (λe=>by have h9:G.bf<G.B:=HLO.o _ e;have:=HG.o.hf;omega) (.int .i64 (k:Nat)));go_upto_region 2 with fail;clear bf zf SD BD OD FD;generalize w1.setCell ⟨G.bf,x,none⟩ (.int .i64 (k:Nat))=w2 at *;have d0:=(B2.o.cell 0).trans rfl;have d4:=(B2.o.cell 4).trans rfl;obtain⟨kb,e9,kc⟩:=O2.o.some (by simp);subst e9;have k0:=kc 0 (.int .i64 (a:Nat)) rfl;have hc1:1<=c:=by have:=O2.o.oH.1;omega
 have KB:=hD (show kb≠G.g∧kb≠G.bt∧kb≠G.bs∧kb≠G.bf from by have:=HLO.o kb (aQ (by omega) (by omega));have:=HG.o.hg;have:=HG.o.ht;have:=HG.o.hs;have:=HG.o.hf;exact⟨by omega,by omega,by omega,by omega⟩);clear kc;have K2:=hD (And.intro d4 k0);have M2:Hd (KqM G w2 (.good (bK k x s)) zs k):=S2;go_wp2_with fail
 go_region_held3 (λwx=>wx.cell? ⟨T,4,none⟩=some (.slice (some ⟨kb,0,none⟩) 1 c)∧wx.cell? ⟨kb,0,none⟩=some (.int .i64 (a:Nat))) (first|exact K2.o|exact K3.o|exact K4) (first
  | (go_at_call 170;go_loud (refine (HA _ _ (M2.o.no ((fR w2).drew))).mono ?_);go_loud (rintro en w3 ⟨u,rfl,h3,f3⟩);go_loud (have S3:=hD h3);go_loud (have F3:=hD ((FrK.no ((fR w2).drew)).trans f3));go_loud (have B3:=hD (f3.far (B2.o.fr (fR w2).drew (λx=>x)) GN.o.1 GN.o.2.1 GN.o.2.2.1 GN.o.2.2.2 (by decide)));go_loud (have O3:=hD (f3.own (O2.o.fr (fR w2).drew (λ_ _ x=>x)) (by decide) (λb hb=>by rw[aQ (by decide) hc1] at hb;injection hb with hb;subst hb;exact KB)));go_loud (have K3:=hD (And.intro ((B3.o.cell 4).trans (show _=some (.slice (some ⟨kb,0,none⟩) 1 c) from rfl)) (cell_of (j:=0) (u:= .int .i64 (a:Nat)) O3 (by decide) rfl)));go_loud (clear h3 f3))
  | (go_at_call 95;go_loud (refine (S3.o.st.ask _ 42 x (by decide) (by decide)).mono ?_);go_loud (rintro en w4 ⟨rfl,h4,f4⟩);go_loud (have S4:=hD h4);go_loud (have F4:=hD (F3.o.trans (FrK.ofG f4)));go_loud (have B4:=hD (B3.o.fr f4 GN.o.1));go_loud (have O4:=hD (O3.o.fr f4 (λb hb e=>by rw[aQ (by decide) hc1] at hb;injection hb with hb;subst hb;exact KB.o.1 e)));go_loud (have K4:=hD (And.intro ((B4.o.cell 4).trans (show _=some (.slice (some ⟨kb,0,none⟩) 1 c) from rfl)) (cell_of (j:=0) (u:= .int .i64 (a:Nat)) O4 (by decide) rfl)));go_loud (clear h4 f4)))
 all_goals
  have FIN:=hD (show KqM G w4 (fI G.fs k ex bl x ⟨14,line,0,[],[a]⟩ s) zs k from by
    show KqM G w4 (((CkR.good (bK k x s)).bind (ex a)).bind λr=>if r.1≠4 then .good r.2 else .bad 42 x) zs k
    rw[<-aAm (P:=λa=>a≠4) (b:=((u:Int) != 4)) S3.o.val (by rw[Bool.eq_iff_iff];simp;omega)];exact S4)
  have FF:=hD (F2.o.trans F4);go_wp2
  exact fK rfl rfl ⟨rfl,by first|exact FIN.o.toN HM.o|exact (FIN.o.toN HM).no ((fR _).drew),by first|exact FF.o|exact FF.o.trans (FrK.no ((fR _).drew))⟩
theorem aLx (hM:G.M=24) (hx:G.ns[x]?=some ⟨11,line,0,nm,[a]⟩) (ha:iE 170 G zs k a (ex a)):uF G zs k (λx s=>fI G.fs k ex bl x ⟨11,line,0,nm,[a]⟩ s) x ⟨11,line,0,nm,[a]⟩:=λw s A c h ho hlow=>by
 have ho:Own w 3 1 (.slice A 1 c) 1 (ints [a]):=ho;have HG:=hD h.geo;have HM:=hD hM;have HX:=hD hx;have HLO:Hd (∀b,blk (.slice A 1 c)=some b->b<G.B):=hlow;have hxl:=(gK hx);have hx3:(x:Int)<(G.ns.length:Int):=by omega
 have hx4:(G.ns.length:Int)<=300:=by have:=h.geo.few;omega
 have FA:Hd (Fr nob w (w.alloc (.cells #[.int .i64 11,.int .i64 line,.int .i64 0,.string (bs nm),.slice A 1 c] 50))):=(fR w).alloc _;have B1:=hD (Blk.new w 50 #[.int .i64 11,.int .i64 line,.int .i64 0,.string (bs nm),.slice A 1 c]);have S1:Hd (Kq G _ s zs k 0 0):=h.no FA;have O1:=hD (ho.fr FA (λ_ _ x=>x));have GN:=hD (show w.heap.size≠G.g∧w.heap.size≠G.bt∧w.heap.size≠G.bs∧w.heap.size≠G.bf from by have:=h.geo.lg;have:=h.geo.lt;have:=h.geo.ls;have:=h.geo.lf;have:=h.zle;exact⟨by omega,by omega,by omega,by omega⟩);have HA:=hD ha;clear ha h ho hlow hM hx hxl;dsimp only[List.length_cons,List.length_nil];go_enter func145,ntmps145;go_upto_region 1 with fail;generalize w.alloc (.cells #[.int .i64 11,.int .i64 line,.int .i64 0,.string (bs nm),.slice A 1 c] 50)=w0 at *;generalize hT:w.heap.size=T at *;obtain⟨_,_,-,-,-,-,c6,-,c8,-⟩:=S1.o.cells;go_wp2_with fail
 go_still_tail 11,(by kernel_rfl)
 change wpList _ _ _ _ _ w0.drew;clear c6 c8;have SD:=hD (S1.o.no (fR w0).drew);have BD:=hD (B1.o.fr (fR w0).drew (λx=>x));have OD:=hD (O1.o.fr (fR w0).drew (λ_ _ x=>x));have FD:Hd (FrK G w w0.drew):=FrK.no (FA.o.tr (fR w0).drew);clear S1 B1 O1 FA;generalize w0.drew=w1 at *;obtain⟨⟨u2,bf⟩,zf⟩:=SD.o.fn.gY (j:=x) (by omega);have S2:Hd (Kq G _ (bK k x s) zs k 0 0):=(SD.o.kI x k).1;have F2:=hD (FD.o.trans (SD.o.kI x k).2);have B2:=hD (BD.o.far (p:=⟨G.bf,x,none⟩) (λe=>GN.o.2.2.2 e) (.int .i64 (k:Nat)));have O2:=hD (OD.o.far (p:=⟨G.bf,x,none⟩) (λe=>by have h9:G.bf<G.B:=HLO.o _ e;have:=HG.o.hf;omega) (.int .i64 (k:Nat)));go_upto_region 2 with fail;clear bf zf SD BD OD FD;generalize w1.setCell ⟨G.bf,x,none⟩ (.int .i64 (k:Nat))=w2 at *;have d0:=(B2.o.cell 0).trans rfl;go_wp2_with fail
 refine (KqM.named (zs:=zs) (k:=k) HX _ _ (show KqM G w2 (.good (bK k x s)) zs k from S2)).mono ?_;rintro en w2 ⟨t,rfl,h3,f3⟩;have N2:=hD h3;have F9:=hD (F2.o.trans f3);have B9:=hD (f3.far B2 GN.o.1 GN.o.2.1 GN.o.2.2.1 GN.o.2.2.2 (by decide));have O9:=hD (f3.own O2 (by decide) (λb hb=>by have:=HLO.o b hb;have:=HG.o.hg;have:=HG.o.ht;have:=HG.o.hs;have:=HG.o.hf;exact⟨by omega,by omega,by omega,by omega⟩));clear h3 f3 S2 F2 B2 O2 d0;have d4:=(B9.o.cell 4).trans rfl;obtain⟨kb,e9,kc⟩:=O9.o.some (by simp);subst e9;have k0:=kc 0 (.int .i64 (a:Nat)) rfl;have hc1:1<=c:=by have:=O9.o.oH.1;omega
 have KB:=hD (show kb≠G.g∧kb≠G.bt∧kb≠G.bs∧kb≠G.bf from by have:=HLO.o kb (aQ (by omega) (by omega));have:=HG.o.hg;have:=HG.o.ht;have:=HG.o.hs;have:=HG.o.hf;exact⟨by omega,by omega,by omega,by omega⟩);clear kc;have K2:=hD (And.intro d4 k0);have M2:=hD N2.o.st;go_wp2_with fail
 go_region_held3 (λwx=>wx.cell? ⟨T,4,none⟩=some (.slice (some ⟨kb,0,none⟩) 1 c)∧wx.cell? ⟨kb,0,none⟩=some (.int .i64 (a:Nat))) (first|exact K2.o|exact K3.o|exact K4) (first
  | (go_at_call 170;go_loud (refine (HA _ _ (M2.o.no ((fR w2).drew))).mono ?_);go_loud (rintro en w3 ⟨u,rfl,h3,f3⟩);go_loud (have S3:=hD h3);go_loud (have F3:=hD ((FrK.no ((fR w2).drew)).trans f3));go_loud (have B3:=hD (f3.far (B9.o.fr (fR w2).drew (λx=>x)) GN.o.1 GN.o.2.1 GN.o.2.2.1 GN.o.2.2.2 (by decide)));go_loud (have O3:=hD (f3.own (O9.o.fr (fR w2).drew (λ_ _ x=>x)) (by decide) (λb hb=>by rw[aQ (by decide) hc1] at hb;injection hb with hb;subst hb;exact KB)));go_loud (have K3:=hD (And.intro ((B3.o.cell 4).trans (show _=some (.slice (some ⟨kb,0,none⟩) 1 c) from rfl)) (cell_of (j:=0) (u:= .int .i64 (a:Nat)) O3 (by decide) rfl)));go_loud (clear h3 f3))
  | (go_at_call 95;go_loud (refine (S3.o.st.ask _ 42 x (by decide) (by decide)).mono ?_);go_loud (rintro en w4 ⟨rfl,h4,f4⟩);go_loud (have S4:=hD h4);go_loud (have F4:=hD (F3.o.trans (FrK.ofG f4)));go_loud (have B4:=hD (B3.o.fr f4 GN.o.1));go_loud (have O4:=hD (O3.o.fr f4 (λb hb e=>by rw[aQ (by decide) hc1] at hb;injection hb with hb;subst hb;exact KB.o.1 e)));go_loud (have K4:=hD (And.intro ((B4.o.cell 4).trans (show _=some (.slice (some ⟨kb,0,none⟩) 1 c) from rfl)) (cell_of (j:=0) (u:= .int .i64 (a:Nat)) O4 (by decide) rfl)));go_loud (clear h4 f4)))
 all_goals
  have FIN:=hD (show KqM G w4 (fI G.fs k ex bl x ⟨11,line,0,nm,[a]⟩ s) zs k from by
    show KqM G w4 (((CkR.good (bK k x s)).bind (aU x nm)).bind λt=>(ex a t.2).bind λr=>if t.1=r.1 then .good r.2 else .bad 42 x) zs k
    rw[<-aOu (f:=ex a) (P:=λa b=>a=b) (b:=((u:Int)==(t:Int))) N2.o.val S3.o.val (by rw[Bool.eq_iff_iff];simp;omega)];exact S4)
  have FF:=hD (F9.o.trans F4);go_wp2
  exact fK rfl rfl ⟨rfl,by first|exact FIN.o.toN HM.o|exact (FIN.o.toN HM).no ((fR _).drew),by first|exact FF.o|exact FF.o.trans (FrK.no ((fR _).drew))⟩
end
section
variable {G:Geo}{w w':World}{s:CkS}{r:CkR CkS}{zs:List Nat}{k e p:Nat}{ex:Nat->CkS->CkR (Nat×CkS)}{bl:Nat->CkS->CkR CkS}
theorem aIf {t0 t1:Nat}{B:Bool} (h1:∀t' s',(CkR.good (bK k x s)).bind (aU x nm) = .good (t',s')->t=t') (h2:∀t' s',((((CkR.good (bK k x s)).bind (aU x nm)).map (·.2)).bind (bF ex [a,b])) = .good (t',s')->[t0,t1]=t') (hb:B=decide (t=4∧t0=1∧t1=1)):
  fI fs k ex bl x ⟨12,line,0,nm,[a,b]⟩ s=(((((CkR.good (bK k x s)).bind (aU x nm)).map (·.2)).bind (bF ex [a,b])).map (·.2)).bind λs=>if B=true then .good s else .bad 42 x:=by
 show ((aU x nm (bK k x s)).bind λt=>(ex a t.2).bind λr=>(ex b r.2).bind λq=>if t.1=4∧r.1=1∧q.1=1 then .good q.2 else .bad 42 x)=_
 simp only[CkR.aC] at h1 h2 ⊢;cases hq:aU x nm (bK k x s) with
 | bad e p=>rfl
 | good v=>
  rw[hq] at h1 h2;have:=h1 v.1 v.2 rfl;subst this;simp only[CkR.bO,CkR.aC] at h2 ⊢;rw[args2] at h2 ⊢;cases ha:ex a v.2 with
  | bad e p=>rfl
  | good u=>
   rw[ha] at h2;simp only[CkR.aC] at h2 ⊢;cases hbb:ex b u.2 with
   | bad e p=>rfl
   | good y=>
    rw[hbb] at h2;have h3:=h2 [u.1,y.1] y.2 rfl;injection h3 with h3 h4;injection h4 with h4 _;subst h3;subst h4;simp only[CkR.bO,CkR.aC,hb,decide_eq_true_eq]
theorem aLy (hM:G.M=24) (hx:G.ns[x]?=some ⟨12,line,0,nm,[a,b]⟩) (ha:∀i∈[a,b],iE 170 G zs k i (ex i)):uF G zs k (λx s=>fI G.fs k ex bl x ⟨12,line,0,nm,[a,b]⟩ s) x ⟨12,line,0,nm,[a,b]⟩:=λw s A c h ho hlow=>by
 have ho:Own w 3 1 (.slice A 2 c) 2 (ints [a,b]):=ho;have HG:=hD h.geo;have HM:=hD hM;have HX:=hD hx;have HLO:Hd (∀b,blk (.slice A 2 c)=some b->b<G.B):=hlow;have hxl:=(gK hx);have hx3:(x:Int)<(G.ns.length:Int):=by omega
 have hx4:(G.ns.length:Int)<=300:=by have:=h.geo.few;omega
 have FA:Hd (Fr nob w (w.alloc (.cells #[(12:Int),line,U0,bs nm,.slice A 2 c] 50))):=(fR w).alloc _;have B1:=hD (Blk.new w 50 #[(12:Int),line,U0,bs nm,.slice A 2 c]);have S1:Hd (Kq G _ s zs k 0 0):=h.no FA;have O1:=hD (ho.fr FA (λ_ _ x=>x));have GN:=hD (show w.heap.size≠G.g∧w.heap.size≠G.bt∧w.heap.size≠G.bs∧w.heap.size≠G.bf from by have:=h.geo.lg;have:=h.geo.lt;have:=h.geo.ls;have:=h.geo.lf;have:=h.zle;exact⟨by omega,by omega,by omega,by omega⟩);have HA:=hD ha;clear ha h ho hlow hM hx hxl;dsimp only[List.length_cons,List.length_nil];go_enter func145,ntmps145;go_upto_region 1 with fail;generalize w.alloc (.cells #[(12:Int),line,U0,bs nm,.slice A 2 c] 50)=w0 at *;generalize hT:w.heap.size=T at *;obtain⟨_,_,-,-,-,-,c6,-,c8,-⟩:=S1.o.cells;go_wp2_with fail
 go_still_tail 11,(by kernel_rfl)
 change wpList _ _ _ _ _ w0.drew;clear c6 c8;have SD:=hD (S1.o.no (fR w0).drew);have BD:=hD (B1.o.fr (fR w0).drew (λx=>x));have OD:=hD (O1.o.fr (fR w0).drew (λ_ _ x=>x));have FD:Hd (FrK G w w0.drew):=FrK.no (FA.o.tr (fR w0).drew);clear S1 B1 O1 FA;generalize w0.drew=w1 at *;obtain⟨⟨u2,bf⟩,zf⟩:=SD.o.fn.gY (j:=x) (by omega);have S2:Hd (Kq G _ (bK k x s) zs k 0 0):=(SD.o.kI x k).1;have F2:=hD (FD.o.trans (SD.o.kI x k).2);have B2:=hD (BD.o.far (p:=(G.bf,x)) (λe=>GN.o.2.2.2 e) k);have O2:=hD (OD.o.far (p:=(G.bf,x)) (λe=>by have h9:G.bf<G.B:=HLO.o _ e;have:=HG.o.hf;omega) k);go_upto_region 2 with fail;clear bf zf SD BD OD FD;generalize w1.setCell (G.bf,x) k=w2 at *;have d0:=(B2.o.cell 0).trans rfl;go_wp2_with fail
 refine (KqM.named (zs:=zs) (k:=k) HX _ _ (show KqM G w2 (.good (bK k x s)) zs k from S2)).mono ?_;rintro en w2 ⟨t,rfl,h3,f3⟩;have N2:=hD h3;have F9:=hD (F2.o.trans f3);have B9:=hD (f3.far B2 GN.o.1 GN.o.2.1 GN.o.2.2.1 GN.o.2.2.2 (by decide));have O9:=hD (f3.own O2 (by decide) (λb hb=>by have:=HLO.o b hb;have:=HG.o.hg;have:=HG.o.ht;have:=HG.o.hs;have:=HG.o.hf;exact⟨by omega,by omega,by omega,by omega⟩));clear h3 f3 S2 F2 B2 O2 d0;have d0:=(B9.o.cell 0).trans rfl;have d1:=(B9.o.cell 1).trans rfl;have d2:=(B9.o.cell 2).trans rfl;have d3:=(B9.o.cell 3).trans rfl;have d4:=(B9.o.cell 4).trans rfl;go_wp2_with fail
 refine (iB (kind:=12) (line:=line) (n:=0) (nm:=nm) HA N2.o.st O9 HLO (by simp)).mono ?_;rintro en w3 ⟨A3,c3,ts,rfl,h3,f3⟩;have S3:=hD h3;have F3:=hD (F9.o.trans f3);clear h3 f3 B9 O9 F9 d0 d1 d2 d3 d4;have hts:ts.length=2:=by have:=S3.o.own.len;simpa[ints] using this
 obtain⟨t0,t1,rfl⟩:∃t0 t1,ts=[t0,t1]:=by
  match ts,hts with
  | [u,v],_=>exact⟨u,v,rfl⟩
 have VL:=hD S3.o.val;obtain⟨tb,e9,htc⟩:=S3.o.own.some (by simp);subst e9;have g0:=htc 0 t0 rfl;have g1:=htc 1 t1 rfl;have hc3:2<=c3:=by have:=S3.o.own.oH.1;simpa using this
 clear htc hts;have SD:=hD (S3.o.st.no ((fR w3).drew));have FD:=hD (F3.o.trans (FrK.no ((fR w3).drew)));obtain⟨b1,hb1⟩:∃b1,((t:Int)==4)=b1:=⟨_,rfl⟩;obtain⟨b2,hb2⟩:∃b2,((t0:Int)==1)=b2:=⟨_,rfl⟩;obtain⟨b3,hb3⟩:∃b3,((t1:Int)==1)=b3:=⟨_,rfl⟩;have HB:=hD (show (b1 && b2 && b3)=decide (t=4∧t0=1∧t1=1) from by subst hb1;subst hb2;subst hb3;rw[Bool.eq_iff_iff];simp;omega);have HB9:=HB;clear HB;cases b1 with
 | false=>
  go_wp2_with fail
  refine wp_region_still_tail 18 (by kernel_rfl) (by kernel_rfl) ?_;simp only[List.take_succ_cons,List.take_zero,List.drop_succ_cons,List.drop_zero];iterate 6 still_step
  iterate 4 (with_reducible refine gD (by kernel_rfl) ?_;simp only[Act.put,List.setIfInBounds_toArray,List.set_cons_zero,List.set_cons_succ])
  iterate 2 still_step
  iterate 4 (with_reducible refine gD (by kernel_rfl) ?_;simp only[Act.put,List.setIfInBounds_toArray,List.set_cons_zero,List.set_cons_succ])
  iterate 2 still_step
  refine wpStill_nil ?_;change wpList _ _ _ _ _ w3.drew;clear g0 g1 S3 F3;generalize w3.drew=w5 at *;go_wp2_with fail
  refine dU (SD.o.ask false 42 x (by decide) (by decide)) λw6 h6 f6=>?_;have FIN:=hD (show KqM G w6 (fI G.fs k ex bl x ⟨12,line,0,nm,[a,b]⟩ s) zs k from by
   rw[aIf N2.o.val VL.o HB9.o];exact h6);have FF:=hD (FD.o.trans (FrK.ofG f6));clear h6 f6 SD FD;go_wp2
  exact fK rfl rfl ⟨rfl,FIN.o.toN HM,FF⟩
 | true=>
  cases b2
  case' false=>
   go_wp2_with fail
   refine wp_region_still_tail 18 (by kernel_rfl) (by kernel_rfl) ?_;simp only[List.take_succ_cons,List.take_zero,List.drop_succ_cons,List.drop_zero];iterate 6 still_step
   iterate 4 (with_reducible refine iI (by kernel_rfl) (λK hK=>?_);go_simp;refine hK _ ?_;clear hK K)
   iterate 2 still_step
   iterate 4 (with_reducible refine gD (by kernel_rfl) ?_;simp only[Act.put,List.setIfInBounds_toArray,List.set_cons_zero,List.set_cons_succ])
   iterate 2 still_step
   refine wpStill_nil ?_;change wpList _ _ _ _ _ w3.drew;clear g0 g1 S3 F3;generalize w3.drew=w5 at *;go_wp2_with fail
   refine dU (SD.o.ask false 42 x (by decide) (by decide)) λw6 h6 f6=>?_
  case' true=>
   go_wp2_with fail
   refine wp_region_still_tail 18 (by kernel_rfl) (by kernel_rfl) ?_;simp only[List.take_succ_cons,List.take_zero,List.drop_succ_cons,List.drop_zero];iterate 6 still_step
   iterate 4 (with_reducible refine iI (by kernel_rfl) (λK hK=>?_);go_simp;refine hK _ ?_;clear hK K)
   iterate 2 still_step
   iterate 4 (with_reducible refine iI (by kernel_rfl) (λK hK=>?_);go_simp;refine hK _ ?_;clear hK K)
   iterate 2 still_step
   refine wpStill_nil ?_;change wpList _ _ _ _ _ w3.drew;clear g0 g1 S3 F3;generalize w3.drew=w5 at *;go_wp2_with fail
   refine dU (SD.o.ask b3 42 x (by decide) (by decide)) λw6 h6 f6=>?_
  all_goals
   have FIN:=hD (show KqM G w6 (fI G.fs k ex bl x ⟨12,line,0,nm,[a,b]⟩ s) zs k from by
    rw[aIf N2.o.val VL.o HB9.o];exact h6);have FF:=hD (FD.o.trans (FrK.ofG f6));clear h6 f6 SD FD;go_wp2
   exact fK rfl rfl ⟨rfl,FIN.o.toN HM,FF⟩
end
end Go.Proofs.YtlbjicjinnnboaaGreatDoor
