/- MvL: laws and walks for CheckVisible. -/
import Derived.Test.YtlbjicjinnnboaaGreatDoorMvK
import Derived.Test.YtlbjicjinnnboaaGreatDoorMvH
import Derived.Test.YtlbjicjinnnboaaGreatDoorMvG
set_option maxHeartbeats 8000000
set_option maxRecDepth 100000
set_option linter.unusedVariables false
set_option linter.unusedSimpArgs false
namespace Go.Proofs.YtlbjicjinnnboaaGreatDoor
open Go.RowKit Go.Proofs.Tryz
open Pw
variable {ns:List aF}{fs:List aG}{w:World}{B a g n p:Nat}{nv fv sv:Value}{lvs pvs:List Value}
theorem Blk.at_ {t:TypeId}{cs:Array Value} (h:a=w.heap.size):Blk (w.alloc (.cells cs t)) a t cs:=h ▸ Blk.new w t cs
theorem aBn (hn:n<=300) (h:Blk w a 3 (lY n 0).toArray):Own w 3 1 (a,n,n) n (ints (List.replicate n 0)):=by
 refine⟨by simp[ints],some (a,()),n,rfl,?_⟩;by_cases h0:n=0
 . exact .inl ⟨h0,h0⟩
 . refine .inr ⟨a,_,rfl,by omega,h,aA1 _,by unfold maxLen;omega,by simp[lY],?_⟩
   rw[aA5 (by simp[lY])];simp[lY,ints]
structure Q1 (B g:Nat) (nv fv:Value) (lvs pvs:List Value) (ns:List aF) (fs:List aG) (w:World) (tv sv uv:Value):Prop where
 tree:dJ B w nv fv lvs pvs ns fs
 blk_:Blk w g 94 (jF nv fv tv sv uv Un Un 0 0 0 0)
 types:Own w 3 1 tv ns.length (ints (List.replicate ns.length 0))
 slots:Own w 3 1 sv ns.length (eH (List.replicate ns.length (-1)))
 fn:Own w 3 1 uv ns.length (ints (List.replicate ns.length 0))
 hg:B<=g
 ht:∀x,blk tv=some x->B<=x
 hs:∀x,blk sv=some x->B<=x
 hf:∀x,blk uv=some x->B<=x
 ts:∀x,blk tv=some x->blk sv≠some x
 tf:∀x,blk tv=some x->blk uv≠some x
 sf:∀x,blk sv=some x->blk uv≠some x
theorem dJ.frn {w':World} (h:dJ B w nv fv lvs pvs ns fs) (f:Fr nob w w'):dJ B w' nv fv lvs pvs ns fs:=
 h.keep (λb hb=>f.block b (Nat.lt_of_lt_of_le hb h.le) (λx=>x)) f.size
theorem Q1.mk' {c:Nat}{W:World} (hn:n=ns.length) (hn3:n<=300) (tree:dJ B W nv fv lvs pvs ns fs)
  (hb:Blk W g 94 (jF nv fv (a,n,n) sv (c,n,n) Un Un 0 0 0 0)) (h1:Blk W a 3 (lY n 0).toArray) (h2:Own W 3 1 sv n (eH (List.replicate n (-1)))) (h3:Blk W c 3 (lY n 0).toArray)
  (hsz:B<=a∧B<=c∧B<=g∧a≠c) (hs:∀x,blk sv=some x->B<=x∧x≠a∧x≠c):Q1 B g nv fv lvs pvs ns fs W (a,n,n) sv (c,n,n):=by
 subst hn;have e:∀{d x:Nat},blk (d,ns.length,ns.length)=some x->x=d:=λ{d x} h=>by
  by_cases h0:ns.length=0
  . rw[h0] at h;simp[blk] at h
  . rw[aQ (by omega) (aA1 _)] at h;injection h with h;exact h.symm
 exact⟨tree,hb,aBn hn3 h1,h2,aBn hn3 h3,hsz.2.2.1,λx hx=>by rw[e hx];exact hsz.1,λx hx=>(hs x hx).1,λx hx=>by rw[e hx];exact hsz.2.1,
  λx hx h=>(hs x h).2.1 (e hx),λx hx h=>hsz.2.2.2 ((e hx).symm.trans (e h)),λx hx h=>(hs x hx).2.2 (e h)⟩
theorem Q1.pack {c:Nat}{w2:World}{W:World} (hn:n=ns.length) (hn3:n<=300) (tree:dJ B W nv fv lvs pvs ns fs)
  (hb:Blk W g 94 (jF nv fv (a,n,n) sv (c,n,n) Un Un 0 0 0 0)) (h1:Blk W a 3 (lY n 0).toArray) (h2:Own W 3 1 sv n (eH (List.replicate n (-1)))) (h3:Blk W c 3 (lY n 0).toArray)
  (hsz:B<=a∧B<=c∧B<=g∧a≠c) (hs:∀x,blk sv=some x->B<=x∧x≠a∧x≠c) (fw:Fr nob w2 W):
  ∃(g':Nat) (tv sv' uv:Value),Value.pointer (some (g,())) = .pointer (some (g',()))∧Hd (Q1 B g' nv fv lvs pvs ns fs W tv sv' uv)∧Hd (Fr nob w2 W):=
 ⟨g,_,_,_,rfl,hD (Q1.mk' hn hn3 tree hb h1 h2 h3 hsz hs),hD fw⟩
theorem Q1.aTc {tv uv:Value} (h:Q1 B g nv fv lvs pvs ns fs w tv sv uv) (hok:nA ns fs) (hk:∀nd∈ns,nd.l.length<=300) (hn:0<ns.length) (hf:0<fs.length):
  ∃bt bs bf c1 c2 c3,Kq (aMy B w.heap.size g bt bs bf c1 c2 c3 nv fv lvs pvs ns fs) w (jV ns) [] 0 0 0:=by
 obtain⟨A1,c1,rfl,-,-⟩:=h.types.cap;obtain⟨A2,c2,rfl,-,-⟩:=h.slots.cap;obtain⟨A3,c3,rfl,-,-⟩:=h.fn.cap;obtain⟨bt,rfl,-⟩:=h.types.some hn;obtain⟨bs,rfl,-⟩:=h.slots.some hn;obtain⟨bf,rfl,-⟩:=h.fn.some hn;have q1:=aQ (b:=bt) hn h.types.oH.1;have q2:=aQ (b:=bs) hn h.slots.oH.1;have q3:=aQ (b:=bf) hn h.fn.oH.1;refine⟨bt,bs,bf,c1,c2,c3,⟨⟨(by decide:24<=1000),h.hg,h.ht _ q1,h.hs _ q2,h.hf _ q3,h.blk_.lt,h.types.aZ q1,h.slots.aZ q2,h.fn.aZ q3,λe=>h.ts _ q1 (q2.trans (congrArg some (Eq.symm e))),λe=>h.tf _ q1 (q3.trans (congrArg some (Eq.symm e))),λe=>h.sf _ q2 (q3.trans (congrArg some (Eq.symm e))),hn,hok.few,hok.fewf,hok.pars,hk,hok⟩,
  h.tree,⟨Un,Un,h.blk_,Own.nil _ _ _,λb hb=>by simp[blk] at hb,Own.nil _ _ _,λb hb=>by simp[blk] at hb⟩,h.types,h.slots,h.fn,hf,aA4 _,λ_=>aA4 _,aA1 _,aA4 _,aA1 _,aA4 _⟩⟩
def L2q (B g:Nat) (nv fv:Value) (lvs pvs:List Value) (ns:List aF) (fs:List aG) (i:Nat) (w:World) (e p:Nat):Prop:=
 w.cell? (g,0)=e∧w.cell? (g,1)=p∧g<w.heap.size ∧
 ((e=0∧p=0∧jM fs = .good ()∧0<fs.length∧∃G zs s k,Kq G w s zs k 0 0∧G.B=B∧G.g=g∧G.M=24∧G.L=0∧G.nv=nv∧G.fv=fv∧G.lvs=lvs∧G.pvs=pvs∧G.ns=ns∧G.fs=fs∧zs.length=i∧iR ns fs 0 (fs.take i) [] (jV ns) = .good (zs,s))∨(e≠0∧e<=99∧eD ns fs = .bad e p))
theorem L2q.no {i e:Nat}{w':World} (h:L2q B g nv fv lvs pvs ns fs i w e p) (f:Fr nob w w'):L2q B g nv fv lvs pvs ns fs i w' e p:=by
 obtain⟨h1,h2,h3,h4⟩:=h;refine⟨(f.cell (p:=(g,())) h3 (λx=>x)).trans h1,(f.cell (p:=(g,U1)) h3 (λx=>x)).trans h2,Nat.lt_of_lt_of_le h3 f.size,?_⟩;rcases h4 with ⟨a,b,c,d,G,zs,s,k,hk,r⟩|h4
 . exact .inl ⟨a,b,c,d,G,zs,s,k,hk.no f,r⟩
 . exact .inr h4
section
variable {w w':World}{lvs pvs:List Value}{ns:List aF}{fs:List aG}
theorem aEn {NA FA:Option Addr}{NC FC:Nat} (ht:cZ 0 w (.slice NA ns.length NC) (.slice FA fs.length FC) lvs pvs ns fs) (hok:nA ns fs) (hk:∀nd∈ns,nd.l.length<=300):
  Calls prog 31 #[.agg #[.slice NA ns.length NC,.slice FA fs.length FC]] w λen w'=>CheckAt w' en (.slice NA ns.length NC) (.slice FA fs.length FC) lvs pvs (eD ns fs)∧Fr nob w w':=by
 have hns:=hok.few;have hfs:=hok.fewf;have hn3:(ns.length:Int)<=300:=by omega
 have hf3:(fs.length:Int)<=6:=by omega
 have HO:=hD hok;have HKD:=hD hk;have F2:Hd (Fr nob w ((w.alloc (.cells #[.slice NA ns.length NC,.slice FA fs.length FC] 26)).alloc (.cells #[Un,Un,Un,Un,Un,Un] 29))):=((fR w).alloc _).alloc _;have TB2:=hD ((Blk.new w 26 #[.slice NA ns.length NC,.slice FA fs.length FC]).alloc (.cells #[Un,Un,Un,Un,Un,Un] 29));have RB2:Hd (Blk ((w.alloc (.cells #[.slice NA ns.length NC,.slice FA fs.length FC] 26)).alloc (.cells #[Un,Un,Un,Un,Un,Un] 29)) (w.heap.size+1) 29 #[Un,Un,Un,Un,Un,Un]):=Blk.at_ (by simp);have TL:=hD ((dJ.of ht).keep (w':=(w.alloc (.cells #[.slice NA ns.length NC,.slice FA fs.length FC] 26)).alloc (.cells #[Un,Un,Un,Un,Un,Un] 29)) (λb hb=>(F2.o.block b hb (λx=>x))) F2.o.size);have hmk:=uZ ns.length (by omega);clear ht hok hk;go_enter func31,ntmps31;go_upto_region 2 with fail;have HSZ:=hD (show ((w.alloc (.cells #[.slice NA ns.length NC,.slice FA fs.length FC] 26)).alloc (.cells #[Un,Un,Un,Un,Un,Un] 29)).heap.size=w.heap.size+2 from by simp);generalize ((w.alloc (.cells #[.slice NA ns.length NC,.slice FA fs.length FC] 26)).alloc (.cells #[Un,Un,Un,Un,Un,Un] 29))=w2 at *;generalize hT:w.heap.size=T at *
 have KF:=hD (show ∀wx,Fr nob w2 wx->wx.cell? (T,0)=some (.slice NA ns.length NC)∧wx.cell? (T,1)=some (.slice FA fs.length FC) from λwx f=>⟨((TB2.o.fr f (λx=>x)).cell 0).trans rfl,((TB2.o.fr f (λx=>x)).cell 1).trans rfl⟩);obtain⟨t0,t1⟩:=KF.o w2 (fR w2);have HN9:=hD hns;have HB2:Hd (w2.heap.size=T+2):=HSZ;have TL2:Hd (dJ (T+2) w2 (.slice NA ns.length NC) (.slice FA fs.length FC) lvs pvs ns fs):=TL.o.up (by omega) (by rw[HB2.o];exact aA1 _);go_cut [6] (λv wx=>∃(g:Nat) (tv sv uv:Value),v = .pointer (some (g,()))∧Hd (Q1 (T+2) g (.slice NA ns.length NC) (.slice FA fs.length FC) lvs pvs ns fs wx tv sv uv)∧Hd (Fr nob w2 wx))
 case first=>
  go_region_held3 (λwx=>wx.cell? (T,0)=some (.slice NA ns.length NC)∧wx.cell? (T,1)=some (.slice FA fs.length FC)) (first|exact⟨t0,t1⟩|(refine KF _ ?_;repeat (first|exact F8.o|exact fR w2|exact (fR w2).drew|refine Fr.alloc ?_ _|refine Fr.drew ?_))) (first
   | (go_at_call 58;go_loud (refine (aAc ns.length HN9 (by repeat (first|exact Blk.at_ (by simp)|refine Blk.alloc ?_ _))).mono ?_);go_loud (rintro en w8 ⟨A8,c8,rfl,ho8,hn8,f8⟩);go_loud (have O8:=hD ho8);go_loud (have N8:=hD hn8);go_loud (have P8:=hD f8);go_loud (have F8:Hd (Fr nob w2 w8):=Fr.tr (by repeat (first|exact fR w2|refine Fr.alloc ?_ _|refine Fr.drew ?_)) f8);go_loud (clear ho8 hn8 f8)))
  all_goals
   go_wp2_with fail
   go_meet
   have hz:=P8.o.size;have hz0:=HB2.o;simp at hz
   apply Q1.pack rfl HN9.o
   case hb=>refine Blk.at_ ?_;simp
   case fw=>repeat (first|exact F8.o|exact fR w2|refine Fr.alloc ?_ _|refine Fr.drew ?_)
   case tree=>
     refine TL2.o.frn ?_;repeat (first|exact F8.o|exact fR w2|refine Fr.alloc ?_ _|refine Fr.drew ?_)
   case h1=>repeat (first|(refine Blk.at_ ?_;simp;done)|refine Blk.alloc ?_ _|refine Blk.fr ?_ P8 (λx=>x)|refine Blk.fr ?_ (fR _).drew (λx=>x))
   case h3=>repeat (first|(refine Blk.at_ ?_;simp;done)|refine Blk.alloc ?_ _|refine Blk.fr ?_ P8 (λx=>x)|refine Blk.fr ?_ (fR _).drew (λx=>x))
   case h2=>repeat (first|exact O8.o|refine Own.alloc ?_ _)
   case hsz=>refine⟨by omega,by omega,by omega,by omega⟩
   case hs=>
     intro x hx;have q1:=N8.o x hx;have q2:=O8.o.aZ hx;simp at q1
     exact⟨by omega,by omega,by omega⟩
 case rest=>
  obtain⟨g,tv,sv,uv,rfl,Q,F3⟩:=hcut;have TB3:=hD (TB2.o.fr F3 (λx=>x));have RB3:=hD (RB2.o.fr F3 (λx=>x));have c1:wc.cell? (T,1)=some (.slice FA fs.length FC):=(TB3.o.cell 1).trans rfl;clear KF t0 t1 hmk TB2 RB2 TL TL2;go_wp2_with fail
  refine (aEc Q.o.blk_ Q.o.tree.tree HO.o.fewf HO.o.pars).mono ?_;rintro en w4 ⟨rfl,f4,e,p,hb4,hm⟩;have GT:Hd (T+2<=g):=Q.o.hg;have F4:=hD (show Fr (λb=>T+2<=b) w2 w4 from Fr.trans F3 f4 (λ_ _ x=>x.elim) (λb _ hb=>by rw[show b=g from hb];exact GT));have T4:=hD (TB3.o.fr f4 (λhb=>by have h1:T=g:=hb;have:=GT.o;omega));have R4:=hD (RB3.o.fr f4 (λhb=>by have h1:T+1=g:=hb;have:=GT.o;omega));have L4:=hD (Q.o.tree.keep (w':=w4) (λb hb=>f4.block b (Nat.lt_of_lt_of_le hb Q.o.tree.le) (λhm=>by have h1:b=g:=hm;have:=GT.o;omega)) f4.size);have LL:=hD (show L2q (T+2) g (.slice NA ns.length NC) (.slice FA fs.length FC) lvs pvs ns fs 0 w4 e p from by
   refine⟨(hb4.cell 0).trans rfl,(hb4.cell 1).trans rfl,hb4.lt,?_⟩;rcases hm with ⟨rfl,rfl,h3⟩|⟨h1,h2,h3⟩
   . have hne:0<fs.length:=by
       cases hfs':fs with
       | nil=>rw[hfs'] at h3;cases h3
       | cons a l=>simp
     have hnn:0<ns.length:=by
       obtain⟨c,hc,_⟩:=HO.o.bodies _ (List.getElem_mem hne);have:=(gK hc);omega
     obtain⟨bt,bs,bf,ct,cs,cf,hck⟩:=Q.o.aTc HO HKD hnn hne;refine .inl ⟨rfl,rfl,h3,hne,aMy (T+2) wc.heap.size g bt bs bf ct cs cf (.slice NA ns.length NC) (.slice FA fs.length FC) lvs pvs ns fs,[],jV ns,0,?_,rfl,rfl,rfl,rfl,rfl,rfl,rfl,rfl,rfl,rfl,rfl,by rw[List.take_zero];rfl⟩;refine hck.keep f4.size λb hbl hbb=>?_
     by_cases hbg:b=g
     . subst hbg
       have e1:w4.heap[b]?=some (.cells (jF (.slice NA ns.length NC) (.slice FA fs.length FC) tv sv uv Un Un 0 0 0 0) 94 (0,0)):=hb4;have e3:wc.heap[b]?=some (.cells (jF (.slice NA ns.length NC) (.slice FA fs.length FC) tv sv uv Un Un 0 0 0 0) 94 (0,0)):=Q.o.blk_;rw[e1,e3]
     . exact f4.block b hbl hbg
   . refine .inr ⟨h1,h2,?_⟩
     unfold eD;rw[h3];rfl)
  have t1:w4.cell? (T,1)=some (.slice FA fs.length FC):=(T4.o.cell 1).trans rfl;clear Q F3 f4 hb4 hm TB3 RB3 c1;go_wp2
  clear t1;go_loopw [30] (λi wq=>∃(j e p:Nat),j<=fs.length∧i = .int .i64 j∧Hd (L2q (T+2) g (.slice NA ns.length NC) (.slice FA fs.length FC) lvs pvs ns fs j wq e p)∧Hd (Blk wq T 26 #[.slice NA ns.length NC,.slice FA fs.length FC])∧Hd (Blk wq (T+1) 29 #[Un,Un,Un,Un,Un,Un])∧Hd (dJ (T+2) wq (.slice NA ns.length NC) (.slice FA fs.length FC) lvs pvs ns fs)∧Hd (Fr (λb=>T+2<=b) w2 wq)) (λi _=>fs.length - (intOf i).toNat)
  case atStart=>exact⟨0,e,p,aA4 _,rfl,LL,T4,R4,L4,F4⟩
  case round=>
   clear LL T4 R4 L4 F4;obtain⟨j,e,p,hj,rfl,LL,TT,RR,TW,FR⟩:=hrel;by_cases hlt:j<fs.length
   . have hlt2:(j:Int)<(fs.length:Int):=by omega
     obtain⟨f,hf⟩:∃f,fs[j]?=some f:=⟨_,gE hlt⟩;obtain⟨pv,hpv⟩:∃pv,pvs[j]?=some pv:=⟨_,gE (by have:=TW.o.tree.samef;omega)⟩;have hpo:=TW.o.tree.pars.get hf hpv;obtain⟨PA,PC,hpe,-,-⟩:=hpo.cap;obtain⟨fb,e9,hcell⟩:=TW.o.tree.fns.some (by omega);subst e9;subst hpe;have key:=dI hf hpv;have y0:=hcell _ _ (key 0 _ rfl);have y1:=hcell _ _ (key 1 _ rfl);have y2:=hcell _ _ (key 2 _ rfl);have y3:=hcell _ _ (key 3 _ rfl);have y4:=hcell _ _ (key 4 _ rfl);rw[Nat.add_zero] at y0;have FE:Hd (Fr nob wr (wr.alloc (.cells #[bs f.name,f.line,.slice PA f.params.length PC,f.ret,f.body] 48))):=(fR wr).alloc _;have BE:=hD (Blk.new wr 48 #[bs f.name,f.line,.slice PA f.params.length PC,f.ret,f.body]);have HF:=hD (And.intro hf hpv);have HJ:=hD hlt;have hj6:(j:Int)<=6:=by omega
     clear hf hpv hpo hcell key hlt hj;go_upto_region 7 with fail;clear y0 y1 y2 y3 y4;generalize hw5:wr.alloc (.cells #[bs f.name,f.line,.slice PA f.params.length PC,f.ret,f.body] 48)=w5 at *;have L5:=hD (LL.o.no FE);have T5:=hD (TT.o.fr FE (λx=>x));have R5:=hD (RR.o.fr FE (λx=>x));have W5:=hD (TW.o.frn FE);have F5:=hD (FR.o.tr (Fr.aGf FE));clear LL TT RR TW FR FE hw5;generalize wr.heap.size=E at *;have c0:=L5.o.1;have glt:=L5.o.2.2.1;by_cases he:e=0
     . have heb:((e:Int)==0)=true:=by rw[he];rfl
       rcases L5.o.2.2.2 with ⟨_,hp0,hh,hf0,GG,zs,s,k,hck,g1,g2,g3,gL,g4,g5,g6,g7,g8,g9,hzl,hfu⟩|⟨h0,_⟩
       case inr=>exact absurd he h0
       have hbd:=HO.o.bodies f (List.mem_of_getElem? HF.o.1);have HC:=hD (vY (k:=j) g3 gL hck (by rw[g9];exact HF.o.1) (by omega) (by rw[g7];exact HF.o.2) rfl (λzs=>by
        obtain⟨c,hc,hcb⟩:=hbd;exact uS _ f.body c GG hck.geo g3 (by rw[g8];exact (gK hc)) (by rw[g8];exact hc) (by simpa[pO] using hcb)))
       have HX:=hD (And.intro hh (And.intro hf0 (And.intro hzl hfu)));have HG:=hD (And.intro g1 (And.intro g2 (And.intro g3 (And.intro gL (And.intro g4 (And.intro g5 (And.intro g6 (And.intro g7 (And.intro g8 g9)))))))));rw[g2] at HC;have b0:=(BE.o.cell 0).trans (show _=some (Value.string (bs f.name)) from rfl);have b1:=(BE.o.cell 1).trans (show _=some (Value.int .i64 (f.line:Nat)) from rfl);have b2:=(BE.o.cell 2).trans (show _=some (Value.slice PA f.params.length PC) from rfl);have b3:=(BE.o.cell 3).trans (show _=some (Value.int .i64 (f.ret:Nat)) from rfl);have b4:=(BE.o.cell 4).trans (show _=some (Value.int .i64 (f.body:Nat)) from rfl);clear hck g1 g2 g3 gL g4 g5 g6 g7 g8 g9 hh hf0 hzl hfu hbd hp0;go_wp2_with fail
       refine HC.o.mono ?_;rintro en w6 ⟨rfl,hk6,f6⟩;obtain⟨g1,g2,g3,gL,g4,g5,g6,g7,g8,g9⟩:=HG.o;rw[g1] at f6;rw[g8,g9] at hk6;have F6:Hd (Fr (λb=>T+2<=b) w2 w6):=F5.o.tr f6;have T6:=hD (T5.o.fr f6 (λhb=>by have h1:T+2<=T:=hb;omega));have R6:=hD (R5.o.fr f6 (λhb=>by have h1:T+2<=T+1:=hb;omega));have W6:=hD (W5.o.keep (w':=w6) (λb hb=>f6.block b (Nat.lt_of_lt_of_le hb W5.o.le) (λhm=>by have h1:T+2<=b:=hm;omega)) f6.size);have L6:=hD (show ∃e p,L2q (T+2) g (.slice NA ns.length NC) (fb,fs.length,FC) lvs pvs ns fs (j+1) w6 e p from by
        obtain⟨hh,hf0,hzl,hfu⟩:=HX.o;have hf:=HF.o.1;have hT:fs.take (j+1)=fs.take j++[f]:=by rw[List.take_add_one,hf];rfl
        have hlj:(fs.take j).length=j:=by rw[List.length_take];have:=HJ.o;omega
        cases hfn:gV ns fs j f s with
        | good s'=>
          rw[hfn] at hk6;obtain⟨Z,hc5⟩:=hk6;obtain⟨_,_,-,-,-,-,-,-,-,-,-,q0,q1,-⟩:=hc5.cells;have hgl:=hc5.jK;have g2':(GG.atZ Z).g=g:=g2;rw[g2'] at q0 q1 hgl;refine⟨0,0,q0,q1,hgl,.inl ⟨rfl,rfl,hh,hf0,GG.atZ Z,zs++[s'.size],s',j,hc5,g1,g2,g3,gL,g4,g5,g6,g7,g8,g9,by rw[aA3,hzl];rfl,?_⟩⟩;rw[hT,iC,hfu,CkR.aC,hlj,Nat.zero_add,hfn];rfl
        | bad e' p'=>
          rw[hfn] at hk6;obtain⟨h1,h2,Z,s',zs',hc5⟩:=hk6;obtain⟨_,_,-,-,-,-,-,-,-,-,-,q0,q1,-⟩:=hc5.cells;have hgl:=hc5.jK;have g2':(GG.atZ Z).more.g=g:=g2;rw[g2'] at q0 q1 hgl;refine⟨e',p',q0,q1,hgl,.inr ⟨h1,h2,?_⟩⟩;unfold eD;rw[hh,CkR.aC];have hb:iR ns fs 0 (fs.take (j+1)) [] (jV ns) = .bad e' p':=by
           rw[hT,iC,hfu,CkR.aC,hlj,Nat.zero_add,hfn];rfl
          have:=vD ns fs (fs.take (j+1)) (fs.drop (j+1)) 0 [] (jV ns) hb;rw[List.take_append_drop] at this;rw[this];rfl)
       clear hk6 f6 g1 g2 g3 gL g4 g5 g6 g7 g8 g9 HC HX HG L5 T5 R5 W5 F5 c0 glt b0 b1 b2 b3 b4 BE he;obtain⟨e',p',L7⟩:=L6.o;have L7:=hD L7;clear L6;go_wp2
       go_roundw
       case rel=>exact⟨j+1,e',p',by have:=HJ.o;omega,by go_num,L7,T6,R6,W6,F6⟩
       case measure=>simp[intOf];have:=HJ.o;omega
     . have heb:((e:Int)==0)=false:=bN.2 (by omega)
       have L7:=hD (show L2q (T+2) g (.slice NA ns.length NC) (fb,fs.length,FC) lvs pvs ns fs (j+1) w5 e p from by
        obtain⟨q0,q1,q2,q3⟩:=L5.o;rcases q3 with ⟨h0,_⟩|h1
        . exact absurd h0 he
        . exact⟨q0,q1,q2,.inr h1⟩)
       clear L5 BE he;go_wp2
       clear c0 glt;go_roundw
       case rel=>exact⟨j+1,e,p,by have:=HJ.o;omega,by go_num,L7,T5,R5,W5,F5⟩
       case measure=>simp[intOf];have:=HJ.o;omega
   . have hlt2:¬(j:Int)<(fs.length:Int):=by omega
     have hje2:j=fs.length:=by omega
     subst hje2;have c0:=LL.o.1;have c1:=LL.o.2.1;have glt:=LL.o.2.2.1;have z0:=RR.o.frozen 0;have z1:=RR.o.frozen 1;have z2:=RR.o.frozen 2;have z3:=RR.o.frozen 3;have z4:=RR.o.frozen 4;have z5:=RR.o.frozen 5;have rlt:=RR.o.lt;have gnr:¬g=T+1:=by have:=GT.o;omega
     have r0:wr.cell? (T+1,0)=Un:=(RR.o.cell 0).trans rfl;have r1:wr.cell? (T+1,1)=Un:=(RR.o.cell 1).trans rfl;have r2:wr.cell? (T+1,2)=Un:=(RR.o.cell 2).trans rfl;have r3:wr.cell? (T+1,3)=Un:=(RR.o.cell 3).trans rfl;have r4:wr.cell? (T+1,4)=Un:=(RR.o.cell 4).trans rfl;have r5:wr.cell? (T+1,5)=Un:=(RR.o.cell 5).trans rfl;have FF:=hD (show ∀w',Fr (bY (T+1)) wr w'->Fr nob w w' from λw' f=>by
       have h1:Fr (λb=>T<=b) w w':=(Fr.aGf (M:=λb=>T<=b) F2).tr ((FR.o.mono (λb _ hb=>by have hb:T+2<=b:=hb;show T<=b;omega)).trans f (λ_ _ x=>x) (λb _ hb=>by rw[show b=T+1 from hb];show T<=T+1;omega));exact h1.mono (λb hb hm=>by have hm:T<=b:=hm;omega))
     clear hlt hj;by_cases he:e=0
     . have hne:((e:Int) != 0)=false:=by rw[he];rfl
       have heb:((e:Int)==0)=true:=by rw[he];rfl
       rcases LL.o.2.2.2 with ⟨-,hp0,hh,hf0,GG,zs,s,k,hck,g1,g2,g3,gL,g4,g5,g6,g7,g8,g9,hzl,hfu⟩|⟨h0,_⟩
       case inr=>exact absurd he h0
       rw[aA5 (aA1 _)] at hfu;have CA:=hD (show eD ns fs = .good (⟨ns,fs,s.types,s.slots,s.fn,zs⟩:gB) from by unfold eD;rw[hh,CkR.aC,hfu];rfl);obtain⟨M,B,Z,gg,bt,bq,bf,ct,cq,cf,nv,fv,lv,pv,nn,ff,LLL⟩:=GG;dsimp only at g1 g2 g3 gL g4 g5 g6 g7 g8 g9;subst g1 g2 g4 g5 g6 g7 g8 g9;obtain⟨zv,vv,hb,hz,-⟩:=hck.ex;obtain⟨ZA,ZC,rfl,-,-⟩:=hz.cap;dsimp only at hb hz;have q2:wr.cell? (gg,2)=some (.slice NA nn.length NC):=(hb.cell 2).trans rfl;have q3:wr.cell? (gg,3)=some (.slice FA ff.length FC):=(hb.cell 3).trans rfl;have q4:wr.cell? (gg,4)=(bt,nn.length,ct):=(hb.cell 4).trans rfl;have q5:wr.cell? (gg,5)=(bq,nn.length,cq):=(hb.cell 5).trans rfl;have q6:wr.cell? (gg,6)=(bf,nn.length,cf):=(hb.cell 6).trans rfl;have q7:wr.cell? (gg,7)=some (.slice ZA zs.length ZC):=(hb.cell 7).trans rfl;have HPR:=hD (show kT wr (.slice NA nn.length NC) (.slice FA ff.length FC) (bt,nn.length,ct) (bq,nn.length,cq) (bf,nn.length,cf) (.slice ZA zs.length ZC) lv pv (⟨nn,ff,s.types,s.slots,s.fn,zs⟩:gB) from
        ⟨hck.tree.tree,by have h9:=hck.types;have h8:=h9.len;simp[ints] at h8;rw[show s.types.length=nn.length from h8];exact h9,by have h9:=hck.slots;have h8:=h9.len;simp[eH] at h8;rw[show s.slots.length=nn.length from h8];exact h9,by have h9:=hck.fn;have h8:=h9.len;simp[ints] at h8;rw[show s.fn.length=nn.length from h8];exact h9,hz⟩)
       have BE:Hd (Blk ((((((wr.setCell (T+1,()) (.slice NA nn.length NC)).setCell (T+1,U1) (.slice FA ff.length FC)).setCell (T+1,U2) (bt,nn.length,ct)).setCell (T+1,U3) (bq,nn.length,cq)).setCell (T+1,U4) (bf,nn.length,cf)).setCell (T+1,U5) (.slice ZA zs.length ZC)) (T+1) 29 #[.slice NA nn.length NC,.slice FA ff.length FC,(bt,nn.length,ct),(bq,nn.length,cq),(bf,nn.length,cf),.slice ZA zs.length ZC]):=((((((RR.o.setCell 0 (.slice NA nn.length NC)).setCell 1 (.slice FA ff.length FC)).setCell 2 (bt,nn.length,ct)).setCell 3 (bq,nn.length,cq)).setCell 4 (bf,nn.length,cf)).setCell 5 (.slice ZA zs.length ZC));have FE:=hD (FF ((((((wr.setCell (T+1,()) (.slice NA nn.length NC)).setCell (T+1,U1) (.slice FA ff.length FC)).setCell (T+1,U2) (bt,nn.length,ct)).setCell (T+1,U3) (bq,nn.length,cq)).setCell (T+1,U4) (bf,nn.length,cf)).setCell (T+1,U5) (.slice ZA zs.length ZC)) (Fr.six wr (T+1) (.slice NA nn.length NC) (.slice FA ff.length FC) (bt,nn.length,ct) (bq,nn.length,cq) (bf,nn.length,cf) (.slice ZA zs.length ZC)));have PE:=hD (HPR.o.aSc RR (Fr.six wr (T+1) (.slice NA nn.length NC) (.slice FA ff.length FC) (bt,nn.length,ct) (bq,nn.length,cq) (bf,nn.length,cf) (.slice ZA zs.length ZC)));clear hck hb hz hh hf0 hzl hfu hp0 he g3 gL LL;go_wp2_with fail
       all_goals
        clear r0 r1 r2 r3 r4 r5 z0 z1 z2 z3 z4 z5;generalize ((((((wr.setCell (T+1,()) (.slice NA nn.length NC)).setCell (T+1,U1) (.slice FA ff.length FC)).setCell (T+1,U2) (bt,nn.length,ct)).setCell (T+1,U3) (bq,nn.length,cq)).setCell (T+1,U4) (bf,nn.length,cf)).setCell (T+1,U5) (.slice ZA zs.length ZC))=wz at *;have z0:wz.cell? (T+1,0)=some (.slice NA nn.length NC):=(BE.o.cell 0).trans rfl;have z1:wz.cell? (T+1,1)=some (.slice FA ff.length FC):=(BE.o.cell 1).trans rfl;have z2:wz.cell? (T+1,2)=(bt,nn.length,ct):=(BE.o.cell 2).trans rfl;have z3:wz.cell? (T+1,3)=(bq,nn.length,cq):=(BE.o.cell 3).trans rfl;have z4:wz.cell? (T+1,4)=(bf,nn.length,cf):=(BE.o.cell 4).trans rfl;have z5:wz.cell? (T+1,5)=some (.slice ZA zs.length ZC):=(BE.o.cell 5).trans rfl;go_wp2
        refine bodyPost_ret (v:= .tuple #[.agg #[.slice NA nn.length NC,.slice FA ff.length FC,(bt,nn.length,ct),(bq,nn.length,cq),(bf,nn.length,cf),.slice ZA zs.length ZC],U0,U0]) (by simp[results,results31,go_sem,z0,z1,z2,z3,z4,z5]) rfl ⟨by rw[CA.o];exact⟨_,_,_,_,rfl,by first|exact PE.o|exact PE.o.no ((fR _).drew)⟩,by first|exact FE.o|exact FE.o.drew⟩
     . have heb:((e:Int)==0)=false:=bN.2 (by omega)
       have hne:((e:Int) != 0)=true:=by rw[bne,bN.2 (by omega)];rfl
       have CA:=hD (show eD ns fs = .bad e p∧e≠0∧e<=99 from by
        rcases LL.o.2.2.2 with ⟨h1,_⟩|⟨h1,h2,h3⟩
        . exact absurd h1 he
        . exact⟨h3,h1,h2⟩)
       clear he;go_wp2_with fail
       have BE:Hd (Blk ((((((wr.setCell (T+1,()) Un).setCell (T+1,U1) Un).setCell (T+1,U2) Un).setCell (T+1,U3) Un).setCell (T+1,U4) Un).setCell (T+1,U5) Un) (T+1) 29 #[Un,Un,Un,Un,Un,Un]):=((((((RR.o.setCell 0 Un).setCell 1 Un).setCell 2 Un).setCell 3 Un).setCell 4 Un).setCell 5 Un);have FE:=hD (FF ((((((wr.setCell (T+1,()) Un).setCell (T+1,U1) Un).setCell (T+1,U2) Un).setCell (T+1,U3) Un).setCell (T+1,U4) Un).setCell (T+1,U5) Un) (Fr.six wr (T+1) Un Un Un Un Un Un));clear heb rlt;go_region_law (fail)
       all_goals
        clear r0 r1 r2 r3 r4 r5 z0 z1 z2 z3 z4 z5;generalize ((((((wr.setCell (T+1,()) Un).setCell (T+1,U1) Un).setCell (T+1,U2) Un).setCell (T+1,U3) Un).setCell (T+1,U4) Un).setCell (T+1,U5) Un)=wz at *;have z0:wz.cell? (T+1,0)=Un:=(BE.o.cell 0).trans rfl;have z1:wz.cell? (T+1,1)=Un:=(BE.o.cell 1).trans rfl;have z2:wz.cell? (T+1,2)=Un:=(BE.o.cell 2).trans rfl;have z3:wz.cell? (T+1,3)=Un:=(BE.o.cell 3).trans rfl;have z4:wz.cell? (T+1,4)=Un:=(BE.o.cell 4).trans rfl;have z5:wz.cell? (T+1,5)=Un:=(BE.o.cell 5).trans rfl;go_wp2
        refine bodyPost_ret (v:= .tuple #[.agg #[Un,Un,Un,Un,Un,Un],p,e]) (by simp[results,results31,go_sem,z0,z1,z2,z3,z4,z5]) rfl ⟨by rw[CA.o.1];exact⟨rfl,CA.o.2⟩,by first|exact FE.o|exact FE.o.drew⟩
end
def gZ {α:Type} (n:Nat) (r:CkR α):Prop:=match r with
 | .bad _ p=>p<n
 | .good _=>True
section
variable {α β:Type}{n:Nat}
theorem gZ.bind {r:CkR α}{f:α->CkR β} (h:gZ n r) (g:∀a,gZ n (f a)):gZ n (r.bind f):=by
 cases r with
 | bad e p=>exact h
 | good a=>exact g a
theorem gZ.map {r:CkR α}{f:α->β} (h:gZ n r):gZ n (r.map f):=by
 cases r with
 | bad e p=>exact h
 | good a=>trivial
theorem gZ.ite {c:Prop} [Decidable c] {r q:CkR α} (h:gZ n r) (g:gZ n q):gZ n (if c then r else q):=by
 split
 . exact h
 . exact g
end
section
variable {ns:List aF}{fs:List aG}{k x n:Nat}{s:CkS}{ex:Nat->CkS->CkR (Nat×CkS)}{bl:Nat->CkS->CkR CkS}
theorem qP (hx:x<n) (name:List UInt8):gZ n (aU x name s):=by
 unfold aU;cases dV s.vars name with
 | none=>exact hx
 | some v=>trivial
theorem aKn (hex:∀y s,gZ n (ex y s)):∀(l:List Nat) (s:CkS),gZ n (bF ex l s)
 | [],s=>trivial
 | a :: l,s=>by
  unfold bF;exact (hex _ _).bind λr=>(aKn hex l _).map
theorem aLk (hx:x<n) (hex:∀y s,gZ n (ex y s)) (nd:aF):gZ n (bB fs ex x nd s):=by
 have hc:gZ n (kV fs ex x nd s):=by
  unfold kV;cases findF fs nd.name with
  | none=>exact hx
  | some j=>exact (aKn hex _ _).bind λr=>gZ.ite hx (gZ.ite hx trivial)
 unfold bB;refine .ite trivial (.ite trivial (.ite trivial (.ite (qP hx _) (.ite hc (.ite ((qP hx _).bind λt=>(hex _ _).bind λr=> .ite trivial hx) (.ite ((hex _ _).bind λa=>(hex _ _).bind λb=> .ite hx trivial) ?_))))));exact (hex _ _).bind λr=> .ite (.ite trivial hx) (.ite (.ite trivial hx) (.ite (.ite trivial hx) (.ite trivial hx)))
theorem aJs (hn:0<ns.length):∀(f x:Nat) (s:CkS),gZ ns.length (eO ns fs k f x s)
 | 0,x,s=>hn
 | f+1,x,s=>by
  unfold eO;cases hx:ns[x]? with
  | none=>exact hn
  | some nd=>exact (aLk (gK hx) (λy s=>aJs hn f y s) nd).map
theorem aHb {st:Nat->CkS->CkR CkS} (hst:∀y s,gZ n (st y s)):∀(l:List Nat) (s:CkS),gZ n (dX st l s)
 | [],s=>trivial
 | a :: l,s=>by
  unfold dX;exact (hst _ _).bind λr=>aHb hst l _
theorem aQr (hx:x<n) (hex:∀y s,gZ n (ex y s)) (hbl:∀y s,gZ n (bl y s)) (nd:aF):gZ n (fI fs k ex bl x nd s):=by
 unfold fI aGg vV;refine .ite ?_ (.ite ?_ (.ite ?_ (.ite (hex _ _).map (.ite ?_ (.ite ?_ ?_)))))
 . exact (hex _ _).bind λr=> .ite hx (.ite hx (.ite hx trivial))
 . exact (qP hx _).bind λt=>(hex _ _).bind λr=> .ite trivial hx
 . exact (qP hx _).bind λt=>(hex _ _).bind λr=>(hex _ _).bind λq=> .ite trivial hx
 . exact (hex _ _).bind λr=> .ite trivial hx
 . exact .ite (.ite ((hex _ _).bind λr=> .ite trivial hx) trivial) hx
 . exact (hex _ _).bind λr=> .ite (aHb hbl _ _) hx
theorem block_lt (hn:0<ns.length):∀(f x:Nat) (s:CkS),gZ ns.length (eT ns fs k f x s)
 | 0,x,s=>hn
 | f+1,x,s=>by
  unfold eT;cases hx:ns[x]? with
  | none=>exact hn
  | some nd=>
   refine (aHb (λy s=>?_) _ _).map;cases hy:ns[y]? with
   | none=>exact hn
   | some na=>exact aQr (gK hy) (λy s=>aJs hn _ y s) (λy s=>block_lt hn f y s) na
theorem aIl {body:Nat} (hb:body<n):∀(l:List (List UInt8×Nat)) (vs:List bT),gZ n (iL body l vs)
 | [],vs=>trivial
 | p :: l,vs=>by
  unfold iL;exact .ite hb (aIl hb l _)
theorem aCi (hn:0<ns.length):∀(l:List aG) (k:Nat) (zs:List Nat) (s:CkS),(∀f∈l,f.body<ns.length)->gZ ns.length (iR ns fs k l zs s)
 | [],k,zs,s,_=>trivial
 | f :: l,k,zs,s,h=>by
  unfold iR gV;exact ((aIl (h f (List.mem_cons_self ..)) _ _).bind λvs=>block_lt hn _ _ _).bind λr=>aCi hn l _ _ _ (λg hg=>h g (List.mem_cons_of_mem _ hg))
theorem aBs:∀(l:List aG) (seen:List (List UInt8)) (b:Nat),(∀f∈l,f.body<n)->dN seen l=some b->b<n
 | [],seen,b,_,h=>by cases h
 | f :: l,seen,b,hb,h=>by
  unfold dN at h;split at h
  . injection h with h
    subst h;exact hb f (List.mem_cons_self ..)
  . exact aBs l _ b (λg hg=>hb g (List.mem_cons_of_mem _ hg)) h
end
theorem aQd (hok:nA ns fs):∀f∈fs,f.body<ns.length:=λf hf=>by
 obtain⟨c,hc,_⟩:=hok.bodies f hf;exact (gK hc)
theorem aCm (hok:nA ns fs){e:Nat} (h:eD ns fs = .bad e p) (he:e≠44):p<ns.length:=by
 have hb:=aQd hok;unfold eD jM at h;cases ht:dN [] fs with
 | some b=>
  rw[ht] at h;injection h with h1 h2;subst h2;exact aBs fs [] b hb ht
 | none=>
  rw[ht] at h;dsimp only at h;by_cases hm:fs.any iM=true
  . rw[if_pos hm] at h
    have hn:0<ns.length:=by
     obtain⟨f,hf,_⟩:=List.any_eq_true.1 hm;have:=hb f hf;omega
    have:=(aCi (fs:=fs) hn fs 0 [] (jV ns) hb).map (f:=λr=>(⟨ns,fs,r.2.types,r.2.slots,r.2.fn,r.1⟩:gB));rw[CkR.aC] at h;rw[h] at this;exact this
  . rw[if_neg hm] at h
    injection h with h1 h2;exact absurd h1.symm he
theorem uT {l:List UInt8}{er:Nat} (hr:parseM l=some (.bad p er)):1<=er:=by
 unfold parseM at hr;cases hl:wM l with
 | bad i k=>
  rw[hl] at hr;simp at hr
  have:=wL hl;omega
 | good ts=>
  rw[hl] at hr;simp only[qA,mS] at hr;obtain⟨q,hq,hr⟩:=hr;split at hr
  . injection hr with h1 h2
    omega
  . split at hr
    . injection hr with h1 h2
      omega
    . cases hr
end Go.Proofs.YtlbjicjinnnboaaGreatDoor
namespace Go.Proofs.YtlbjicjinnnboaaGreatDoor
open Go.RowKit Go.Proofs.Tryz
namespace Pw
variable {ns:List aF}{L x:Nat}
def LK (ns:List aF) (L x:Nat):Prop:=∃c,ns[x]?=some c∧L<=c.line
theorem LK.mono (h:LK ns L x) (y:List aF):LK (ns++y) L x:=by
 obtain⟨c,hc,hk⟩:=h;exact⟨c,by rw[List.getElem?_append_left (gK hc)];exact hc,hk⟩
theorem LK.ext {s t:PS} (h:LK s.nodes L x) (e:Ext s t):LK t.nodes L x:=by
 obtain⟨y,hy⟩:=e.nodes;rw[hy];exact h.mono y
theorem LK.le {M:Nat} (h:LK ns L x) (hm:M<=L):LK ns M x:=by
 obtain⟨c,hc,hk⟩:=h;exact⟨c,hc,Nat.le_trans hm hk⟩
def wZ (ns:List aF):Prop:=∀(i:Nat) (nd:aF),ns[i]?=some nd->∀x∈nd.l,LK ns nd.line x
theorem wZ.snoc {nd:aF} (h:wZ ns) (hn:∀x∈nd.l,LK ns nd.line x):wZ (ns++[nd]):=by
 intro i x hx;by_cases hi:i<ns.length
 . rw[List.getElem?_append_left hi] at hx
   exact λy hy=>(h i x hx y hy).mono _
 . rw[List.getElem?_append_right (by omega)] at hx
   by_cases he:i=ns.length
   . subst he
     rw[Nat.sub_self] at hx;simp at hx
     subst hx;exact λy hy=>(hn y hy).mono _
   . rw[List.getElem?_eq_none (by simp;omega)] at hx;cases hx
section
variable {src:List UInt8}{ts:List Tok}
end
end Pw
end Go.Proofs.YtlbjicjinnnboaaGreatDoor
namespace Go.Proofs.YtlbjicjinnnboaaGreatDoor
namespace Pw
open Go.RowKit Go.Proofs.Tryz
def aTf (ns:List aF) (x:Nat):Nat:=(ns.map λnd=>nd.l.count x).sum
section
variable {src:List UInt8}{ts:List Tok}
theorem jI {x:List UInt8}{s:PS} (h:(aA ts x s).e=0):s.e=0:=((Ext.refl s).must (ts:=ts) x).e0 h
theorem vU {n:Nat}{k:Task}{s:PS}{r:List Nat×PS} (h:run src ts n k s=some r) (he:r.2.e=0):s.e=0:=(aK _ _ _ _ h).e0 he
theorem wG (s:PS):(pUp s).nodes=s.nodes:=rfl
def aSr (fs:List aG) (x:Nat):Nat:=(fs.map (·.body)).count x
end
end Pw
namespace Pw
variable {st:List Nat}
inductive Pst:List aF->List Nat->Prop where
 | nil:Pst [] []
 | put (ns:List aF) (st:List Nat) (nd:aF) (h:Pst ns (st++nd.l)):Pst (ns++[nd]) (st++[ns.length])
theorem Pst.lt {ns:List aF} (h:Pst ns st):∀a∈st,a<ns.length:=by
 induction h with
 | nil=>intro a ha;cases ha
 | put ns st nd h ih=>
  intro a ha;rw[aA3,List.length_singleton];rcases List.mem_append.1 ha with ha|ha
  . have:=ih a (List.mem_append_left _ ha);omega
  . rw[List.mem_singleton.1 ha];omega
section
variable {src:List UInt8}{ts:List Tok}
theorem fC {s:PS}{k line n:Nat}{name:List UInt8}{l:List Nat} (h:Pst s.nodes (st++l)):Pst (bR k line n name l s).2.nodes (st++(bR k line n name l s).1):=Pst.put s.nodes st ⟨k,line,n,name,l⟩ h
theorem aOz:∀(n:Nat) (k:Task) (s:PS) (r:List Nat×PS),run src ts n k s=some r->r.2.e=0->∀st,Pst s.nodes (st++dY k)->Pst r.2.nodes (st++r.1):=by
 intro n;induction n with
 | zero=>intro k s r h;simp[run] at h
 | succ n ih=>
  intro k s r h he st hp;have ih2:∀{k:Task} {s:PS} {r:List Nat×PS} {ns:List aF} {st:List Nat},run src ts n k s=some r->r.2.e=0->s.nodes=ns->Pst ns (st++dY k)->Pst r.2.nodes (st++r.1):=λh1 h2 h3 h4=>by
   subst h3;exact ih _ _ _ h1 h2 _ h4
  have wD:∀(k line m:Nat) (name:List UInt8) (t:PS),t.nodes=s.nodes->Pst s.nodes st->Pst (bR k line m name [] t).2.nodes (st++(bR k line m name [] t).1):=λk line m name t h1 h2=>fC (by rw[h1,List.append_nil];exact h2)
  cases k with
  | atom=>
   simp only[run] at h;simp only[dY,List.append_nil] at hp;split at h
   . rename_i h0
     simp only[aA0] at h;subst h;exact absurd he h0
   . split at h
     . simp only[aA0] at h;subst h;exact wD _ _ _ _ (pGo s) rfl hp
     . split at h
       . simp only[aA0] at h;subst h;exact wD _ _ _ _ (pGo s) rfl hp
       . split at h
         . split at h
           . simp only[mS] at h
             obtain⟨q,hq,rfl⟩:=h;have c:=ih2 (st:=st) hq (jI (x:=[93]) (ts:=ts) he) (show _=s.nodes by rw[aB,dM];rfl) (by simpa[dY] using hp);exact fC (by rw[wG,aB];exact c)
           . simp only[aA0] at h;subst h;exact wD _ _ _ _ (pGo s) rfl hp
         . split at h
           . simp only[aA0] at h;subst h;exact wD _ _ _ _ (pGo s) rfl hp
           . split at h
             . simp only[aA0] at h;subst h;exact wD _ _ _ _ (pGo s) rfl hp
             . split at h
               . split at h
                 . simp only[mS] at h
                   obtain⟨q,hq,rfl⟩:=h;have c:=ih2 (st:=st) hq (jI (x:=[41]) (ts:=ts) he) (show _=s.nodes by rw[aB,dM];rfl) (by simpa[dY] using hp);exact fC (by rw[wG,aB];exact c)
                 . simp only[aA0] at h;subst h;exact (sW (by decide) he).elim
               . split at h
                 . simp only[mS] at h
                   obtain⟨q,hq,rfl⟩:=h;have c:=ih2 (st:=st) hq (jI (x:=[41]) (ts:=ts) he) (show _=s.nodes by rw[aB,dM]) (by simpa[dY] using hp)
                   show Pst (aA ts [41] q.2).nodes (st++q.1)
                   rw[aB];exact c
                 . simp only[aA0] at h;subst h;exact (sW (by decide) he).elim
  | factor=>
   simp only[run] at h;simp only[dY,List.append_nil] at hp;have go:∀{k},((run src ts n .factor (pGo (aX ts s))).map λr=>bR k (bJ src ts s) 0 [] r.1 (pUp r.2))=some r->Pst r.2.nodes (st++r.1):=λh=>by
     simp only[mS] at h;obtain⟨q,hq,rfl⟩:=h;have c:=ih2 (st:=st) hq he (show (aX ts s).nodes=s.nodes from dM s) (by simpa[dY] using hp);exact fC c
   split at h
   . exact go h
   . split at h
     . exact go h
     . exact ih _ _ _ h he st (by simpa[dY] using hp)
  | chain lv=>
   simp only[run] at h;simp only[dY,List.append_nil] at hp;split at h
   . exact ih _ _ _ h he st (by simpa[dY] using hp)
   . simp only[bS] at h
     obtain⟨q,hq,h⟩:=h;have hq1:=aJ _ _ _ _ hq trivial;have c:=ih2 (st:=st) hq (vU h he) rfl (by simpa[dY] using hp);rw[hq1] at c;exact ih _ _ _ h he st c
  | more lv line y=>
   simp only[run] at h;simp only[dY] at hp;split at h
   . simp only[aA0] at h;subst h;exact hp
   . simp only[bS] at h
     obtain⟨q,hq,h⟩:=h;have hq1:=aJ _ _ _ _ hq trivial;have key:q.2.e=0->Pst (bR 9 line 0 (fQ ts lv s) [y,q.1.headD 0] q.2).2.nodes (st++(bR 9 line 0 (fQ ts lv s) [y,q.1.headD 0] q.2).1):=λe1=>by
       have c:=ih2 (st:=st++[y]) hq e1 (show (pGo s).nodes=s.nodes from rfl) (by simpa[dY] using hp);rw[hq1,List.append_assoc] at c;exact fC c
     split at h
     . simp only[aA0] at h;subst h
       exact key he
     . have e5:=vU h he
       exact ih _ _ _ h he st (key e5)
  | args l=>
   simp only[run,bS] at h;simp only[dY] at hp;obtain⟨q,hq,h⟩:=h;have key:q.2.e=0->Pst q.2.nodes (st++(l++q.1)):=λe1=>by
     have c:=ih2 (st:=st++l) hq e1 rfl (by simpa[dY] using hp);rw[List.append_assoc] at c;exact c
   split at h
   . have e1:=vU h he
     exact ih _ _ _ h he st (key e1)
   . simp only[aA0] at h;subst h
     exact key he
  | call=>
   simp only[run,mS] at h;simp only[dY,List.append_nil] at hp;obtain⟨q,hq,rfl⟩:=h;have e1:q.2.e=0:=jI (x:=[41]) (ts:=ts) he;have hn:(aA ts [40] (aI ts s)).nodes=s.nodes:=by rw[aB,bZ]
   have key:Pst q.2.nodes (st++q.1):=by
     split at hq
     . exact ih2 hq e1 hn (by simpa[dY] using hp)
     . simp only[aA0] at hq;subst hq
       show Pst (aA ts [40] (aI ts s)).nodes (st++[])
       rw[hn,List.append_nil];exact hp
   exact fC (by rw[aB];exact key)
  | right=>
   simp only[run] at h;simp only[dY,List.append_nil] at hp;split at h
   . simp only[aA0] at h;subst h;exact wD _ _ _ _ (pGo s) rfl hp
   . split at h
     . simp only[mS] at h
       obtain⟨q,hq,rfl⟩:=h;have c:=ih2 (st:=st) hq (jI (x:=[41]) (ts:=ts) he) (show _=s.nodes by rw[aB];rfl) (by simpa[dY] using hp);exact fC (by rw[aB];exact c)
     . split at h<;>exact ih _ _ _ h he st (by simpa[dY] using hp)
  | block=>
   simp only[run] at h;simp only[dY,List.append_nil] at hp;split at h
   . simp only[mS] at h
     obtain⟨q,hq,rfl⟩:=h;have c:=ih2 (st:=st) hq (jI (x:=[125]) (ts:=ts) he) (show _=s.nodes by rw[aB,dM]) (by simpa[dY] using hp);exact fC (by rw[wG,aB];exact c)
   . simp only[aA0] at h;subst h;exact (sW (by decide) he).elim
  | stmts l=>
   simp only[run] at h;simp only[dY] at hp;split at h
   . rename_i h0
     simp only[aA0] at h;subst h;exact absurd he h0
   . split at h
     . simp only[aA0] at h;subst h;exact hp
     . simp only[bS] at h
       obtain⟨q,hq,h⟩:=h;have c:=ih2 (st:=st++l) hq (vU h he) rfl (by simpa[dY] using hp);rw[List.append_assoc] at c;exact ih _ _ _ h he st c
  | named line=>
   simp only[run] at h;simp only[dY,List.append_nil] at hp;split at h
   . simp only[mS] at h
     obtain⟨q,hq,rfl⟩:=h;have c:=ih2 (st:=st) hq (jI (x:=[59]) (ts:=ts) he) rfl (by simpa[dY] using hp);exact fC (by rw[aB];exact c)
   . split at h
     . simp only[mS,bS] at h
       obtain⟨q,hq,u,hu,rfl⟩:=h;have e2:u.2.e=0:=jI (x:=[59]) (ts:=ts) he;have e1:q.2.e=0:=jI (ts:=ts) (x:=[93]) (s:=q.2) (jI (ts:=ts) (x:=[61]) (s:=pUp (aA ts [93] q.2)) (vU hu e2));have c:=ih2 (st:=st) hq e1 (show _=s.nodes by rw[aB,dM,bZ]) (by simpa[dY] using hp);have g:=ih2 (st:=st++q.1) hu e2 (show (aA ts [61] (pUp (aA ts [93] q.2))).nodes=q.2.nodes by rw[aB];exact aB _ _) (by simpa[dY] using c);rw[List.append_assoc] at g;exact fC (by rw[aB];exact g)
     . simp only[mS] at h
       obtain⟨q,hq,rfl⟩:=h;have c:=ih2 (st:=st) hq (jI (x:=[59]) (ts:=ts) he) (show _=s.nodes by rw[aB,bZ]) (by simpa[dY] using hp);exact fC (by rw[aB];exact c)
  | stmt=>
   simp only[run] at h;simp only[dY,List.append_nil] at hp;split at h
   . simp only[mS] at h
     obtain⟨q,hq,rfl⟩:=h;have c:=ih2 (st:=st) hq (jI (x:=[59]) (ts:=ts) he) (show _=s.nodes by rw[aB,bZ];rfl) (by simpa[dY] using hp);exact fC (by rw[aB];exact c)
   . split at h
     . simp only[mS] at h
       obtain⟨q,hq,rfl⟩:=h;have c:=ih2 (st:=st) hq (jI (x:=[59]) (ts:=ts) he) (show (pGo s).nodes=s.nodes from rfl) (by simpa[dY] using hp);exact fC (by rw[aB];exact c)
     . split at h
       . simp only[mS,bS] at h
         obtain⟨q,hq,u,hu,rfl⟩:=h;have e1:q.2.e=0:=vU hu he;have c:=ih2 (st:=st) hq e1 (show (pGo s).nodes=s.nodes from rfl) (by simpa[dY] using hp);have g:=ih2 (st:=st++q.1) hu he rfl (by simpa[dY] using c);rw[List.append_assoc] at g;exact fC g
       . split at h
         . simp only[bS] at h
           obtain⟨q,hq,u,hu,h⟩:=h;split at h
           . simp only[mS] at h
             obtain⟨v,hv,rfl⟩:=h;have e2:u.2.e=0:=vU (s:=pGo u.2) hv he;have e1:q.2.e=0:=vU hu e2;have c:=ih2 (st:=st) hq e1 (show (pGo s).nodes=s.nodes from rfl) (by simpa[dY] using hp);have g:=ih2 (st:=st++q.1) hu e2 rfl (by simpa[dY] using c);have g2:=ih2 (st:=st++q.1++u.1) hv he (show (pGo u.2).nodes=u.2.nodes from rfl) (by simpa[dY] using g);exact fC (by rw[<-List.append_assoc,<-List.append_assoc];exact g2)
           . simp only[aA0] at h;subst h
             have e1:q.2.e=0:=vU hu he;have c:=ih2 (st:=st) hq e1 (show (pGo s).nodes=s.nodes from rfl) (by simpa[dY] using hp);have g:=ih2 (st:=st++q.1) hu he rfl (by simpa[dY] using c);exact fC (by rw[<-List.append_assoc];exact g)
         . split at h
           . split at h
             . simp only[aA0] at h;subst h
               exact wD 17 (bJ src ts s) 0 [] (aA ts [59] (pGo s)) (by rw[aB];rfl) hp
             . simp only[mS] at h
               obtain⟨q,hq,rfl⟩:=h;have c:=ih2 (st:=st) hq (jI (x:=[59]) (ts:=ts) he) (show (pGo s).nodes=s.nodes from rfl) (by simpa[dY] using hp);exact fC (by rw[aB];exact c)
           . exact ih _ _ _ h he st (by simpa[dY] using hp)
theorem aNa {n:Nat}{s:PS}{fs:aG×PS} (h:eY src ts n s=some fs) (he:fs.2.e=0) (hs:Pst s.nodes st):Pst fs.2.nodes (st++[fs.1.body]):=by
 simp only[eY,bS,mS] at h;obtain⟨p,hp,b,hb,rfl⟩:=h;have hn1:(aA ts [40] (aI ts (aA ts [102,110] s))).nodes=s.nodes:=by rw[aB,bZ,aB]
 have h2:p.2.nodes=s.nodes:=by
  split at hp
  . rw[lD _ _ _ _ hp,hn1]
  . simp only[aA0] at hp
    subst hp;exact hn1
 have hb1:=aJ _ _ _ _ hb trivial;have hn:(if pIs ts [123] (aA ts [41] p.2)=true then aA ts [41] p.2 else cO ts (aA ts [41] p.2)).nodes=s.nodes:=by
  split
  . rw[aB,h2]
  . rw[kP,aB,h2]
 have c:=aOz _ _ _ _ hb he st (by rw[hn];simpa[dY] using hs);rw[hb1] at c;exact c
theorem aJm:∀(n:Nat) (acc:List aG) (s:PS) (r:List aG×PS),dR src ts n acc s=some r->r.2.e=0->Pst s.nodes (acc.map (·.body))->Pst r.2.nodes (r.1.map (·.body))
 | 0,_,_,_,h,_,_=>by simp[dR] at h
 | n+1,acc,s,r,h,he,hs=>by
  simp only[dR] at h;split at h
  . simp only[aA0] at h;subst h;exact hs
  . split at h
    . simp only[aA0] at h;subst h;exact hs
    . simp only[bS] at h
      obtain⟨fs,hfs,h⟩:=h;refine aJm n _ _ _ h he ?_;rw[List.map_append];exact aNa hfs ((pI _ _ _ _ h).e0 he) hs
end
end Pw
namespace Pw
section
variable {src:List UInt8}{ts:List Tok}
end
theorem Pst.asc {ns:List aF}{st:List Nat} (h:Pst ns st):st.Pairwise (· < ·)∧∀(i:Nat) (nd:aF),ns[i]?=some nd->nd.l.Pairwise (· < ·):=by
 induction h with
 | nil=>exact⟨List.Pairwise.nil,λi nd h=>by simp at h⟩
 | put ns st nd h ih=>
  obtain⟨a,b⟩:=ih;obtain⟨a1,a2,a3⟩:=List.pairwise_append.1 a;refine⟨List.pairwise_append.2 ⟨a1,List.pairwise_singleton _ _,λx hx y hy=>?_⟩,λi x hx=>?_⟩
  . rw[List.mem_singleton.1 hy]
    exact h.lt x (List.mem_append_left _ hx)
  . by_cases hi:i<ns.length
    . rw[List.getElem?_append_left hi] at hx
      exact b i x hx
    . rw[List.getElem?_append_right (by omega)] at hx
      by_cases he:i=ns.length
      . subst he
        rw[Nat.sub_self] at hx;simp at hx
        subst hx;exact a2
      . rw[List.getElem?_eq_none (by simp;omega)] at hx;cases hx
structure Below (ns:List aF) (fs:List aG):Prop where
 ok:nA ns fs
 lines:wZ ns
 asc:∀(i:Nat) (nd:aF),ns[i]?=some nd->nd.l.Pairwise (· < ·)
 par:∀x,aTf ns x+aSr fs x=if x<ns.length then 1 else 0
end Pw
namespace Pw
inductive Seg (ns:List aF):Nat->List Nat->Nat->Prop where
 | nil (a:Nat):Seg ns a [] a
 | cons (a x:Nat) (l:List Nat) (b:Nat) (nd:aF) (hx:ns[x]?=some nd) (h:Seg ns a nd.l x) (h2:Seg ns (x+1) l b):Seg ns a (x :: l) b
section
variable {ns:List aF}{a b c:Nat}{l m:List Nat}
theorem Seg.le (h:Seg ns a l b):a<=b:=by
 induction h with
 | nil=>exact aA1 _
 | cons a x l b nd hx h h2 ih1 ih2=>omega
theorem Seg.ext (h:Seg ns a l b) (u:List aF):Seg (ns++u) a l b:=by
 induction h with
 | nil a=>exact .nil a
 | cons a x l b nd hx h h2 ih1 ih2=>exact .cons a x l b nd (by rw[List.getElem?_append_left (gK hx)];exact hx) ih1 ih2
theorem Seg.split:∀{l m:List Nat}{a b:Nat},Seg ns a (l++m) b->∃c,Seg ns a l c∧Seg ns c m b
 | [],m,a,b,h=>⟨a,.nil a,h⟩
 | x :: l,m,a,b,h=>by
  cases h with
  | cons _ _ _ _ nd hx h h2=>
   obtain⟨c,h3,h4⟩:=Seg.split h2;exact⟨c,.cons a x l c nd hx h h3,h4⟩
theorem Seg.app (h:Seg ns a l c) (h2:Seg ns c m b):Seg ns a (l++m) b:=by
 induction h with
 | nil a=>exact h2
 | cons a x l b nd hx h _ ih1 ih2=>exact .cons _ _ _ _ nd hx h (ih2 h2)
theorem Pst.seg {ns:List aF}{st:List Nat} (h:Pst ns st):Seg ns 0 st ns.length:=by
 induction h with
 | nil=>exact .nil 0
 | put ns st nd h ih=>
  obtain⟨c,h1,h2⟩:=ih.split;rw[aA3,List.length_singleton];exact (h1.ext _).app (.cons _ _ _ _ nd (by simp) (h2.ext _) (.nil _))
end
section
variable {src:List UInt8}{ts:List Tok}
theorem aGl {s:PS} (h:(cO ts s).e=0):1<=fT ts s:=by
 unfold cO at h;split at h
 . exact (sW (by decide) h).elim
 . omega
theorem uW:∀(n:Nat) (acc:List (List UInt8×Nat)) (s:PS) (p:List (List UInt8×Nat)×PS),aT ts n acc s=some p->p.2.e=0->(∀q∈acc,1<=q.2)->∀q∈p.1,1<=q.2
 | 0,_,_,_,h,_,_=>by simp[aT] at h
 | n+1,acc,s,p,h,he,ha=>by
  have h2:(cO ts (aI ts s)).e=0->∀q∈acc++[(dZ ts s,fT ts (aI ts s))],1<=q.2:=λh0 q hq=>by
    rcases List.mem_append.1 hq with hq|hq
    . exact ha q hq
    . rw[List.mem_singleton.1 hq];exact aGl h0
  simp only[aT] at h;split at h
  . exact uW n _ _ _ h he (h2 ((mF _ _ _ _ h).e0 he))
  . simp only[aA0] at h
    subst h;exact h2 he
theorem aNb {n:Nat}{s:PS}{fs:aG×PS} (h:eY src ts n s=some fs) (he:fs.2.e=0):∀p∈fs.1.params,1<=p.2:=by
 simp only[eY,bS,mS] at h;obtain⟨p,hp,b,hb,rfl⟩:=h;have h5:=(aK _ _ _ _ hb).e0 he;have h4:(aA ts [41] p.2).e=0:=by
   split at h5
   . exact h5
   . exact ((Ext.refl (aA ts [41] p.2)).typed (ts:=ts)).e0 h5
 have h3:p.2.e=0:=jI (x:=[41]) (ts:=ts) h4;split at hp
 . exact uW _ _ _ _ hp h3 (λq hq=>by cases hq)
 . simp only[aA0] at hp
   subst hp;exact λq hq=>by cases hq
theorem aJn:∀(n:Nat) (acc:List aG) (s:PS) (r:List aG×PS),dR src ts n acc s=some r->r.2.e=0->(∀f∈acc,∀p∈f.params,1<=p.2)->∀f∈r.1,∀p∈f.params,1<=p.2
 | 0,_,_,_,h,_,_=>by simp[dR] at h
 | n+1,acc,s,r,h,he,ha=>by
  simp only[dR] at h;split at h
  . simp only[aA0] at h;subst h;exact ha
  . split at h
    . simp only[aA0] at h;subst h;exact ha
    . simp only[bS] at h
      obtain⟨fs,hfs,h⟩:=h;refine aJn n _ _ _ h he (λf hf=>?_);rcases List.mem_append.1 hf with hf|hf
      . exact ha f hf
      . rw[List.mem_singleton.1 hf];exact aNb hfs ((pI _ _ _ _ h).e0 he)
end
theorem tH:∀(l:List Nat) (a n:Nat),l.Pairwise (· < ·)->(∀x∈l,a<=x∧x<n)->l.length<=n - a
 | [],_,_,_,_=>by simp
 | x :: l,a,n,h,hb=>by
  obtain⟨h1,h2⟩:=List.pairwise_cons.1 h;have:=tH l (x+1) n h2 (λy hy=>⟨h1 y hy,(hb y (List.mem_cons_of_mem _ hy)).2⟩);have:=hb x (List.mem_cons_self ..);rw[List.length_cons];omega
structure aCt (ns:List aF) (fs:List aG):Prop where
 ok:nA ns fs
 seg:Seg ns 0 (fs.map (·.body)) ns.length
 pos:∀f∈fs,∀p∈f.params,1<=p.2
 rows:∀nd∈ns,nd.l.length<=300
theorem aJf {ns:List aF}{nd:aF} (h:dW ns nd):∀a∈nd.l,a<ns.length:=by
 have kl:∀{ns:List aF} {cls:Nat->Bool} {x:Nat},Kid ns cls x->x<ns.length:=λh=>by
  obtain⟨c,hc,_⟩:=h;exact (gK hc)
 cases h<;>intro x hx<;>simp only[List.mem_cons,List.not_mem_nil,or_false] at hx
 all_goals first
  | exact hx.elim
  | (subst hx;exact kl (by assumption))
  | (rcases hx with hx|hx<;>subst hx<;>exact kl (by assumption))
  | (rcases hx with hx|hx|hx<;>subst hx<;>exact kl (by assumption))
  | (rename_i h1;exact kl (h1 x hx))
theorem wE {src:List UInt8}{ns:List aF}{fs:List aG} (h:parseM src=some (.good ns fs)):aCt ns fs:=by
 have h1:=aMg h;unfold parseM at h;cases hl:wM src with
 | bad p e=>rw[hl] at h;simp at h
 | good ts=>
  rw[hl] at h;simp only[qA,mS] at h;obtain⟨q,hq,h⟩:=h;split at h
  . cases h
  . rename_i h0
    have h0:q.2.e=0:=by simpa using h0
    split at h
    . cases h
    . injection h with e1 e2
      subst e1;subst e2;have hp:=aJm _ _ _ _ hq h0 Pst.nil;refine⟨h1,hp.seg,aJn _ _ _ _ hq h0 (λf hf=>by cases hf),λnd hnd=>?_⟩;obtain⟨i,hi,e⟩:=List.getElem_of_mem hnd;have hi2:q.2.nodes[i]?=some nd:=by rw[gE hi,e]
      exact tH nd.l 0 300 (hp.asc.2 i nd hi2) (λx hx=>⟨aA4 _,by
       have:=aJf (h1.nodes i nd hi2) x hx;rw[List.length_take] at this;have:=h1.few;omega⟩)
end Pw
end Go.Proofs.YtlbjicjinnnboaaGreatDoor
