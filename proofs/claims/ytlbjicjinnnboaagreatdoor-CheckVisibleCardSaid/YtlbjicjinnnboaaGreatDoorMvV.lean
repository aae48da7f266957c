/- MvV: laws and walks for CheckVisible. -/
import Derived.Test.YtlbjicjinnnboaaGreatDoorMvU
import Derived.Test.YtlbjicjinnnboaaGreatDoorMvL
import Derived.Test.YtlbjicjinnnboaaGreatDoorMvG
import Derived.Test.YtlbjicjinnnboaaGreatDoorMvQ
import Derived.Test.YtlbjicjinnnboaaGreatDoorMvA
import Derived.Deep.RegionHeld
import Derived.StillTail
import Derived.Test.YtlbjicjinnnboaaGreatDoorMvR
import Derived.Test.YtlbjicjinnnboaaGreatDoorMvH
import Derived.Deep.RegionLaw
import Derived.BigQuiet
import Derived.Laws.EntriesVeiled
import Derived.Test.YtlbjicjinnnboaaGreatDoorMvK
import Derived.StillTailTactics
import Derived.Test.YtlbjicjinnnboaaGreatDoorMvI
set_option maxHeartbeats 8000000
set_option maxRecDepth 100000
set_option linter.unusedVariables false
set_option linter.unusedSimpArgs false
namespace Go.Proofs.YtlbjicjinnnboaaGreatDoor
open Go.RowKit Go.Proofs.Tryz
open Pw
theorem aDi (src:ByteArray) (w:World) (hs:src.size<=281474976710656){r:fZ} (hr:jA src.data.toList=some r):
  Calls prog 14 #[src] w λen w'=>jP w' en r∧Fr nob w w':=by
 unfold jA at hr;rw[mS] at hr;obtain⟨r0,hr0,hr⟩:=hr;have HP:=hD (λw'=>aMi src w' hs hr0);have B0:=hD (Blk.new w 29 #[Un,Un,Un,Un,Un,Un]);have F0:Hd (Fr nob w (w.alloc (.cells #[Un,Un,Un,Un,Un,Un] 29))):=(Fr.refl _ w).alloc _;clear hs;cases r0 with
 | bad p er=>
  have he:er≠0:=by have:=uT hr0;omega
  have hr:fZ.bad p er=r:=hr;subst hr;have heb:((er:Int)==0)=false:=bN.2 (by omega);have hne:((er:Int) != 0)=true:=by rw[bne,heb];rfl
  have HE:=hD he;clear hr0 he;go_enter func14,ntmps14;go_wp2_with fail
  generalize w.alloc (.cells #[Un,Un,Un,Un,Un,Un] 29)=w1 at *;generalize hT:w.heap.size=T at *;have HT:=hD hT;clear hT;refine (HP w1).mono ?_;rintro en w2 ⟨hpa,hf⟩;have hpa:en = .returned (.tuple #[.agg #[Un,Un],p,er]):=hpa;subst hpa;have B2:=hD (B0.o.fr hf (λx=>x));have F2:=hD (F0.o.tr hf);clear hf;have B3:=hD ((B2.o.alloc (.cells #[Un,Un] 26)));have F3:=hD (F2.o.alloc (.cells #[Un,Un] 26));obtain⟨r0,r1,r2,r3,r4,r5,f0,f1,f2,f3,f4,f5⟩:=B3.o.sixth;have tn:¬T=w2.heap.size:=by have:=B2.o.lt;omega
  have B4:=hD (B3.o.uL (a':= Un) (b':= Un) (c':= Un) (d':= Un) (e':= Un) (f':= Un));have F4:=hD (uK (Nat.le_of_eq HT) F3 Un Un Un Un Un Un);go_wp2_with fail
  all_goals
   clear r0 r1 r2 r3 r4 r5 f0 f1 f2 f3 f4 f5;generalize ((((((w2.alloc (.cells #[Un,Un] 26)).setCell (T,()) Un).setCell (T,U1) Un).setCell (T,U2) Un).setCell (T,U3) Un).setCell (T,U4) Un).setCell (T,U5) Un=wz at *
  obtain⟨z0,z1,z2,z3,z4,z5,_⟩:=B4.o.sixth;go_wp2
  refine bodyPost_ret (v:= .tuple #[.agg #[Un,Un,Un,Un,Un,Un],p,er]) (by simp[results,results14,go_sem,z0,z1,z2,z3,z4,z5]) rfl ⟨⟨rfl,HE⟩,by first|exact F4.o|exact F4.o.drew⟩
 | good ns fs=>
  have TI:=wE hr0;have HR:=hD hr;have HC:=hD (λ(w':World) (NA FA:Option Addr) (NC FC:Nat) (lvs pvs:List Value) (ht:cZ 0 w' (.slice NA ns.length NC) (.slice FA fs.length FC) lvs pvs ns fs)=>yV ht TI.ok TI.rows);have HLT:=hD (λe p (h:eD ns fs = .bad e p)=>aCm TI.ok h);have hn3:(ns.length:Int)<=300:=by have:=TI.ok.few;omega
  clear hr0 hr TI;go_enter func14,ntmps14;go_wp2_with fail
  generalize w.alloc (.cells #[Un,Un,Un,Un,Un,Un] 29)=w1 at *;generalize hT:w.heap.size=T at *;have HT:=hD hT;clear hT;refine (HP w1).mono ?_;rintro en w2 ⟨⟨nv,fv,lvs,pvs,rfl,ht⟩,hf⟩;obtain⟨NA,NC,rfl,-,-⟩:=ht.nodes.cap;obtain⟨FA,FC,rfl,-,-⟩:=ht.fns.cap;have TT:=hD (ht.zero.no ((fR w2).alloc (.cells #[.slice NA ns.length NC,.slice FA fs.length FC] 26)));have B2:=hD ((B0.o.fr hf (λx=>x)).alloc (.cells #[.slice NA ns.length NC,.slice FA fs.length FC] 26));have F2:=hD ((F0.o.tr hf).alloc (.cells #[.slice NA ns.length NC,.slice FA fs.length FC] 26));have X2:=hD (Blk.new w2 26 #[.slice NA ns.length NC,.slice FA fs.length FC]);have tn:Hd (T<w2.heap.size):=(B0.o.fr hf (λx=>x)).lt;clear hf ht;go_wp2_with fail
  generalize w2.alloc (.cells #[.slice NA ns.length NC,.slice FA fs.length FC] 26)=w3 at *;generalize w2.heap.size=X at *;refine (HC w3 NA FA NC FC lvs pvs TT).mono ?_;rintro en w4 ⟨hck,hf⟩;have B4:=hD (B2.o.fr hf (λx=>x));have X4:=hD (X2.o.fr hf (λx=>x));have F4:=hD (F2.o.tr hf);have T4:=hD (TT.o.no hf);clear hf B2 X2 F2 TT;cases hc:eD ns fs with
  | bad e x=>
   rw[hc] at hck;obtain⟨he,he0,he9⟩:=hck;have he:en = .returned (.tuple #[.agg #[Un,Un,Un,Un,Un,Un],x,e]):=he;subst he;have B5:=hD (B4.o.alloc (.cells #[Un,Un,Un,Un,Un,Un] 29));have X5:=hD (X4.o.alloc (.cells #[Un,Un,Un,Un,Un,Un] 29));have F5:=hD (F4.o.alloc (.cells #[Un,Un,Un,Un,Un,Un] 29));have T5:=hD (T4.o.no ((fR w4).alloc (.cells #[Un,Un,Un,Un,Un,Un] 29)));have heb:((e:Int)==0)=false:=bN.2 (by omega);have hne:((e:Int) != 0)=true:=by rw[bne,heb];rfl
   have n1:¬T=w4.heap.size:=by have:=B4.o.lt;omega
   have n2:¬X=w4.heap.size:=by have:=X4.o.lt;omega
   have n3:¬T=X:=by have:=tn.o;omega
   have HE:=hD he0;obtain⟨r0,r1,r2,r3,r4,r5,f0,f1,f2,f3,f4,f5⟩:=B5.o.sixth;have B6:=hD (B5.o.uL (a':= Un) (b':= Un) (c':= Un) (d':= Un) (e':= Un) (f':= Un));have F6:=hD (uK (Nat.le_of_eq HT) F5 Un Un Un Un Un Un);by_cases h44:e=44
   . subst h44
     have HS:=hD (show fZ.bad 0 44=r from by have:=HR.o;simp only[hc] at this;exact this);clear hc he0 he9 heb hne;go_wp2_with fail
     all_goals
      clear r0 r1 r2 r3 r4 r5 f0 f1 f2 f3 f4 f5;generalize ((((((w4.alloc (.cells #[Un,Un,Un,Un,Un,Un] 29)).setCell (T,()) Un).setCell (T,U1) Un).setCell (T,U2) Un).setCell (T,U3) Un).setCell (T,U4) Un).setCell (T,U5) Un=wz at *
     obtain⟨z0,z1,z2,z3,z4,z5,_⟩:=B6.o.sixth;go_wp2
     refine bodyPost_ret (v:= .tuple #[.agg #[Un,Un,Un,Un,Un,Un],U0,(44:Int)]) (by simp[results,results14,go_sem,z0,z1,z2,z3,z4,z5]) rfl ⟨by rw[<-HS.o];exact⟨rfl,by decide⟩,by first|exact F6.o|exact F6.o.drew⟩
   . have hx:=HLT.o e x hc h44
     obtain⟨nd,hnd⟩:∃nd,ns[x]?=some nd:=⟨_,gE hx⟩;have HS:=hD (show fZ.bad nd.line e=r from by have:=HR.o;simp only[hc,if_neg h44,hnd] at this;exact this);have hx2:(x:Int)<(ns.length:Int):=by omega
     have h4b:((e:Int)==44)=false:=bN.2 (by omega);obtain⟨nb,nc,lv,e',-,-,-,y1,-⟩:=T5.o.node hnd;injection e' with e1 e2 e3;subst e1;have n4:¬nb=T:=λe=>by
      have h1:=T5.o.nodes.aD B5 (by decide);rw[aQ (by omega) T5.o.nodes.oH.1,e] at h1;exact h1 rfl
     have x0:=(X5.o.cell 0).trans rfl;clear hc he0 he9 hnd hx h44 e2 e3;go_wp2_with fail
     go_region_law (fail)
     all_goals
      clear r0 r1 r2 r3 r4 r5 f0 f1 f2 f3 f4 f5;generalize ((((((w4.alloc (.cells #[Un,Un,Un,Un,Un,Un] 29)).setCell (T,()) Un).setCell (T,U1) Un).setCell (T,U2) Un).setCell (T,U3) Un).setCell (T,U4) Un).setCell (T,U5) Un=wz at *;obtain⟨z0,z1,z2,z3,z4,z5,_⟩:=B6.o.sixth;go_wp2
      refine bodyPost_ret (v:= .tuple #[.agg #[Un,Un,Un,Un,Un,Un],nd.line,e]) (by simp[results,results14,go_sem,z0,z1,z2,z3,z4,z5]) rfl ⟨by rw[<-HS.o];exact⟨rfl,HE⟩,by first|exact F6.o|exact F6.o.drew⟩
  | good p=>
   rw[hc] at hck;obtain⟨tv,sv,uv,zv,rfl,hp⟩:=hck;have HS:=hD (show fZ.good p=r from by have:=HR.o;simp only[hc] at this;exact this);obtain⟨TA,TC,rfl,-,-⟩:=hp.types.cap;obtain⟨SA,SC,rfl,-,-⟩:=hp.slots.cap;obtain⟨UA,UC,rfl,-,-⟩:=hp.fn.cap;obtain⟨ZA,ZC,rfl,-,-⟩:=hp.sizes.cap;generalize hl1:p.types.length=l1 at *;generalize hl2:p.slots.length=l2 at *;generalize hl3:p.fn.length=l3 at *;generalize hl4:p.sizes.length=l4 at *;have B5:=hD (B4.o.alloc (.cells #[.slice NA ns.length NC,.slice FA fs.length FC,.slice TA l1 TC,.slice SA l2 SC,.slice UA l3 UC,.slice ZA l4 ZC] 29));have F5:=hD (F4.o.alloc (.cells #[.slice NA ns.length NC,.slice FA fs.length FC,.slice TA l1 TC,.slice SA l2 SC,.slice UA l3 UC,.slice ZA l4 ZC] 29));have P5:=hD (hp.no ((fR w4).alloc (.cells #[.slice NA ns.length NC,.slice FA fs.length FC,.slice TA l1 TC,.slice SA l2 SC,.slice UA l3 UC,.slice ZA l4 ZC] 29)));have n1:¬T=w4.heap.size:=by have:=B4.o.lt;omega
   obtain⟨r0,r1,r2,r3,r4,r5,f0,f1,f2,f3,f4,f5⟩:=B5.o.sixth;have B6:=hD (B5.o.uL (a':= .slice NA ns.length NC) (b':= .slice FA fs.length FC) (c':= .slice TA l1 TC) (d':= .slice SA l2 SC) (e':= .slice UA l3 UC) (f':= .slice ZA l4 ZC));have F6:=hD (uK (Nat.le_of_eq HT) F5 (.slice NA ns.length NC) (.slice FA fs.length FC) (.slice TA l1 TC) (.slice SA l2 SC) (.slice UA l3 UC) (.slice ZA l4 ZC));have P6:=hD (P5.o.aSc B5 (Fr.six (w4.alloc (.cells #[.slice NA ns.length NC,.slice FA fs.length FC,.slice TA l1 TC,.slice SA l2 SC,.slice UA l3 UC,.slice ZA l4 ZC] 29)) T (.slice NA ns.length NC) (.slice FA fs.length FC) (.slice TA l1 TC) (.slice SA l2 SC) (.slice UA l3 UC) (.slice ZA l4 ZC)));clear hc hp hl1 hl2 hl3 hl4;go_wp2_with fail
   all_goals
     clear r0 r1 r2 r3 r4 r5 f0 f1 f2 f3 f4 f5;generalize ((((((w4.alloc (.cells #[.slice NA ns.length NC,.slice FA fs.length FC,.slice TA l1 TC,.slice SA l2 SC,.slice UA l3 UC,.slice ZA l4 ZC] 29)).setCell (T,()) (.slice NA ns.length NC)).setCell (T,U1) (.slice FA fs.length FC)).setCell (T,U2) (.slice TA l1 TC)).setCell (T,U3) (.slice SA l2 SC)).setCell (T,U4) (.slice UA l3 UC)).setCell (T,U5) (.slice ZA l4 ZC)=wz at *
   obtain⟨z0,z1,z2,z3,z4,z5,_⟩:=B6.o.sixth;go_wp2
   refine bodyPost_ret (v:= .tuple #[.agg #[.slice NA ns.length NC,.slice FA fs.length FC,.slice TA l1 TC,.slice SA l2 SC,.slice UA l3 UC,.slice ZA l4 ZC],U0,U0]) (by simp[results,results14,go_sem,z0,z1,z2,z3,z4,z5]) rfl ⟨by rw[<-HS.o];exact⟨_,_,_,_,_,_,_,_,rfl,by first|exact P6.o|exact P6.o.no ((fR _).drew)⟩,by first|exact F6.o|exact F6.o.drew⟩
end Go.Proofs.YtlbjicjinnnboaaGreatDoor
namespace Go.Proofs.YtlbjicjinnnboaaGreatDoor
open Go
variable {L i:Nat}{listed:Array Bool}{a:Act}{w:World}
section
variable {P:Program}{ops:Array Oper}{Q:Exit->Act->World->Prop}{md:Region.Mode}{S:World->Prop}
def aKk (md:Region.Mode) (ops:Array Oper):Bool:=
 (List.range ops.size).all λj=>((ops[j]?).map λo=>o.after.all λe=> !Region.binds md e || decide (e.on<j)).getD true
theorem mP (h:aKk md ops=true){j:Nat}{o:Oper} (ho:ops[j]?=some o):∀e∈o.after,Region.binds md e=true->e.on<j:=by
 intro e he hb;have hj:j<ops.size:=(Array.getElem?_eq_some_iff.1 ho).1;have h1:=List.all_eq_true.1 h j (List.mem_range.2 hj);rw[ho] at h1;simp only[Option.map_some,Option.getD_some] at h1;have h2:=Array.all_eq_true_iff_forall_mem.1 h1 e he;rw[hb] at h2;simpa using h2
def lastB (md:Region.Mode) (ops:Array Oper) (L:Nat):Bool:=decide (L+1=ops.size) && aKk md ops && Region.sinkB md ops L
structure aLa (md:Region.Mode) (ops:Array Oper) (L:Nat) (listed:Array Bool):Prop where
 size:listed.size=ops.size
 closed:∀j oj,ops[j]?=some oj->listed.getD j false=true->∀e∈oj.after,Region.binds md e=true->listed.getD e.on false=true
 last:listed.getD L true=false
def aMr (P:Program) (ops:Array Oper) (Q:Exit->Act->World->Prop) (L:Nat):Exit->Act->World->Prop
 | .normal,a,w=>wpOp P ops Q L (λa w=>Q .normal a w) a w
 | e,a,w=>Q e a w
theorem yM (hi:i<listed.size) (h:listed.getD i true=true):listed.getD i false=true:=by
 simp[hi] at h ⊢;exact h
theorem aLa.full (hs:Region.sinkB md ops L=true) (hL:L+1=ops.size) (inv:aLa md ops L listed) (hr:L∈Region.ready md ops listed):∀k i,i+k=L->0<k->listed.getD i false=true:=by
 intro k;induction k using Nat.strongRecOn with
 | ind k ih=>
  intro i hik hk;have h1:=List.all_eq_true.1 hs i (List.mem_range.2 (by omega));obtain⟨j,hj,hw⟩:=List.any_eq_true.1 h1;rw[List.mem_range] at hj;simp only[Bool.and_eq_true,decide_eq_true_eq] at hw;obtain⟨oj,hoj,e,he,hb,rfl⟩:=Region.waitsFor_spec hw.2;by_cases hjL:j=L
  . subst hjL
    obtain⟨_,o,ho,hall⟩:=mem_ready.1 hr;rw[hoj] at ho;injection ho with ho;subst ho;exact hall e he hb
  . exact inv.closed j oj hoj (ih (L - j) (by omega) j (by omega) (by omega)) e he hb
theorem aLa.set (inv:aLa md ops L listed) (hi:i∈Region.ready md ops listed) (hiL:i≠L):aLa md ops L (listed.setIfInBounds i true):=by
 obtain⟨_,oi,hoi,hall⟩:=mem_ready.1 hi;refine⟨by simp[inv.size],λj oj hj hl e he hb=>?_,by rw[getD_set_ne true hiL];exact inv.last⟩;have up:∀m,listed.getD m false=true->(listed.setIfInBounds i true).getD m false=true:=λm hm=>by
   by_cases h:i=m
   . subst h
     have:i<listed.size:=by
      rcases Nat.lt_or_ge i listed.size with h'|h'
      . exact h'
      . simp[Array.getElem?_eq_none h'] at hm
     simp[this]
   . rw[getD_set_ne false h];exact hm
 by_cases hij:i=j
 . subst hij
   have:oj=oi:=Option.some.inj (hj.symm.trans hoi);subst this;exact up _ (hall e he hb)
 . rw[getD_set_ne false hij] at hl
   exact up _ (inv.closed j oj hj hl e he hb)
theorem uQ (hb:aKk md ops=true) (hL:L+1=ops.size) (inv:aLa md ops L listed) (hiL:i≠L) (h:i∈Region.ready md ops listed):i∈Region.ready md ops (listed.setIfInBounds L true):=by
 obtain⟨h0,o,ho,hall⟩:=mem_ready.1 h;have hlt:i<ops.size:=(Array.getElem?_eq_some_iff.1 ho).1;refine mem_ready.2 ⟨by rw[getD_set_ne true (Ne.symm hiL)];exact h0,o,ho,λe he hbe=>?_⟩;have:=mP hb ho e he hbe;rw[getD_set_ne false (by omega)];exact hall e he hbe
theorem aDt (hb:aKk md ops=true) (hL:L+1=ops.size) (inv:aLa md ops L listed) (h:i∈Region.ready md ops (listed.setIfInBounds L true)):i≠L∧i∈Region.ready md ops listed:=by
 obtain⟨h0,o,ho,hall⟩:=mem_ready.1 h;have hlt:i<ops.size:=(Array.getElem?_eq_some_iff.1 ho).1;have hiL:i≠L:=λe=>by
  subst e;have:=inv.size;simp[show i<listed.size by omega] at h0
 refine⟨hiL,mem_ready.2 ⟨by rw[getD_set_ne true (Ne.symm hiL)] at h0;exact h0,o,ho,λe he hbe=>?_⟩⟩;have:=mP hb ho e he hbe;have h2:=hall e he hbe;rw[getD_set_ne false (by omega)] at h2;exact h2
theorem uP (hb:aKk md ops=true) (hL:L+1=ops.size) (inv:aLa md ops L listed):Region.ready md ops listed≠[]:=by
 intro h;have key:∀k,k<ops.size->listed.getD k false=true:=by
  intro k;induction k using Nat.strongRecOn with
  | ind k ih=>
   intro hk;cases hc:listed.getD k true with
   | true=>exact yM (by have:=inv.size;omega) hc
   | false=>
    obtain⟨o,ho⟩:∃o,ops[k]?=some o:=⟨_,Array.getElem?_eq_getElem hk⟩;have:k∈Region.ready md ops listed:=mem_ready.2 ⟨hc,o,ho,λe he hbe=>ih e.on (mP hb ho e he hbe) (by have:=mP hb ho e he hbe;omega)⟩;rw[h] at this;cases this
 have h1:=key L (by omega);have h2:=inv.last;have:=inv.size;simp[show L<listed.size by omega] at h1 h2
 rw[h1] at h2;cases h2
theorem aCx {K:Act->World->Prop} (h:wpOp P ops (aMr P ops Q L) i K a w):wpOp P ops Q i K a w:=by
 unfold wpOp at *;split
 . rename_i ho;simpa[ho] using h
 . rename_i o ho
   simp only[ho] at h;split
   . rename_i hw
     simp only[hw,if_true] at h;refine h.imp (λh=>?_) (λh=>h);unfold Oper.wp at *;generalize (execOp a.eval o).run P w=r at *;cases r with
     | ok n w'=>
      cases n<;>simp only[Oper.upon] at h ⊢ <;>first
       | exact h
       | exact Calls.mono h (λe w'' he=>by cases e<;>exact he)
     | halt x w'=>cases x<;>simp only[Oper.upon] at h ⊢ <;>exact h
   . rename_i hw;simpa[hw] using h
theorem aCy (hB:lastB md ops L=true):∀(fuel:Nat) (listed:Array Bool) (a:Act) (w:World),aLa md ops L listed ->
  wpAny P md ops (aMr P ops Q L) fuel (listed.setIfInBounds L true) a w->wpAny P md ops Q (fuel+1) listed a w:=by
 simp only[lastB,Bool.and_eq_true,decide_eq_true_eq] at hB;obtain⟨⟨hL,hb⟩,hs⟩:=hB;intro fuel;induction fuel with
 | zero=>
  intro listed a w inv H;refine⟨λh=>absurd h (uP hb hL inv),λi hi=>?_⟩;by_cases hiL:i=L
  . subst hiL
    exact wpOp_mono (λa' w' hq=>⟨H.1,hq⟩) H.2
  . have:=uQ hb hL inv hiL hi
    rw[H.1] at this;cases this
 | succ fuel ih=>
  intro listed a w inv H;refine⟨λh=>absurd h (uP hb hL inv),λi hi=>?_⟩;by_cases hiL:i=L
  . subst hiL
    have full:=inv.full hs hL hi;have hnone:Region.ready md ops (listed.setIfInBounds i true)=[]:=by
     rw[List.eq_nil_iff_forall_not_mem];intro j hj;obtain⟨hji,hjr⟩:=aDt hb hL inv hj;obtain⟨h0,o,ho,_⟩:=mem_ready.1 hjr;have hlt:j<ops.size:=(Array.getElem?_eq_some_iff.1 ho).1;have h1:=full (i - j) j (by omega) (by omega);have:=inv.size;simp[show j<listed.size by omega] at h0 h1
     rw[h0] at h1;cases h1
    exact wpOp_mono (λa' w' hq=>⟨λ_=>hq,by rw[hnone];simp⟩) (H.1 hnone)
  . have h1:=aCx (H.2 i (uQ hb hL inv hiL hi))
    refine wpOp_mono (λa' w' h2=>ih _ a' w' (inv.set hi hiL) ?_) h1;rw[Array.setIfInBounds_comm _ _ hiL];exact h2
theorem mV {id:Nat} (S:World->Prop) (L:Nat) (hm:P.follows .mixedOrders=true) (hB:lastB .any ops L=true) (hS:S w.drew)
  (h:S w.drew->wpAnyH P .any ops (aMr P ops Q L) S L ((Array.replicate ops.size false).setIfInBounds L true) a w.drew):(Code.region id ops true).wp P Q a w:=by
 have hL:L+1=ops.size:=by
  simp only[lastB,Bool.and_eq_true,decide_eq_true_eq] at hB;exact hB.1.1
 refine wp_region_any hm ?_;have inv:aLa .any ops L (Array.replicate ops.size false):=⟨by simp,λj oj hj hl=>by
  exfalso
  have hlt:j<ops.size:=(Array.getElem?_eq_some_iff.1 hj).1;simp[hlt] at hl,by simp[show L<ops.size by omega]⟩
 have:=aCy hB L _ a w.drew inv (wpAny_of_held _ _ _ _ (h hS));rw[hL] at this;exact this
theorem vB {o:Oper} (ho:ops[L]?=some o)
 (h:∀K:Act->World->Prop,(∀a w,Q .normal a w->K a w)->if Region.wanted o (yielded ops a.tmps)=true then Oper.wp P o a w K Q else K (a.put o.dst undef) w):aMr P ops Q L .normal a w:=wpOp_step ho h
end
end Go.Proofs.YtlbjicjinnnboaaGreatDoor
namespace Go.Proofs.YtlbjicjinnnboaaGreatDoor
open Go.RowKit Go.Proofs.Tryz
open Pw
variable {l:List Nat}{rec:Nat->List bT->Bool×List bT}{y c line:Nat}{w:World}{A:Option Addr}
def VX (w:World) (L:List (Nat×Nat×Value)):Prop:=∀x∈L,w.cell? (x.1,x.2.1)=some x.2.2
theorem VX.up {w':World}{L:List (Nat×Nat×Value)}{B:Nat} (h:VX w L) (hB:w.heap.size<=B) (f:Fr (λb=>B<=b) w w'):VX w' L:=λx hx=>by
 have h1:=h x hx;have h2:x.1<w.heap.size:=World.block_lt_of_cell? _ _ h1;exact (f.cell (p:=(x.1,x.2.1)) h2 (λhb=>by have hb:B<=x.1:=hb;omega)).trans h1
def vxL (nb fb tb sb ub kb ab mb kc ac mc pc:Nat) (pa:Option Addr):List (Nat×Nat×Value):=
 [(nb,20,.int .i64 18),(nb,21,.int .i64 1),(nb,22,.int .i64 0),(nb,23,.string (bs [])),(nb,24,.slice (some (kb,())) 2 kc),(kb,0,.int .i64 1),(kb,1,.int .i64 3),
  (nb,5,.int .i64 10),(nb,6,.int .i64 1),(nb,7,.int .i64 0),(nb,8,.string (bs [97])),(nb,9,.slice (some (ab,())) 1 ac),(ab,0,.int .i64 0),
  (nb,15,.int .i64 14),(nb,16,.int .i64 1),(nb,17,.int .i64 0),(nb,18,.string (bs [])),(nb,19,.slice (some (mb,())) 1 mc),(tb,0,.int .i64 1),(sb,1,.int .i64 0),
  (fb,0,.string (bs [109,97,105,110])),(fb,1,.int .i64 1),(fb,2,.slice pa 0 pc),(fb,3,.int .i64 0),(fb,4,.int .i64 4),(ub,3,.int .i64 0)]
section
variable {w0 w:World}{nb fb tb sb ub zb kb ab mb nc fc tc sc uc zc kc ac mc pc V P N FN:Nat}{pa:Option Addr}
theorem aOq (X:VX w0 (vxL nb fb tb sb ub kb ab mb kc ac mc pc pa)) (f0:Fr nob w0 w) (hV:w0.heap.size<=V) (hk:2<=kc) (ha:1<=ac) (bV:Blk w V 58 #[Un])
  (bP:Blk w P 29 #[(nb,5,nc),(fb,1,fc),(tb,5,tc),(sb,5,sc),(ub,5,uc),(zb,1,zc)]) (jN:Blk w N 3 #[U3]):
  Calls prog 63 #[U4,(V,()),(P,()),(N,()),(FN,())] w λen w'=>en = .returned true∧∃A c,w'.cell? (V,0)=some (.slice A 1 c)∧Fr (λb=>w0.heap.size<=b) w0 w':=by
 have HX:=hD X;have F0:Hd (Fr (λb=>w0.heap.size<=b) w0 w):=f0.aGf;have BV:=hD bV;have BP:=hD bP;have BN:=hD jN;have HV:=hD hV;have x:=X.up (aA1 _) F0.o;simp only[VX,vxL,List.mem_cons,List.not_mem_nil,or_false,forall_eq_or_imp,forall_eq] at x;obtain⟨x20,x21,x22,x23,x24,xk0,xk1,-⟩:=x;have p0:=(bP.cell 0).trans rfl;have v0:=(bV.cell 0).trans rfl;clear X f0 bV bP jN hV;go_enter func63,ntmps63;go_wp2
 clear x20 x21 x22 x23 x24 xk0 xk1 p0 v0;go_loopw [21] (λi wr=>∃j:Nat,i = .int .i64 j∧Hd (Fr (bY V) w wr)∧Hd ((j=0∧Blk wr V 58 #[Un])∨(j=1∧∃A c,Blk wr V 58 #[.slice A 1 c]))) (λi _=>2 - (intOf i).toNat)
 case atStart=>exact⟨0,rfl,hD (Fr.refl _ w),hD (.inl ⟨rfl,BV⟩)⟩
 case round=>
  obtain⟨j,rfl,FR,HJ⟩:=hrel;have x:=HX.o.up (aA1 _) (F0.o.trans FR (λ_ _ h=>h) (λ_ _ h=>by rw[show _=V from h];exact HV));simp only[VX,vxL,List.mem_cons,List.not_mem_nil,or_false,forall_eq_or_imp,forall_eq] at x;obtain⟨x20,x21,x22,x23,x24,xk0,xk1,x5,x6,x7,x8,x9,xa,x15,x16,x17,x18,x19,xt,xs,-⟩:=x;have BPr:=hD (BP.o.fr FR (λh=>BP.o.ne BV (by decide) h));have BNr:=hD (BN.o.fr FR (λh=>BN.o.ne BV (by decide) h));obtain⟨p0,p1,p2,p3,-⟩:=BPr.o.sixth;have n0:=(BNr.o.cell 0).trans rfl;rcases HJ.o with ⟨rfl,hb⟩|⟨rfl,A,c,hb⟩
  . have v0:=(hb.cell 0).trans rfl
    have O1:Obj:= .cells #[.int .i64 10,.int .i64 1,.int .i64 0,.string (bs [97]),.slice (some ⟨ab,0,none⟩) 1 ac] 50;have BT:=hD (Blk.new wr 50 #[.int .i64 10,.int .i64 1,.int .i64 0,.string (bs [97]),.slice (some ⟨ab,0,none⟩) 1 ac]);have FA:=hD ((fR wr).alloc (.cells #[.int .i64 10,.int .i64 1,.int .i64 0,.string (bs [97]),.slice (some ⟨ab,0,none⟩) 1 ac] 50));have HB:=hD hb;have FL:=hD (F0.o.trans FR (M:=λb=>w0.heap.size<=b) (λ_ _ h=>h) (λ_ _ h=>by rw[show _=V from h];exact HV));clear O1 hb x15 x16 x17 x18 x19;go_upto_region 6 with fail;clear x20 x21 x22 x23 x24 xk0 xk1 x5 x6 x7 x8 x9 xa xt xs p0 p1 p2 p3 n0 v0;generalize wr.alloc (.cells #[.int .i64 10,.int .i64 1,.int .i64 0,.string (bs [97]),.slice (some ⟨ab,0,none⟩) 1 ac] 50)=w6 at *;generalize wr.heap.size=T at *;have t0:=(BT.o.cell 0).trans rfl;have n0:=((BNr.o.fr FA (λx=>x)).cell 0).trans rfl;go_upto_region 9 with fail;have x:=HX.o.up (aA1 _) (FL.o.trans FA (M:=λb=>w0.heap.size<=b) (λ_ _ h=>h) (λ_ _ h=>h.elim));simp only[VX,vxL,List.mem_cons,List.not_mem_nil,or_false,forall_eq_or_imp,forall_eq] at x;obtain⟨-,-,-,-,-,-,-,-,-,-,-,-,xa,-,-,-,-,-,xt,xs,-⟩:=x;have B6:=hD (HB.o.fr FA (λx=>x));obtain⟨p0,p1,p2,p3,-⟩:=(BPr.o.fr FA (λx=>x)).sixth;have t3:=(BT.o.cell 3).trans rfl;have t4:=(BT.o.cell 4).trans rfl;have v0:=(B6.o.cell 0).trans rfl;have HK:=hD (show ∀w',Fr nob w6 w'->(λw'=>w'.cell? ⟨V,0,none⟩=some (.slice none 0 0)∧w'.cell? ⟨T,3,none⟩=some (.string (bs [97]))∧w'.cell? ⟨T,4,none⟩=some (.slice (some ⟨ab,0,none⟩) 1 ac)∧w'.cell? ⟨P,2,none⟩=some (.slice (some ⟨tb,0,none⟩) 5 tc)∧w'.cell? ⟨P,3,none⟩=some (.slice (some ⟨sb,0,none⟩) 5 sc)∧w'.cell? ⟨ab,0,none⟩=some (.int .i64 0)∧w'.cell? ⟨tb,0,none⟩=some (.int .i64 1)∧w'.cell? ⟨sb,1,none⟩=some (.int .i64 0)) w' from λw' f=>by
     have c:∀{b o:Nat} {v:Value},w6.cell? (b,o)=some v->w'.cell? (b,o)=some v:=λh=>(f.cell (World.block_lt_of_cell? _ _ h) (λx=>x)).trans h
     exact⟨c v0,c t3,c t4,c p2,c p3,c xa,c xt,c xs⟩)
    have HR:=hD (Rd.eZ (n:=1) (size:=3) (cs:=[bs [97],U1,U0]) ((Blk.new w6 62 [.string (bs [97]),.int .i64 1,.int .i64 0].toArray).fr ((fR _).drew) (λx=>x)) rfl (by decide));have KK:=hD (HK _ (Fr.refl _ w6).drew);have FW:Hd (Fr nob wr w6):=FA;go_wp2_with fail
    refine mV (λw'=>w'.cell? ⟨V,0,none⟩=some (.slice none 0 0)∧w'.cell? ⟨T,3,none⟩=some (.string (bs [97]))∧w'.cell? ⟨T,4,none⟩=some (.slice (some ⟨ab,0,none⟩) 1 ac)∧w'.cell? ⟨P,2,none⟩=some (.slice (some ⟨tb,0,none⟩) 5 tc)∧w'.cell? ⟨P,3,none⟩=some (.slice (some ⟨sb,0,none⟩) 5 sc)∧w'.cell? ⟨ab,0,none⟩=some (.int .i64 0)∧w'.cell? ⟨tb,0,none⟩=some (.int .i64 1)∧w'.cell? ⟨sb,1,none⟩=some (.int .i64 0)) 19 (by kernel_rfl) (by kernel_rfl) KK (λhHeld=>?_);clear t0 n0 xa xt xs p0 p1 p2 p3 t3 t4 v0;refine wpAnyH_take (i:=0) (v:=?_) rfl (by kernel_rfl) (by kernel_rfl) (by kernel_rfl) (λ_ _ _ h=>h) (Or.inl ⟨by rfl,?_⟩) (by assumption) ?_
    case refine_2=>(intro w hSw;(try dsimp only at hSw);go_simp;(try with_reducible rfl))
    simp only[Act.put,List.setIfInBounds_toArray,List.set_cons_zero,List.set_cons_succ];refine wpAnyH_take (i:=1) (v:=?_) rfl (by kernel_rfl) (by kernel_rfl) (by kernel_rfl) (λ_ _ _ h=>h) (Or.inl ⟨by rfl,?_⟩) (by assumption) ?_
    case refine_2=>(intro w hSw;(try dsimp only at hSw);go_simp;(try with_reducible rfl))
    simp only[Act.put,List.setIfInBounds_toArray,List.set_cons_zero,List.set_cons_succ];refine wpAnyH_take (i:=2) (v:=?_) rfl (by kernel_rfl) (by kernel_rfl) (by kernel_rfl) (λ_ _ _ h=>h) (Or.inl ⟨by rfl,?_⟩) (by assumption) ?_
    case refine_2=>(intro w hSw;(try dsimp only at hSw);go_simp;(try with_reducible rfl))
    simp only[Act.put,List.setIfInBounds_toArray,List.set_cons_zero,List.set_cons_succ];refine wpAnyH_take (i:=3) (v:=?_) rfl (by kernel_rfl) (by kernel_rfl) (by kernel_rfl) (λ_ _ _ h=>h) (Or.inl ⟨by rfl,?_⟩) (by assumption) ?_
    case refine_2=>(intro w hSw;(try dsimp only at hSw);go_simp;(try with_reducible rfl))
    simp only[Act.put,List.setIfInBounds_toArray,List.set_cons_zero,List.set_cons_succ];refine wpAnyH_take (i:=4) (v:=?_) rfl (by kernel_rfl) (by kernel_rfl) (by kernel_rfl) (λ_ _ _ h=>h) (Or.inl ⟨by rfl,?_⟩) (by assumption) ?_
    case refine_2=>(intro w hSw;(try dsimp only at hSw);go_simp;(try with_reducible rfl))
    simp only[Act.put,List.setIfInBounds_toArray,List.set_cons_zero,List.set_cons_succ];refine wpAnyH_take (i:=5) (v:=?_) rfl (by kernel_rfl) (by kernel_rfl) (by kernel_rfl) (λ_ _ _ h=>h) (Or.inl ⟨by rfl,?_⟩) (by assumption) ?_
    case refine_2=>(intro w hSw;(try dsimp only at hSw);go_simp;(try with_reducible rfl))
    simp only[Act.put,List.setIfInBounds_toArray,List.set_cons_zero,List.set_cons_succ];refine wpAnyH_take (i:=6) (v:=?_) rfl (by kernel_rfl) (by kernel_rfl) (by kernel_rfl) (λ_ _ _ h=>h) (Or.inl ⟨by rfl,?_⟩) (by assumption) ?_
    case refine_2=>(intro w hSw;(try dsimp only at hSw);go_simp;(try with_reducible rfl))
    simp only[Act.put,List.setIfInBounds_toArray,List.set_cons_zero,List.set_cons_succ];refine wpAnyH_take (i:=7) (v:=?_) rfl (by kernel_rfl) (by kernel_rfl) (by kernel_rfl) (λ_ _ _ h=>h) (Or.inl ⟨by rfl,?_⟩) (by assumption) ?_
    case refine_2=>(intro w hSw;(try dsimp only at hSw);go_simp;(try with_reducible rfl))
    simp only[Act.put,List.setIfInBounds_toArray,List.set_cons_zero,List.set_cons_succ];refine wpAnyH_take (i:=8) (v:=?_) rfl (by kernel_rfl) (by kernel_rfl) (by kernel_rfl) (λ_ _ _ h=>h) (Or.inl ⟨by rfl,?_⟩) (by assumption) ?_
    case refine_2=>(intro w hSw;(try dsimp only at hSw);go_simp;(try with_reducible rfl))
    simp only[Act.put,List.setIfInBounds_toArray,List.set_cons_zero,List.set_cons_succ];refine wpAnyH_take (i:=9) (v:=?_) rfl (by kernel_rfl) (by kernel_rfl) (by kernel_rfl) (λ_ _ _ h=>h) (Or.inl ⟨by rfl,?_⟩) (by assumption) ?_
    case refine_2=>(intro w hSw;(try dsimp only at hSw);go_simp;(try with_reducible rfl))
    simp only[Act.put,List.setIfInBounds_toArray,List.set_cons_zero,List.set_cons_succ];refine wpAnyH_take (i:=10) (v:=?_) rfl (by kernel_rfl) (by kernel_rfl) (by kernel_rfl) (λ_ _ _ h=>h) (Or.inl ⟨by rfl,?_⟩) (by assumption) ?_
    case refine_2=>(intro w hSw;(try dsimp only at hSw);go_simp;(try with_reducible rfl))
    simp only[Act.put,List.setIfInBounds_toArray,List.set_cons_zero,List.set_cons_succ];refine wpAnyH_take (i:=11) (v:=?_) rfl (by kernel_rfl) (by kernel_rfl) (by kernel_rfl) (λ_ _ _ h=>h) (Or.inl ⟨by rfl,?_⟩) (by assumption) ?_
    case refine_2=>(intro w hSw;(try dsimp only at hSw);go_simp;(try with_reducible rfl))
    simp only[Act.put,List.setIfInBounds_toArray,List.set_cons_zero,List.set_cons_succ];refine wpAnyH_take (i:=12) (v:=?_) rfl (by kernel_rfl) (by kernel_rfl) (by kernel_rfl) (λ_ _ _ h=>h) (Or.inl ⟨by rfl,?_⟩) (by assumption) ?_
    case refine_2=>(intro w hSw;(try dsimp only at hSw);go_simp;(try with_reducible rfl))
    simp only[Act.put,List.setIfInBounds_toArray,List.set_cons_zero,List.set_cons_succ];refine wpAnyH_take (i:=13) (v:=?_) rfl (by kernel_rfl) (by kernel_rfl) (by kernel_rfl) (λ_ _ _ h=>h) (Or.inl ⟨by rfl,?_⟩) (by assumption) ?_
    case refine_2=>(intro w hSw;(try dsimp only at hSw);go_simp;(try with_reducible rfl))
    simp only[Act.put,List.setIfInBounds_toArray,List.set_cons_zero,List.set_cons_succ];refine wpAnyH_take (i:=14) (v:=?_) rfl (by kernel_rfl) (by kernel_rfl) (by kernel_rfl) (λ_ _ _ h=>h) (Or.inl ⟨by rfl,?_⟩) (by assumption) ?_
    case refine_2=>(intro w hSw;(try dsimp only at hSw);go_simp;(try with_reducible rfl))
    simp only[Act.put,List.setIfInBounds_toArray,List.set_cons_zero,List.set_cons_succ];refine wpAnyH_take (i:=15) (v:=?_) rfl (by kernel_rfl) (by kernel_rfl) (by kernel_rfl) (λ_ _ _ h=>h) (Or.inl ⟨by rfl,?_⟩) (by assumption) ?_
    case refine_2=>(intro w hSw;(try dsimp only at hSw);go_simp;(try with_reducible rfl))
    simp only[Act.put,List.setIfInBounds_toArray,List.set_cons_zero,List.set_cons_succ];refine wpAnyH_take (i:=16) (v:=?_) rfl (by kernel_rfl) (by kernel_rfl) (by kernel_rfl) (λ_ _ _ h=>h) (Or.inl ⟨by rfl,?_⟩) (by assumption) ?_
    case refine_2=>(intro w hSw;(try dsimp only at hSw);go_simp;(try with_reducible rfl))
    simp only[Act.put,List.setIfInBounds_toArray,List.set_cons_zero,List.set_cons_succ];refine wpAnyH_ready (rs:=[17]) (by kernel_rfl) (by simp) ?_;refine AllReadyH.cons rfl (λK hK=>?_) AllReadyH.nil;go_simp;refine hK.out _ _ (HK _ ((Fr.refl _ w6).drew.alloc _)) (λhHeld=>?_);clear hK K;try simp only[Act.put,List.setIfInBounds_toArray,List.set_cons_zero,List.set_cons_succ]
    refine wpAnyH_ready (rs:=[18]) (by kernel_rfl) (by simp) ?_;refine AllReadyH.cons rfl (λK hK=>?_) AllReadyH.nil;refine step_append (v:= Un) (n:=0) (m:=1) (xs:=[]) (news:=[bs [97],U1,U0]) (by rfl) _ _ (by rfl) qJ (by rfl) (by rfl) (Own.nil _ _ _) HR (by simp[Value.oneCell']) (by omega) (by unfold maxLen;omega) ?_;intro A3 c3 w8 ho8 hf8 hv8;have F8:Hd (Fr nob w6 w8):=Fr.trans (((fR w6).alloc _).drew) hf8 (λ_ _ x=>x) (λ_ _ x=>by simp[obl,blk] at x);clear ho8 hf8 hv8;refine hK.out _ _ (HK _ F8) (λhHeld=>?_);clear hK K;try simp only[Act.put,List.setIfInBounds_toArray,List.set_cons_zero,List.set_cons_succ]
    have B8:=hD (B6.o.fr F8 (λx=>x));have v7:w8.cell? (V,0)=Un:=B8.o.cell 0;have v8:=B8.o.frozen 0;have v9:=B8.o.lt;clear hHeld KK HK HR;refine wpAnyH_done (by kernel_rfl) ?_ _;refine vB (L:=19) rfl (λK hK=>?_);go_simp;refine hK _ _ ?_;clear hK K;try simp only[Act.put,List.setIfInBounds_toArray,List.set_cons_zero,List.set_cons_succ]
    go_wp2
    go_roundw
    case rel=>exact⟨1,by go_num,hD ((FR.o.trans (FW.o.tr F8) (λ_ _ x=>x) (λ_ _ x=>x.elim)).setCell _ _ (λ_=>rfl)),hD (.inr ⟨rfl,_,_,B8.o.setCell 0 _⟩)⟩
    case measure=>simp[intOf]
  . have FL:=hD (F0.o.trans FR (M:=λb=>w0.heap.size<=b) (λ_ _ h=>h) (λ_ _ h=>by rw[show _=V from h];exact HV))
    have FL2:=hD (FL.o.alloc (.cells #[(14:Int),U1,U0,bs [],(mb,1,mc)] 50));have v2:=((hb.alloc (.cells #[(14:Int),U1,U0,bs [],(mb,1,mc)] 50)).cell 0).trans rfl;have n2:=((BNr.o.alloc (.cells #[(14:Int),U1,U0,bs [],(mb,1,mc)] 50)).cell 0).trans rfl;have V2:=hD v2;clear hb v2 x5 x6 x7 x8 x9 xa xt xs;go_wp2
    go_ret;exact⟨rfl,⟨_,_,V2⟩,FL2⟩
end
theorem aJu:Enters prog 63:=enters_of func63 (by kernel_rfl) rfl
section
variable {w:World}{nb fb tb sb ub zb kb ab mb nc fc tc sc uc zc kc ac mc pc:Nat}{pa:Option Addr}
theorem aQo (X:VX w (vxL nb fb tb sb ub kb ab mb kc ac mc pc pa)) (hk:2<=kc) (ha:1<=ac):
  Calls prog 34 #[.agg #[(nb,5,nc),(fb,1,fc),(tb,5,tc),(sb,5,sc),(ub,5,uc),(zb,1,zc)],U3] w λen w'=>∃A c,en = .returned (.slice A 1 c)∧Fr nob w w':=by
 obtain⟨PO,hPO⟩:∃PO:Obj,PO = .cells #[(nb,5,nc),(fb,1,fc),(tb,5,tc),(sb,5,sc),(ub,5,uc),(zb,1,zc)] 29:=⟨_,rfl⟩;have BP:=hD (show Blk ((w.alloc PO).alloc (.cells #[U3] 3)) w.heap.size 29 #[(nb,5,nc),(fb,1,fc),(tb,5,tc),(sb,5,sc),(ub,5,uc),(zb,1,zc)] from by rw[hPO];exact (Blk.new w _ _).alloc _);have BN:=hD (show Blk ((w.alloc PO).alloc (.cells #[U3] 3)) (w.heap.size+1) 3 #[U3] from by
  have:=Blk.new (w.alloc PO) 3 #[U3];rw[World.size_alloc] at this;exact this)
 have F1:=hD (((fR w).alloc PO).alloc (.cells #[U3] 3));rw[hPO] at BP BN F1;have HX:=hD X;have HKC:=hD hk;have HAC:=hD ha;clear hPO X hk ha;go_enter func34,ntmps34;go_upto_region 1 with fail;generalize (w.alloc (.cells #[(nb,5,nc),(fb,1,fc),(tb,5,tc),(sb,5,sc),(ub,5,uc),(zb,1,zc)] 29)).alloc (.cells #[U3] 3)=w1 at *;generalize hP:w.heap.size=P at *;clear hP;generalize P+1=N at *;have HK2:=hD (show ∀wx,Fr nob w1 wx->wx.cell? (P,1)=(fb,1,fc)∧wx.cell? (P,4)=(ub,5,uc)∧wx.cell? (N,0)=U3∧wx.cell? (ub,3)=U0∧wx.cell? (fb,0)=(bs [109,97,105,110])∧wx.cell? (fb,1)=U1∧wx.cell? (fb,2)=some (.slice pa 0 pc)∧wx.cell? (fb,3)=U0∧wx.cell? (fb,4)=U4 from λwx fx=>by
  have x:=HX.o.up (aA1 _) ((F1.o.tr fx).aGf);simp only[VX,vxL,List.mem_cons,List.not_mem_nil,or_false,forall_eq_or_imp,forall_eq] at x;obtain⟨-,-,-,-,-,-,-,-,-,-,-,-,-,-,-,-,-,-,-,-,f0,f1,f2,f3,f4,u3⟩:=x;obtain⟨-,p1,-,-,p4,-⟩:=(BP.o.fr fx (λx=>x)).sixth;exact⟨p1,p4,(BN.o.fr fx (λx=>x)).cell 0,u3,f0,f1,f2,f3,f4⟩)
 have BP3:=hD ((BP.o.alloc (.cells #[bs [109,97,105,110],U1,.slice pa 0 pc,U0,U4] 48)).fr ((fR _).drew) (λx=>x));have BN3:=hD ((BN.o.alloc (.cells #[bs [109,97,105,110],U1,.slice pa 0 pc,U0,U4] 48)).fr ((fR _).drew) (λx=>x));have F3:=hD ((F1.o.alloc (.cells #[bs [109,97,105,110],U1,.slice pa 0 pc,U0,U4] 48)).tr ((fR _).drew));have BF3:=hD ((Blk.new w1 48 #[bs [109,97,105,110],U1,.slice pa 0 pc,U0,U4]).fr ((fR _).drew) (λx=>x));go_wp2_with fail
 go_region_held3 (λwx=>wx.cell? (P,1)=(fb,1,fc)∧wx.cell? (P,4)=(ub,5,uc)∧wx.cell? (N,0)=U3∧wx.cell? (ub,3)=U0∧wx.cell? (fb,0)=(bs [109,97,105,110])∧wx.cell? (fb,1)=U1∧wx.cell? (fb,2)=some (.slice pa 0 pc)∧wx.cell? (fb,3)=U0∧wx.cell? (fb,4)=U4) (first|exact HK2 _ ((fR w1).drew)|exact HK2 _ (((fR w1).drew).alloc _)) (fail)
 clear HK2 BP BN F1;generalize (w1.alloc (.cells #[bs [109,97,105,110],U1,.slice pa 0 pc,U0,U4] 48)).drew=w3 at *;generalize w1.heap.size=FB at *;go_upto_region 3 with fail;have FV:=hD ((fR w3).alloc (.cells #[Un] 58));have BV:=hD (Blk.new w3 58 #[Un]);have hVs:w.heap.size<=w3.heap.size:=F3.o.size;generalize w3.alloc (.cells #[Un] 58)=w4 at *;generalize w3.heap.size=V at *;have HVS:=hD hVs;have q2:=((BF3.o.fr FV (λx=>x)).cell 2).trans rfl;clear hVs;go_wp2
 clear q2;go_loopw [23] (λi wr=>i = .int .i64 0∧wr=w4) (λ_ _=>0)
 case atStart=>exact⟨rfl,rfl⟩
 case round=>
  obtain⟨rfl,rfl⟩:=hrel;go_upto_region 9 with fail;have F5:=hD ((fR wr).alloc (.cells #[.nilFunc] 74));have B5:=hD (Blk.new wr 74 #[.nilFunc]);have hw:=aA1 wr.heap.size;generalize hFN:wr.heap.size=FN at *;generalize wr.alloc (.cells #[.nilFunc] 74)=w5 at *;have F6:Hd (Fr nob wr (w5.setCell (FN,()) (.func (.func 63) #[] #[(V,()),(P,()),(N,()),(FN,())]))):=F5.o.trans ((Fr.refl (bY FN) w5).setCell _ _ (λ_=>rfl)) (λ_ _ x=>x) (λb hlt hm=>by have hm:b=FN:=hm;omega);have B6:Hd (Blk (w5.setCell (FN,()) (.func (.func 63) #[] #[(V,()),(P,()),(N,()),(FN,())])) FN 74 #[(.func (.func 63) #[] #[(V,()),(P,()),(N,()),(FN,())])]):=B5.o.setCell 0 _;have hmf:∀(fn:Fn) (first cap:Array Value) (w:World),(Instr.makeFunc fn first cap).run prog w = .ok (.func fn first cap) w:=λ_ _ _ _=>rfl
  have g0:=(B5.o.cell 0).trans rfl;have g1:=B5.o.frozen 0;have g2:=B5.o.lt;clear F5 B5 hFN hw;have HV:=hD (aOq (FN:=FN) HX ((F3.o.tr FV).tr F6) HVS HKC HAC (BV.o.fr F6 (λx=>x)) ((BP3.o.fr FV (λx=>x)).fr F6 (λx=>x)) ((BN3.o.fr FV (λx=>x)).fr F6 (λx=>x)));have r4:=((((BF3.o.fr FV (λx=>x)).fr F6 (λx=>x)).cell 4).trans rfl);go_upto_region 10 with fail;generalize w5.setCell (FN,()) (.func (.func 63) #[] #[(V,()),(P,()),(N,()),(FN,())])=w6 at *;have r0:=(B6.o.cell 0).trans rfl;clear B6 g0 g1 g2 hmf;have hen:=aJu;go_wp2_with fail
  clear r0 r4;refine HV.o.mono ?_;rintro en w7 ⟨rfl,A,C,v7,h7⟩;go_wp2
  go_ret;exact⟨A,C,rfl,⟨h7.os,h7.tape,h7.output,h7.size,λk hk _=>h7.block k hk (λhb=>by have hb:w.heap.size<=k:=hb;omega)⟩⟩
end
def ex4:List UInt8:=[102,110,32,109,97,105,110,40,41,32,123,32,108,101,116,32,97,32,61,32,49,59,32,112,114,105,110,116,32,97,59,32,125]
def aSd:gB:=⟨[⟨1,1,1,[],[]⟩,⟨10,1,0,[97],[0]⟩,⟨4,1,0,[97],[]⟩,⟨14,1,0,[],[2]⟩,⟨18,1,0,[],[1,3]⟩],[⟨[109,97,105,110],1,[],0,4⟩],[1,0,1,0,0],[-1,0,0,-1,-1],[0,0,0,0,0],[1]⟩
theorem aPy:jA ex4=some (.good aSd):=by kernel_rfl
theorem aRa {nv fv tv sv uv zv:Value}{lvs pvs:List Value} (h:kT w nv fv tv sv uv zv lvs pvs aSd):
  ∃nb fb tb sb ub zb kb ab mb nc fc tc sc uc zc kc ac mc pc pa,nv = .slice (some ⟨nb,0,none⟩) 5 nc∧fv = .slice (some ⟨fb,0,none⟩) 1 fc∧tv = .slice (some ⟨tb,0,none⟩) 5 tc∧sv = .slice (some ⟨sb,0,none⟩) 5 sc∧uv = .slice (some ⟨ub,0,none⟩) 5 uc∧zv = .slice (some ⟨zb,0,none⟩) 1 zc∧2<=kc∧1<=ac∧VX w (vxL nb fb tb sb ub kb ab mb kc ac mc pc pa)∧w.cell? ⟨zb,0,none⟩=some (.int .i64 1):=by
 obtain⟨nb,nc,l4,rfl,-,o4,a0,a1,a2,a3,a4⟩:=h.tree.node (x:=4) rfl;obtain⟨_,_,l1,e1,-,o1,b0,b1,b2,b3,b4⟩:=h.tree.node (x:=1) rfl;obtain⟨_,_,l3,e3,-,o3,c0,c1,c2,c3,c4⟩:=h.tree.node (x:=3) rfl;injection e1 with e1;injection e1 with e1;injection e1 with e1;subst e1;injection e3 with e3;injection e3 with e3;injection e3 with e3;subst e3;obtain⟨A4,kc,rfl,hk,-⟩:=o4.cap;obtain⟨A1,ac,rfl,ha,-⟩:=o1.cap;obtain⟨A3,mc,rfl,hm,-⟩:=o3.cap;obtain⟨kb,rfl,k0⟩:=o4.some (by decide);obtain⟨ab,rfl,k1⟩:=o1.some (by decide);obtain⟨mb,rfl,k3⟩:=o3.some (by decide);obtain⟨FA,fc,rfl,-,-⟩:=h.tree.fns.cap;obtain⟨fb,rfl,-⟩:=h.tree.fns.some (by decide);obtain⟨pv,po,f0,f1,f2,f3,f4⟩:=h.tree.fn (j:=0) rfl;obtain⟨pa,pc,rfl,-,-⟩:=po.cap;obtain⟨A,tc,rfl,-,-⟩:=h.types.cap;obtain⟨tb,rfl,t0⟩:=h.types.some (by decide);obtain⟨B,sc,rfl,-,-⟩:=h.slots.cap;obtain⟨sb,rfl,s0⟩:=h.slots.some (by decide);obtain⟨C,uc,rfl,-,-⟩:=h.fn.cap;obtain⟨ub,rfl,u0⟩:=h.fn.some (by decide);obtain⟨D,zc,rfl,-,-⟩:=h.sizes.cap;obtain⟨zb,rfl,z0⟩:=h.sizes.some (by decide);refine⟨nb,fb,tb,sb,ub,zb,kb,ab,mb,nc,fc,tc,sc,uc,zc,kc,ac,mc,pc,pa,rfl,rfl,rfl,rfl,rfl,rfl,hk,ha,?_,z0 0 _ rfl⟩;simp only[VX,vxL,List.mem_cons,List.not_mem_nil,or_false,forall_eq_or_imp,forall_eq];exact⟨a0,a1,a2,a3,a4,k0 0 _ rfl,k0 1 _ rfl,b0,b1,b2,b3,b4,k1 0 _ rfl,c0,c1,c2,c3,c4,t0 0 _ rfl,s0 1 _ rfl,f0,f1,f2,f3,f4,u0 3 _ rfl⟩
theorem aOm {nv fv sv uv zv:Value}{tb tc:Nat}{lvs pvs:List Value} (h:kT w nv fv (tb,5,tc) sv uv zv lvs pvs aSd):w.cell? (tb,2)=U1:=by
 obtain⟨b,e,t0⟩:=h.types.some (by decide);injection e with e;injection e with e;subst e;exact t0 2 _ rfl
theorem aDl {V:World->Prop} (HQ:aSt V) (w:World) (hv:V w):Calls prog 26 #[] w λe w'=>e = .returned true∧Fr nob w w':=by
 have HS:=hD (HQ.src ⟨#[102,110,32,109,97,105,110,40,41,32,123,32,108,101,116,32,97,32,61,32,49,59,32,112,114,105,110,116,32,97,59,32,125]⟩ w hv (by decide) (.good aSd) aPy);clear hv HQ;go_enter func26,ntmps26;go_wp2_with fail
 refine HS.o.mono ?_;rintro e w1 ⟨hs,hf⟩;obtain⟨_,_,_,_,_,_,lvs,pvs,rfl,pa⟩:=hs;obtain⟨nb,fb,tb,sb,ub,zb,kb,ab,mb,nc,fc,tc,sc,uc,zc,kc,ac,mc,pc,q,rfl,rfl,rfl,rfl,rfl,rfl,hk,ha,X,z0⟩:=aRa pa;have F1:=hD (hf.alloc (.cells #[(nb,5,nc),(fb,1,fc),(tb,5,tc),(sb,5,sc),(ub,5,uc),(zb,1,zc)] 29));have FA:Fr nob w1 (w1.alloc (.cells #[(nb,5,nc),(fb,1,fc),(tb,5,tc),(sb,5,sc),(ub,5,uc),(zb,1,zc)] 29)):=(fR w1).alloc _;have X2:=X.up (aA1 _) FA.aGf;have HV:=hD (aQo (nc:=nc) (fc:=fc) (tc:=tc) (sc:=sc) (uc:=uc) (zb:=zb) (zc:=zc) X2 hk ha);have z2:=(FA.cell (p:=(zb,())) (World.block_lt_of_cell? _ _ z0) (λx=>x)).trans z0;have BP:=hD (Blk.new w1 29 #[(nb,5,nc),(fb,1,fc),(tb,5,tc),(sb,5,sc),(ub,5,uc),(zb,1,zc)]);simp only[VX,vxL,List.mem_cons,List.not_mem_nil,or_false,forall_eq_or_imp,forall_eq] at X2;obtain⟨-,-,-,-,-,-,-,-,-,-,-,-,-,-,-,-,-,-,-,y1,-⟩:=X2;have y0:=(FA.cell (p:=(tb,U2)) (World.block_lt_of_cell? _ _ (aOm pa)) (λx=>x)).trans (aOm pa);clear hf X FA z0 pa HS;go_wp2_with fail
 generalize w1.alloc (.cells #[(nb,5,nc),(fb,1,fc),(tb,5,tc),(sb,5,sc),(ub,5,uc),(zb,1,zc)] 29)=w2 at *;generalize w1.heap.size=PB at *;obtain⟨p0,p1,p2,p3,p4,p5,_⟩:=BP.o.sixth;go_wp2_with fail
 refine HV.o.mono ?_;rintro e w3 ⟨A,c,rfl,hf⟩;have F3:=hD (F1.o.tr hf);clear hf;go_wp2
 go_ret;exact⟨rfl,F3⟩
section
variable (ns:List aF) (types:List Nat) (slots:List Int) (node:Nat)
def kW (rec:Nat->List bT->Bool×List bT):List Nat->List bT->Bool×List bT
 | [],vs=>(false,vs)
 | y :: l,vs=>if (rec y vs).1=true then (true,(rec y vs).2) else kW rec l (rec y vs).2
def aSa (nd:aF) (x:Nat):bT:=⟨nd.name,types.getD (nd.l.headD 0) 0,(slots.getD x 0).toNat⟩
def iN (rec:Nat->List bT->Bool×List bT):List Nat->List bT->Bool×List bT
 | [],vs=>(false,vs)
 | x :: l,vs=>if x=node then (true,vs) else match ns[x]? with
  | none=>(false,vs)
  | some nd=>if nd.kind=10 then iN rec l (vs++[aSa types slots nd x])
   else if nd.kind=15∨nd.kind=16 then (if (kW rec nd.l.tail vs).1=true then (true,(kW rec nd.l.tail vs).2) else iN rec l (kW rec nd.l.tail vs).2)
   else iN rec l vs
def kY:Nat->Nat->List bT->Bool×List bT
 | 0,_,vs=>(false,vs)
 | f+1,x,vs=>match ns[x]? with
  | none=>(false,vs)
  | some nd=>if (iN ns types slots node (kY f) nd.l vs).1=true then (true,(iN ns types slots node (kY f) nd.l vs).2) else (false,(iN ns types slots node (kY f) nd.l vs).2.take vs.length)
def aRs (r:Bool×List bT) (vs:List bT):Prop:=∃t,r.2=vs++t
variable {ns types slots node}
theorem aCq (h:∀y v,aRs (rec y v) v):∀(l:List Nat) (vs:List bT),aRs (kW rec l vs) vs
 | [],vs=>⟨[],by simp[kW]⟩
 | y :: l,vs=>by
  obtain⟨t,ht⟩:=h y vs;unfold kW;split
  . exact⟨t,ht⟩
  . obtain⟨t2,h2⟩:=aCq h l (rec y vs).2
    exact⟨t++t2,by rw[h2,ht,List.append_assoc]⟩
theorem nN (h:∀y v,aRs (rec y v) v):∀(l:List Nat) (vs:List bT),aRs (iN ns types slots node rec l vs) vs
 | [],vs=>⟨[],by simp[iN]⟩
 | x :: l,vs=>by
  unfold iN;split
  . exact⟨[],by simp⟩
  . split
    . exact⟨[],by simp⟩
    . rename_i nd _
      split
      . obtain⟨t,ht⟩:=nN h l (vs++[aSa types slots nd x])
        exact⟨[aSa types slots nd x]++t,by rw[ht,List.append_assoc]⟩
      . split
        . obtain⟨t,ht⟩:=aCq h nd.l.tail vs
          split
          . exact⟨t,ht⟩
          . obtain⟨t2,h2⟩:=nN h l (kW rec nd.l.tail vs).2
            exact⟨t++t2,by rw[h2,ht,List.append_assoc]⟩
        . exact nN h l vs
theorem aBo:∀(f x:Nat) (vs:List bT),aRs (kY ns types slots node f x vs) vs
 | 0,x,vs=>⟨[],by simp[kY]⟩
 | f+1,x,vs=>by
  unfold kY;split
  . exact⟨[],by simp⟩
  . rename_i nd _
    obtain⟨t,ht⟩:=nN (ns:=ns) (types:=types) (slots:=slots) (node:=node) (aBo f) nd.l vs;split
    . exact⟨t,ht⟩
    . exact⟨[],by dsimp only;rw[ht];simp⟩
theorem aBp (f x:Nat) (vs:List bT) (h:(kY ns types slots node f x vs).1=false):(kY ns types slots node f x vs).2=vs:=by
 cases f with
 | zero=>rfl
 | succ f=>
  unfold kY at h ⊢;split
  . rfl
  . rename_i nd hnd
    rw[hnd] at h;dsimp only at h;obtain⟨t,ht⟩:=nN (ns:=ns) (types:=types) (slots:=slots) (node:=node) (aBo f) nd.l vs;split
    . rename_i h1;rw[if_pos h1] at h;cases h
    . dsimp only;rw[ht];simp
theorem aCr {vs:List bT}:∀{l:List Nat}{j y:Nat},(∀g∈l.take j,(rec g vs).1=false∧(rec g vs).2=vs)->l[j]?=some y->(rec y vs).1=true->kW rec l vs=(true,(rec y vs).2)
 | [],j,y,_,h,_=>by simp at h
 | a :: l,0,y,_,h,h1=>by simp at h;subst h;unfold kW;rw[if_pos h1]
 | a :: l,j+1,y,hg,h,h1=>by
  obtain⟨q1,q2⟩:=hg a (by simp);unfold kW;rw[if_neg (by rw[q1];decide),q2];exact aCr (j:=j) (λg hg'=>hg g (by rw[List.take_succ_cons];exact List.mem_cons_of_mem _ hg')) (by simpa using h) h1
theorem zD {vs:List bT}:∀{l:List Nat},(∀g∈l,(rec g vs).1=false∧(rec g vs).2=vs)->kW rec l vs=(false,vs)
 | [],_=>rfl
 | a :: l,hg=>by
  obtain⟨q1,q2⟩:=hg a (by simp);unfold kW;rw[if_neg (by rw[q1];decide),q2];exact zD (λg hg'=>hg g (by simp[hg']))
end
section
variable {F:Nat}{caps:Array Value}{S:List bT->World->Prop}{rec:Nat->List bT->Bool×List bT}{vs:List bT}{w:World}{b o c:Nat}{l:List Nat}
theorem aJh (hen:Enters prog F) (hone:∀y∈l,∀w',S vs w'->Calls prog F (#[.int .i64 (y:Nat)]++caps) w' λen w2=>en = .returned (.bool (rec y vs).1)∧S (rec y vs).2 w2)
  (hfix:∀y∈l,(rec y vs).1=false->(rec y vs).2=vs) (hrow:∀w',S vs w'->∀j y,l[j]?=some y->w'.cell? ⟨b,o+j,none⟩=some (.int .i64 (y:Nat))) (hl:l.length<=300) (h:S vs w):
  Calls prog 102 #[.slice (some (b,o)) l.length c,.func (.func F) #[] caps] w λen w'=>∃z:Int,en = .returned z∧decide (0<=z)=(kW rec l vs).1∧S (kW rec l vs).2 w':=by
 have HONE:=hD hone;have HFIX:=hD hfix;have HROW:=hD hrow;have S0:=hD h;have hml:(l.length:Int)<=300:=by omega
 generalize hm:l.length=m at *;have HMM:=hD hm;clear hone hfix hrow h hm;go_enter func102,ntmps102;go_wp2
 go_loopw [8] (λi wr=>∃j:Nat,j<=m∧i = .int .i64 j∧Hd (∀g∈l.take j,(rec g vs).1=false∧(rec g vs).2=vs)∧Hd (S vs wr)) (λi _=>m - (intOf i).toNat)
 case atStart=>exact⟨0,aA4 _,rfl,hD (by simp),S0⟩
 case round=>
  clear S0;obtain⟨j,hj,rfl,HA,SS⟩:=hrel;by_cases hlt:j<m
  . have hlt2:(j:Int)<(m:Int):=by omega
    obtain⟨y,hy⟩:∃y,l[j]?=some y:=⟨_,gE (by have:=HMM.o;omega)⟩;have e0:=HROW.o wr SS j y hy;have HC:=hD (HONE y (List.mem_of_getElem? hy) wr SS);have HY:=hD hy;have HJ:=hD hlt;obtain⟨z,hz⟩:∃z,(rec y vs).1=z:=⟨_,rfl⟩;rw[hz] at HC;have HQ:=hD hz;clear hy hz hlt hj;cases z with
    | true=>
     go_wp2_with fail
     rw[hen];go_wp2_with fail
     refine HC.o.mono ?_;rintro e w2 ⟨rfl,hf2⟩;have S2:=hD hf2;clear hf2;go_wp2
     go_ret;rw[aCr HA.o HY.o HQ.o];exact⟨_,rfl,by simp,S2⟩
    | false=>
     have HR:=hD (HFIX y (List.mem_of_getElem? HY) HQ);go_wp2_with fail
     rw[hen];go_wp2_with fail
     refine HC.o.mono ?_;rintro e w2 ⟨rfl,hf2⟩;have S2:=hD (show S vs w2 from by rw[HR.o] at hf2;exact hf2);have HA2:=hD (show ∀g∈l.take (j+1),(rec g vs).1=false∧(rec g vs).2=vs from λg hg=>by
      rw[List.take_add_one,HY.o] at hg;rcases List.mem_append.1 hg with hg|hg
      . exact HA g hg
      . simp at hg;subst hg;exact⟨HQ,HR⟩)
     clear hf2 e0 HC HA SS;go_wp2
     go_roundw
     case rel=>exact⟨j+1,by have:=HJ.o;omega,by go_num,HA2,S2⟩
     case measure=>simp[intOf];have:=HJ.o;omega
  . have hlt2:¬(j:Int)<(m:Int):=by omega
    have hj2:j=m:=by omega
    subst hj2;clear hj hlt;go_wp2
    go_ret;rw[zD (λg hg=>HA.o g (by rw[aA5 (by have:=HMM.o;omega)];exact hg))];exact⟨_,rfl,by simp,SS⟩
theorem aFl (hen:Enters prog F) (hone:∀y∈l,∀w',S vs w'->Calls prog F (#[.int .i64 (y:Nat)]++caps) w' λen w2=>en = .returned (.bool (rec y vs).1)∧S (rec y vs).2 w2)
  (hfix:∀y∈l,(rec y vs).1=false->(rec y vs).2=vs) (hrow:∀w',S vs w'->∀j y,l[j]?=some y->w'.cell? ⟨b,o+j,none⟩=some (.int .i64 (y:Nat))) (hl:l.length<=300) (h:S vs w):
  Calls prog 64 #[.slice (some (b,o)) l.length c,.func (.func F) #[] caps] w λen w'=>en = .returned (kW rec l vs).1∧S (kW rec l vs).2 w':=by
 have HC:=hD (aJh (c:=c) hen hone hfix hrow hl h);generalize l.length=m at *;clear hone hfix hrow hl h;go_enter func64,ntmps64;go_wp2_with fail
 refine HC.o.mono ?_;rintro en w2 ⟨z,rfl,hz,hs⟩;have HZ:=hD hz;have S2:=hD hs;clear hz hs HC;go_wp2
 go_ret;refine⟨?_,S2⟩;rw[<-HZ.o]
 first|rfl|simp
end
inductive StV (p:gB) (y:Nat):aF->Prop where
 | let_ (line:Nat) (nm:List UInt8) (a t k:Nat) (h:p.types[a]?=some t) (h2:p.slots[y]?=some (k:Int)) (ha:a<p.ns.length):StV p y ⟨10,line,0,nm,[a]⟩
 | test (kind line:Nat) (a:Nat) (m:List Nat) (hk:kind=15∨kind=16) (h:∀b∈m,b<y∧∃nd,p.ns[b]?=some nd∧nd.kind=18) (hm:m.length<=300) (hm0:1<=m.length):StV p y ⟨kind,line,0,[],a :: m⟩
 | other (nd:aF) (h0:nd.kind≠10) (h1:nd.kind≠15) (h2:nd.kind≠16):StV p y nd
structure PgW (g:PgV) (w:World):Prop where
 few:g.p.ns.length<=300
 tree:cZ 0 w (g.nb,g.p.ns.length,g.nc) (g.fb,g.p.fs.length,g.fc) g.lvs g.pvs g.p.ns g.p.fs
 types:Own w 3 1 (g.tb,g.p.ns.length,g.tc) g.p.ns.length (ints g.p.types)
 slots:Own w 3 1 (g.sb,g.p.ns.length,g.sc) g.p.ns.length (eH g.p.slots)
 blocks:∀(x:Nat) (nd:aF),g.p.ns[x]?=some nd->nd.kind=18->∃line l,nd=⟨18,line,0,[],l⟩∧l.length<=300∧∀y∈l,y<x∧∃c,g.p.ns[y]?=some c∧StV g.p y c
def qX (V P N FN:Nat):Array Value:=#[(V,()),(P,()),(N,()),(FN,())]
structure Vw (g:PgV) (w0:World) (V P N FN node:Nat) (vs:List bT) (w:World):Prop where
 fr:Fr nob w0 w
 vc:∃A c,Blk w V 58 #[.slice A vs.length c]∧Own w 62 3 (.slice A vs.length c) vs.length (aH vs)∧∀b,blk (.slice A vs.length c)=some b->w0.heap.size<=b
 hV:w0.heap.size<=V
 pc:Blk w P 29 #[(g.nb,g.p.ns.length,g.nc),(g.fb,g.p.fs.length,g.fc),(g.tb,g.p.ns.length,g.tc),(g.sb,g.p.ns.length,g.sc),.slice g.ua g.un g.uc,.slice g.za g.zn g.zc]
 nc:Blk w N 3 #[node]
 fc:Blk w FN 74 #[.func (.func 63) #[] (qX V P N FN)]
section
variable {g:PgV}{w0 w w1 w':World}{V P N FN node:Nat}{vs:List bT}
theorem Vw.no (h:Vw g w0 V P N FN node vs w) (f:Fr nob w w'):Vw g w0 V P N FN node vs w':=by
 obtain⟨A,c,hb,ho,hn⟩:=h.vc;exact⟨h.fr.tr f,⟨A,c,hb.fr f (λx=>x),ho.fr f (λ_ _ x=>x),hn⟩,h.hV,h.pc.fr f (λx=>x),h.nc.fr f (λx=>x),h.fc.fr f (λx=>x)⟩
theorem Vw.set (h:Vw g w0 V P N FN node vs w){us:List bT} (ho:Own w 62 3 (.slice A us.length c) us.length (aH us)) (hn:∀b,blk (.slice A us.length c)=some b->w0.heap.size<=b):Vw g w0 V P N FN node us (w.setCell (V,()) (.slice A us.length c)):=by
 obtain⟨A',c',hb,_,_⟩:=h.vc;have f:Fr (bY V) w (w.setCell (V,()) (.slice A us.length c)):=(Fr.refl _ w).setCell _ _ (λ_=>rfl);exact⟨h.fr.trans f (λ_ _ x=>x) (λb hlt hm=>by have hm:b=V:=hm;have:=h.hV;omega),⟨A,c,hb.setCell 0 _,ho.far (p:=(V,())) (ho.aD hb (by decide)) _,hn⟩,h.hV,
  h.pc.far (p:=(V,())) (h.pc.ne hb (by decide)) _,h.nc.far (p:=(V,())) (h.nc.ne hb (by decide)) _,h.fc.far (p:=(V,())) (h.fc.ne hb (by decide)) _⟩
theorem Vw.app (h:Vw g w0 V P N FN node vs w) (hc:w.cell? (V,0)=some (.slice A vs.length c)) (f1:Fr nob w w1){v:bT}{A6:Option Addr}{c6:Nat}{w6:World} (ho6:Own w6 62 3 (.slice A6 (vs.length+1) c6) (vs.length+1) (aH vs++[.string (bs v.name),.int .i64 (v.ty:Nat),.int .i64 (v.slot:Nat)]))
  (hf6:Fr (obl (blk (.slice A vs.length c))) w1 w6) (hv6:blk (.slice A6 (vs.length+1) c6)=blk (.slice A vs.length c)∨blk (.slice A6 (vs.length+1) c6)=some w1.heap.size):
  Vw g w0 V P N FN node (vs++[v]) (w6.setCell (V,()) (.slice A6 (vs.length+1) c6))∧w6.frozen? (V,())=false∧V<w6.heap.size∧w6.cell? (V,0)=some (.slice A vs.length c):=by
 have h1:=h.no f1;obtain⟨A',c',hb,ho,hn⟩:=h.vc;have e:w.cell? (V,0)=some (.slice A' vs.length c'):=(hb.cell 0).trans rfl;rw[hc] at e;injection e with e;injection e with e1 _ e2;subst e1;subst e2;have ho1:=ho.fr f1 (λ_ _ x=>x);have hb1:=hb.fr f1 (λx=>x);have hb6:=hb1.fr hf6 (λhm=>ho1.aD hb1 (by decide) hm);have n1:∀b,blk (.slice A6 (vs.length+1) c6)=some b->w0.heap.size<=b:=λb hb=>by
  rcases hv6 with e|e
  . exact hn b (e ▸ hb)
  . rw[e] at hb;injection hb with hb
    have:=h1.fr.size;omega
 have hlen:(vs++[v]).length=vs.length+1:=by simp
 have f6:Fr nob w0 w6:=h1.fr.trans hf6 (λ_ _ x=>x) (λb hlt hm=>by have:=hn b hm;omega);have f:Fr (bY V) w6 (w6.setCell (V,()) (.slice A6 (vs.length+1) c6)):=(Fr.refl _ w6).setCell _ _ (λ_=>rfl);have p6:=h1.pc.fr hf6 (λhm=>ho1.aD h1.pc (by decide) hm);have q6:=h1.nc.fr hf6 (λhm=>ho1.aD h1.nc (by decide) hm);have r6:=h1.fc.fr hf6 (λhm=>ho1.aD h1.fc (by decide) hm);refine⟨⟨f6.trans f (λ_ _ x=>x) (λb hlt hm=>by have hm:b=V:=hm;have:=h.hV;omega),⟨A6,c6,by rw[hlen];exact hb6.setCell 0 _,?_,by rw[hlen];exact n1⟩,h.hV,
  p6.far (p:=(V,())) (p6.ne hb6 (by decide)) _,q6.far (p:=(V,())) (q6.ne hb6 (by decide)) _,r6.far (p:=(V,())) (r6.ne hb6 (by decide)) _⟩,hb6.frozen 0,hb6.lt,(hb6.cell 0).trans rfl⟩
 rw[hlen,fH];exact ho6.far (p:=(V,())) (ho6.aD hb6 (by decide)) _
theorem Vw.cells (h:Vw g w0 V P N FN node vs w):w.cell? (P,0)=(g.nb,g.p.ns.length,g.nc)∧w.cell? (P,2)=(g.tb,g.p.ns.length,g.tc)∧w.cell? (P,3)=(g.sb,g.p.ns.length,g.sc) ∧
  w.cell? (N,0)=node∧w.cell? (FN,0)=some (.func (.func 63) #[] (qX V P N FN))∧∃A c,w.cell? (V,0)=some (.slice A vs.length c)∧Own w 62 3 (.slice A vs.length c) vs.length (aH vs)∧vs.length<=c∧∀b,blk (.slice A vs.length c)=some b->w0.heap.size<=b:=by
 obtain⟨A,c,hb,ho,hn⟩:=h.vc;exact⟨(h.pc.cell 0).trans rfl,(h.pc.cell 2).trans rfl,(h.pc.cell 3).trans rfl,(h.nc.cell 0).trans rfl,(h.fc.cell 0).trans rfl,A,c,(hb.cell 0).trans rfl,ho,ho.oH.1,hn⟩
theorem PgW.sH (PG:PgW g w0){x:Nat}{nd:aF} (hx:g.p.ns[x]?=some nd):∃A c,Own w0 3 1 (.slice A nd.l.length c) nd.l.length (ints nd.l)∧nd.l.length<=c∧∀w,Fr nob w0 w->w.cell? (g.nb,x*5)=nd.kind∧w.cell? (g.nb,x*5+1)=nd.line∧w.cell? (g.nb,x*5+2)=nd.n∧w.cell? (g.nb,x*5+3)=(bs nd.name)∧w.cell? (g.nb,x*5+4)=some (.slice A nd.l.length c):=by
 have T:=PG.tree;have hlt:=(gK hx);obtain⟨lv,hlv⟩:∃lv,g.lvs[x]?=some lv:=⟨_,gE (by have:=T.same;omega)⟩;obtain⟨ho,-⟩:=T.node3 hx hlv;obtain⟨A,c,rfl,hc,_⟩:=ho.cap;exact⟨A,c,ho,hc,λw f=>((T.no f).node3 hx hlv).2⟩
theorem aAy:Enters prog 63:=enters_of func63 (by kernel_rfl) rfl
end
section
variable {g:PgV}{w0 w:World}{V P N FN node:Nat}{vs:List bT}
variable {ns:List aF}{types:List Nat}{slots:List Int}{rec:Nat->List bT->Bool×List bT}
theorem vR (v:List bT) (h:y=node):iN ns types slots node rec (y :: l) v=(true,v):=by
 unfold iN;rw[if_pos h]
theorem vQ {a:Nat}{nm:List UInt8} (v:List bT) (h:y≠node) (hy:ns[y]?=some ⟨10,line,0,nm,[a]⟩){t k:Nat} (ht:types[a]?=some t) (hk:slots[y]?=some (k:Int)):
  iN ns types slots node rec (y :: l) v=iN ns types slots node rec l (v++[⟨nm,t,k⟩]):=by
 conv=>lhs;unfold iN
 rw[if_neg h,hy];dsimp only;rw[if_pos rfl];unfold aSa;dsimp only;rw[show [a].headD 0=a from rfl,List.getD_eq_getElem?_getD,ht,List.getD_eq_getElem?_getD,hk];rfl
theorem nM {m:List Nat}{kind a:Nat} (v:List bT) (h:y≠node) (hk:kind=15∨kind=16) (hy:ns[y]?=some ⟨kind,line,0,[],a :: m⟩):
  iN ns types slots node rec (y :: l) v=if (kW rec m v).1=true then (true,(kW rec m v).2) else iN ns types slots node rec l (kW rec m v).2:=by
 conv=>lhs;unfold iN
 rw[if_neg h,hy];dsimp only;rw[if_neg (by omega),if_pos hk];rfl
theorem oJ {nd:aF} (v:List bT) (h:y≠node) (hy:ns[y]?=some nd) (h0:nd.kind≠10) (h1:nd.kind≠15) (h2:nd.kind≠16):
  iN ns types slots node rec (y :: l) v=iN ns types slots node rec l v:=by
 conv=>lhs;unfold iN
 rw[if_neg h,hy];dsimp only;rw[if_neg h0,if_neg (by omega)]
theorem aCs (hfix:∀y v,(rec y v).1=false->(rec y v).2=v):∀(l:List Nat) (v:List bT),(kW rec l v).1=false->(kW rec l v).2=v
 | [],v,_=>rfl
 | y :: l,v,h=>by
  unfold kW at h ⊢;split
  . rename_i h1;rw[if_pos h1] at h;cases h
  . rename_i h1
    rw[if_neg h1] at h;have e:=hfix y v (by simpa using h1);rw[e] at h ⊢;exact aCs hfix l v h
def aKz (ns:List aF) (types:List Nat) (slots:List Int) (node:Nat) (rec:Nat->List bT->Bool×List bT) (l:List Nat) (vs:List bT):Bool×List bT:=
 if (iN ns types slots node rec l vs).1=true then (true,(iN ns types slots node rec l vs).2) else (false,(iN ns types slots node rec l vs).2.take vs.length)
theorem lW {v:List bT} (h:iN ns types slots node rec l vs=(true,v)):aKz ns types slots node rec l vs=(true,v):=by
 unfold aKz;rw[h,if_pos rfl]
theorem pU {v:List bT} (h:iN ns types slots node rec l vs=(false,v)):aKz ns types slots node rec l vs=(false,v.take vs.length):=by
 unfold aKz;rw[h,if_neg (by simp)]
theorem aGk (PG:PgW g w0){x:Nat} (hx:g.p.ns[x]?=some ⟨18,line,0,[],l⟩) (hl3:l.length<=300) (hvs:vs.length<=190000)
  (hrec:∀y v w,y<x->(∃nd,g.p.ns[y]?=some nd∧nd.kind=18)->v.length<=vs.length+300->Vw g w0 V P N FN node v w->Calls prog 63 (#[.int .i64 (y:Nat)]++qX V P N FN) w λen w'=>en = .returned (.bool (rec y v).1)∧Vw g w0 V P N FN node (rec y v).2 w')
  (hfix:∀y v,(rec y v).1=false->(rec y v).2=v) (hst:∀y∈l,y<x∧∃nd,g.p.ns[y]?=some nd∧StV g.p y nd) (h:Vw g w0 V P N FN node vs w):
  Calls prog 63 (#[.int .i64 (x:Nat)]++qX V P N FN) w λen w'=>en = .returned (.bool (aKz g.p.ns g.p.types g.p.slots node rec l vs).1)∧Vw g w0 V P N FN node (aKz g.p.ns g.p.types g.p.slots node rec l vs).2 w':=by
 show Calls prog 63 #[x,(V,()),(P,()),(N,()),(FN,())] w _
 have hx5:x<g.p.ns.length:=(gK hx);have hx4:(g.p.ns.length:Int)<=300:=by have:=PG.few;omega
 have hx3:(x:Int)<(g.p.ns.length:Int):=by omega
 have hl4:(l.length:Int)<=300:=by omega
 obtain⟨c0,-,-,-,-,A0,C0,c5,-,hc5,-⟩:=h.cells;obtain⟨LA,LC,hlo,-,ncx⟩:=PG.sH hx;obtain⟨-,-,-,-,n4⟩:=ncx w h.fr;have HLO:=hD hlo;have h4:x*5+4<g.p.ns.length*5:=by omega
 have HPG:=hD PG;have HREC:=hD hrec;have HFIX:=hD hfix;have HST:=hD hst;have HS:=hD h;have hv3:(vs.length:Int)<=190000:=by omega
 obtain⟨m,hm⟩:∃m,vs.length=m:=⟨_,rfl⟩;have HM:=hD hm;rw[hm] at c5 hc5 hv3 hvs;dsimp only at n4 HLO;clear ncx hlo h hx hrec hfix hst PG hm;go_enter func63,ntmps63;go_wp2
 go_loopw [21] (λi wr=>∃(j:Nat) (v:List bT),j<=l.length∧i = .int .i64 j∧Hd (iN g.p.ns g.p.types g.p.slots node rec l vs=iN g.p.ns g.p.types g.p.slots node rec (l.drop j) v)∧Hd (m<=v.length∧v.length<=m+j)∧Hd (Vw g w0 V P N FN node v wr)) (λi _=>l.length - (intOf i).toNat)
 case atStart=>exact⟨0,vs,aA4 _,rfl,hD (by rw[List.drop_zero]),hD (by have:=HM.o;omega),HS⟩
 case round=>
  clear HS;obtain⟨j,v,hj,rfl,EQ,LN,SS⟩:=hrel;by_cases hlt:j<l.length
  . have hlt2:(j:Int)<(l.length:Int):=by omega
    obtain⟨y,hy⟩:∃y,l[j]?=some y:=⟨_,gE hlt⟩;have HD:=hD (show l.drop j=y :: l.drop (j+1) from by
      obtain⟨h1,h2⟩:=List.getElem?_eq_some_iff.1 hy;rw[List.drop_eq_getElem_cons h1,h2])
    obtain⟨hyx,nd,hnd,hs⟩:=HST.o y (List.mem_of_getElem? hy);obtain⟨p0,-⟩:=SS.o.cells;obtain⟨kb,e9,kc⟩:=(HLO.o.fr SS.o.fr (λ_ _ x=>x)).some (by omega);subst e9;have k0:=kc j y (by simp[ints,hy]);obtain⟨NA,NC,hno,hnc,ncell⟩:=HPG.o.sH hnd;obtain⟨e0,e1,e2,e3,e4⟩:=ncell wr SS.o.fr;have hy5:y<g.p.ns.length:=by omega
    have hy3:(y:Int)<(g.p.ns.length:Int):=by omega
    have S6:Hd (Vw g w0 V P N FN node v (wr.alloc (.cells #[nd.kind,nd.line,nd.n,bs nd.name,.slice NA nd.l.length NC] 50))):=SS.o.no ((fR wr).alloc _);have BN:=hD (Blk.new wr 50 #[nd.kind,nd.line,nd.n,bs nd.name,.slice NA nd.l.length NC]);have HNO:=hD hno;have HND:=hD hnd;have HJ:=hD hlt;have HYX:=hD hyx;have HSV:=hD hs;have EV:=hD (show iN g.p.ns g.p.types g.p.slots node rec l vs=iN g.p.ns g.p.types g.p.slots node rec (y :: l.drop (j+1)) v from by rw[<-HD.o];exact EQ);clear hy hlt hj hyx hnd hs ncell hno kc EQ SS HD;go_upto_region 6 with fail;clear p0 k0 e0 e1 e2 e3 e4;generalize wr.alloc (.cells #[nd.kind,nd.line,nd.n,bs nd.name,.slice NA nd.l.length NC] 50)=w6 at *;generalize wr.heap.size=T at *;have d0:w6.cell? (T,0)=nd.kind:=(BN.o.cell 0).trans rfl;obtain⟨p0,p2,p3,pn,pf,A,C,d5,hvo,hvc,hvn⟩:=S6.o.cells;by_cases hyn:y=node
    . have heb:((y:Int)==(node:Int))=true:=by simp[hyn]
      have HYN:=hD hyn;clear hyn;go_wp2
      go_ret;rw[lW (EV.o.trans (vR v HYN.o))];exact⟨rfl,S6⟩
    . have heb:((y:Int)==(node:Int))=false:=by simp;omega
      have HYN:=hD hyn;clear hyn;cases HSV.o with
      | let_ line nm a t k ht hk ha=>
       obtain⟨ab,e9,nc0⟩:=(HNO.o.fr S6.o.fr (λ_ _ x=>x)).some (by simp);subst e9;have a0:=nc0 0 a rfl;obtain⟨tb',e9,tc0⟩:=(HPG.o.types.fr S6.o.fr (λ_ _ x=>x)).some (by omega);injection e9 with e9;injection e9 with e9;subst e9;have t0:=tc0 a t (by simp[ints,ht]);obtain⟨sb',e9,sc0⟩:=(HPG.o.slots.fr S6.o.fr (λ_ _ x=>x)).some (by omega);injection e9 with e9;injection e9 with e9;subst e9;have s0:=sc0 y k (by simp[eH,hk]);have ha3:(a:Int)<(g.p.ns.length:Int):=by omega
       have d3:w6.cell? (T,3)=(bs nm):=(BN.o.cell 3).trans rfl;have d4:w6.cell? (T,4)=(ab,1,NC):=(BN.o.cell 4).trans rfl;have EV2:=hD (EV.o.trans (vQ v HYN HND ht hk));have hnc1:1<=NC:=hnc;obtain⟨A',c',hvb,-,-⟩:=S6.o.vc;have AB:Hd (ab<w0.heap.size):=HNO.o.aZ (aQ (by simp) hnc);have TB:Hd (g.tb<w0.heap.size):=HPG.o.types.aZ (aQ (by omega) HPG.o.types.oH.1);have SB:Hd (g.sb<w0.heap.size):=HPG.o.slots.aZ (aQ (by omega) HPG.o.slots.oH.1);have HK:=hD (show ∀w',Fr (λb=>b=V∨obl (blk (.slice A v.length C)) b) w6 w'->w'.cell? (T,3)=(bs nm)∧w'.cell? (T,4)=(ab,1,NC)∧w'.cell? (P,2)=(g.tb,g.p.ns.length,g.tc)∧w'.cell? (P,3)=(g.sb,g.p.ns.length,g.sc)∧w'.cell? (ab,0)=a∧w'.cell? (g.tb,a)=t∧w'.cell? (g.sb,y)=k from λw' f=>by
         have hV:=S6.o.hV;have nT:¬(T=V∨obl (blk (.slice A v.length C)) T):=by
           rintro (e|e)
           . exact BN.o.ne hvb (by decide) e
           . exact hvo.aD BN (by decide) e
         have nP:¬(P=V∨obl (blk (.slice A v.length C)) P):=by
           rintro (e|e)
           . exact S6.o.pc.ne hvb (by decide) e
           . exact hvo.aD S6.o.pc (by decide) e
         have low:∀b,b<w0.heap.size->¬(b=V∨obl (blk (.slice A v.length C)) b):=λb hb=>by
           rintro (e|e)
           . omega
           . have:=hvn b e;omega
         have sz:=S6.o.fr.size;exact⟨(f.cell (p:=(T,U3)) BN.o.lt nT).trans d3,(f.cell (p:=(T,U4)) BN.o.lt nT).trans d4,(f.cell (p:=(P,U2)) S6.o.pc.lt nP).trans p2,(f.cell (p:=(P,U3)) S6.o.pc.lt nP).trans p3,
           (f.cell (p:=(ab,())) (Nat.lt_of_lt_of_le AB sz) (low _ AB)).trans a0,(f.cell (p:=(g.tb,a)) (Nat.lt_of_lt_of_le TB sz) (low _ TB)).trans t0,(f.cell (p:=(g.sb,y)) (Nat.lt_of_lt_of_le SB sz) (low _ SB)).trans s0⟩)
       have HV:=hD ((hvo.alloc (.cells #[bs nm,t,k] 62)).fr ((fR _).drew) (λ_ _ x=>x));have HR:=hD (Rd.eZ (n:=1) (size:=3) (cs:=[bs nm,t,k]) ((Blk.new w6 62 [.string (bs nm),.int .i64 (t:Nat),.int .i64 (k:Nat)].toArray).fr ((fR _).drew) (λx=>x)) rfl (by decide));have HARM:=hD (λ(A3:Option Addr) (c3:Nat) (w8:World) (ho8:Own w8 62 3 (.slice A3 (v.length+1) c3) (v.length+1) (aH v++[.string (bs nm),.int .i64 (t:Nat),.int .i64 (k:Nat)])) (hf8:Fr (obl (blk (.slice A v.length C))) ((w6.alloc (.cells #[bs nm,t,k] 62)).drew) w8) (hv8:blk (.slice A3 (v.length+1) c3)=blk (.slice A v.length C)∨blk (.slice A3 (v.length+1) c3)=some ((w6.alloc (.cells #[bs nm,t,k] 62)).drew).heap.size)=>
         show (Vw g w0 V P N FN node (v++[⟨nm,t,k⟩]) (w8.setCell (V,()) (.slice A3 (v.length+1) c3))∧w8.frozen? (V,())=false∧V<w8.heap.size∧w8.cell? (V,0)=some (.slice A v.length C))∧Fr (λb=>b=V∨obl (blk (.slice A v.length C)) b) w6 w8∧Fr (λb=>b=V∨obl (blk (.slice A v.length C)) b) w6 (w8.setCell (V,()) (.slice A3 (v.length+1) c3)) from by
           have f1:Fr nob w6 ((w6.alloc (.cells #[bs nm,t,k] 62)).drew):=((fR w6).alloc _).drew;have f2:Fr (λb=>b=V∨obl (blk (.slice A v.length C)) b) w6 w8:=f1.trans hf8 (λ_ _ x=>x.elim) (λ_ _ x=> .inr x);exact⟨S6.o.app (v:=⟨nm,t,k⟩) d5 f1 ho8 hf8 hv8,f2,f2.setCell _ _ (λ_=> .inl rfl)⟩)
       have hvl:v.length<=190300:=by have:=LN.o;have:=HJ.o;omega
       have KK:=hD (HK _ (Fr.refl _ w6).drew);have d5a:w6.drew.cell? (V,0)=some (.slice A v.length C):=d5;have d5b:(w6.drew.alloc (.cells #[bs nm,t,k] 62)).cell? (V,0)=some (.slice A v.length C):=(((fR w6).drew.alloc _).cell (p:=(V,())) hvb.lt (λx=>x)).trans d5;clear nc0 tc0 sc0 ht hk ha HNO EV hvo hvn hnc hvb S6 BN AB TB SB;go_wp2_with fail
       refine mV (λw'=>w'.cell? ⟨V,0,none⟩=some (.slice A v.length C)∧w'.cell? ⟨T,3,none⟩=some (.string (bs nm))∧w'.cell? ⟨T,4,none⟩=some (.slice (some ⟨ab,0,none⟩) 1 NC)∧w'.cell? ⟨P,2,none⟩=some (.slice (some ⟨g.tb,0,none⟩) g.p.ns.length g.tc)∧w'.cell? ⟨P,3,none⟩=some (.slice (some ⟨g.sb,0,none⟩) g.p.ns.length g.sc)∧w'.cell? ⟨ab,0,none⟩=some (.int .i64 (a:Nat))∧w'.cell? ⟨g.tb,a,none⟩=some (.int .i64 (t:Nat))∧w'.cell? ⟨g.sb,y,none⟩=some (.int .i64 (k:Nat))) 19 (by kernel_rfl) (by kernel_rfl) ⟨d5a,KK⟩ (λhHeld=>?_);clear d0 d3 d4 d5 a0 t0 s0 p0 p2 p3 pn pf;refine wpAnyH_take (i:=0) (v:=?_) rfl (by kernel_rfl) (by kernel_rfl) (by kernel_rfl) (λ_ _ _ h=>h) (Or.inl ⟨by rfl,?_⟩) (by assumption) ?_
       case refine_2=>(intro w hSw;(try dsimp only at hSw);go_simp;(try with_reducible rfl))
       simp only[Act.put,List.setIfInBounds_toArray,List.set_cons_zero,List.set_cons_succ];refine wpAnyH_take (i:=1) (v:=?_) rfl (by kernel_rfl) (by kernel_rfl) (by kernel_rfl) (λ_ _ _ h=>h) (Or.inl ⟨by rfl,?_⟩) (by assumption) ?_
       case refine_2=>(intro w hSw;(try dsimp only at hSw);go_simp;(try with_reducible rfl))
       simp only[Act.put,List.setIfInBounds_toArray,List.set_cons_zero,List.set_cons_succ];refine wpAnyH_take (i:=2) (v:=?_) rfl (by kernel_rfl) (by kernel_rfl) (by kernel_rfl) (λ_ _ _ h=>h) (Or.inl ⟨by rfl,?_⟩) (by assumption) ?_
       case refine_2=>(intro w hSw;(try dsimp only at hSw);go_simp;(try with_reducible rfl))
       simp only[Act.put,List.setIfInBounds_toArray,List.set_cons_zero,List.set_cons_succ];refine wpAnyH_take (i:=3) (v:=?_) rfl (by kernel_rfl) (by kernel_rfl) (by kernel_rfl) (λ_ _ _ h=>h) (Or.inl ⟨by rfl,?_⟩) (by assumption) ?_
       case refine_2=>(intro w hSw;(try dsimp only at hSw);go_simp;(try with_reducible rfl))
       simp only[Act.put,List.setIfInBounds_toArray,List.set_cons_zero,List.set_cons_succ];refine wpAnyH_take (i:=4) (v:=?_) rfl (by kernel_rfl) (by kernel_rfl) (by kernel_rfl) (λ_ _ _ h=>h) (Or.inl ⟨by rfl,?_⟩) (by assumption) ?_
       case refine_2=>(intro w hSw;(try dsimp only at hSw);go_simp;(try with_reducible rfl))
       simp only[Act.put,List.setIfInBounds_toArray,List.set_cons_zero,List.set_cons_succ];refine wpAnyH_take (i:=5) (v:=?_) rfl (by kernel_rfl) (by kernel_rfl) (by kernel_rfl) (λ_ _ _ h=>h) (Or.inl ⟨by rfl,?_⟩) (by assumption) ?_
       case refine_2=>(intro w hSw;(try dsimp only at hSw);go_simp;(try with_reducible rfl))
       simp only[Act.put,List.setIfInBounds_toArray,List.set_cons_zero,List.set_cons_succ];refine wpAnyH_take (i:=6) (v:=?_) rfl (by kernel_rfl) (by kernel_rfl) (by kernel_rfl) (λ_ _ _ h=>h) (Or.inl ⟨by rfl,?_⟩) (by assumption) ?_
       case refine_2=>(intro w hSw;(try dsimp only at hSw);go_simp;(try with_reducible rfl))
       simp only[Act.put,List.setIfInBounds_toArray,List.set_cons_zero,List.set_cons_succ];refine wpAnyH_take (i:=7) (v:=?_) rfl (by kernel_rfl) (by kernel_rfl) (by kernel_rfl) (λ_ _ _ h=>h) (Or.inl ⟨by rfl,?_⟩) (by assumption) ?_
       case refine_2=>(intro w hSw;(try dsimp only at hSw);go_simp;(try with_reducible rfl))
       simp only[Act.put,List.setIfInBounds_toArray,List.set_cons_zero,List.set_cons_succ];refine wpAnyH_take (i:=8) (v:=?_) rfl (by kernel_rfl) (by kernel_rfl) (by kernel_rfl) (λ_ _ _ h=>h) (Or.inl ⟨by rfl,?_⟩) (by assumption) ?_
       case refine_2=>(intro w hSw;(try dsimp only at hSw);go_simp;(try with_reducible rfl))
       simp only[Act.put,List.setIfInBounds_toArray,List.set_cons_zero,List.set_cons_succ];refine wpAnyH_take (i:=9) (v:=?_) rfl (by kernel_rfl) (by kernel_rfl) (by kernel_rfl) (λ_ _ _ h=>h) (Or.inl ⟨by rfl,?_⟩) (by assumption) ?_
       case refine_2=>(intro w hSw;(try dsimp only at hSw);go_simp;(try with_reducible rfl))
       simp only[Act.put,List.setIfInBounds_toArray,List.set_cons_zero,List.set_cons_succ];refine wpAnyH_take (i:=10) (v:=?_) rfl (by kernel_rfl) (by kernel_rfl) (by kernel_rfl) (λ_ _ _ h=>h) (Or.inl ⟨by rfl,?_⟩) (by assumption) ?_
       case refine_2=>(intro w hSw;(try dsimp only at hSw);go_simp;(try with_reducible rfl))
       simp only[Act.put,List.setIfInBounds_toArray,List.set_cons_zero,List.set_cons_succ];refine wpAnyH_take (i:=11) (v:=?_) rfl (by kernel_rfl) (by kernel_rfl) (by kernel_rfl) (λ_ _ _ h=>h) (Or.inl ⟨by rfl,?_⟩) (by assumption) ?_
       case refine_2=>(intro w hSw;(try dsimp only at hSw);go_simp;(try with_reducible rfl))
       simp only[Act.put,List.setIfInBounds_toArray,List.set_cons_zero,List.set_cons_succ];refine wpAnyH_take (i:=12) (v:=?_) rfl (by kernel_rfl) (by kernel_rfl) (by kernel_rfl) (λ_ _ _ h=>h) (Or.inl ⟨by rfl,?_⟩) (by assumption) ?_
       case refine_2=>(intro w hSw;(try dsimp only at hSw);go_simp;(try with_reducible rfl))
       simp only[Act.put,List.setIfInBounds_toArray,List.set_cons_zero,List.set_cons_succ];refine wpAnyH_take (i:=13) (v:=?_) rfl (by kernel_rfl) (by kernel_rfl) (by kernel_rfl) (λ_ _ _ h=>h) (Or.inl ⟨by rfl,?_⟩) (by assumption) ?_
       case refine_2=>(intro w hSw;(try dsimp only at hSw);go_simp;(try with_reducible rfl))
       simp only[Act.put,List.setIfInBounds_toArray,List.set_cons_zero,List.set_cons_succ];refine wpAnyH_take (i:=14) (v:=?_) rfl (by kernel_rfl) (by kernel_rfl) (by kernel_rfl) (λ_ _ _ h=>h) (Or.inl ⟨by rfl,?_⟩) (by assumption) ?_
       case refine_2=>(intro w hSw;(try dsimp only at hSw);go_simp;(try with_reducible rfl))
       simp only[Act.put,List.setIfInBounds_toArray,List.set_cons_zero,List.set_cons_succ];refine wpAnyH_take (i:=15) (v:=?_) rfl (by kernel_rfl) (by kernel_rfl) (by kernel_rfl) (λ_ _ _ h=>h) (Or.inl ⟨by rfl,?_⟩) (by assumption) ?_
       case refine_2=>(intro w hSw;(try dsimp only at hSw);go_simp;(try with_reducible rfl))
       simp only[Act.put,List.setIfInBounds_toArray,List.set_cons_zero,List.set_cons_succ];refine wpAnyH_take (i:=16) (v:=?_) rfl (by kernel_rfl) (by kernel_rfl) (by kernel_rfl) (λ_ _ _ h=>h) (Or.inl ⟨by rfl,?_⟩) (by assumption) ?_
       case refine_2=>(intro w hSw;(try dsimp only at hSw);go_simp;(try with_reducible rfl))
       simp only[Act.put,List.setIfInBounds_toArray,List.set_cons_zero,List.set_cons_succ];refine wpAnyH_ready (rs:=[17]) (by kernel_rfl) (by simp) ?_;refine AllReadyH.cons rfl (λK hK=>?_) AllReadyH.nil;go_simp;refine hK.out _ _ (⟨d5b,HK _ ((Fr.refl _ w6).drew.alloc _)⟩) (λhHeld=>?_);clear hK K;try simp only[Act.put,List.setIfInBounds_toArray,List.set_cons_zero,List.set_cons_succ]
       refine wpAnyH_ready (rs:=[18]) (by kernel_rfl) (by simp) ?_;refine AllReadyH.cons rfl (λK hK=>?_) AllReadyH.nil;refine step_append (v:= .slice A v.length C) (n:=v.length) (m:=1) (xs:=aH v) (news:=[bs nm,t,k]) (by rfl) _ _ (by rfl) qJ (by rfl) (by rfl) HV HR (by simp[Value.oneCell']) (by omega) (by unfold maxLen;omega) ?_;intro A3 c3 w8 ho8 hf8 hv8;have X:=HARM.o A3 c3 w8 ho8 hf8 hv8;have S9:=hD X.1.1;have f8:=X.1.2.1;have vlt:=X.1.2.2.1;have v5:=X.1.2.2.2;have K8:=HK.o _ X.2.1;clear ho8 hf8 hv8 X;refine hK.out _ _ (⟨v5,K8⟩) (λhHeld=>?_);clear hK K;try simp only[Act.put,List.setIfInBounds_toArray,List.set_cons_zero,List.set_cons_succ]
       clear K8 hHeld d5a d5b KK HK HARM HV HR;refine wpAnyH_done (by kernel_rfl) ?_ _;refine vB (L:=19) rfl (λK hK=>?_);go_simp;refine hK _ _ ?_;clear hK K;go_wp2
       go_roundw
       case rel=>exact⟨j+1,v++[⟨nm,t,k⟩],by have:=HJ.o;omega,by go_num,EV2,hD (by rw[aA3,List.length_singleton];have:=LN.o;omega),S9⟩
       case measure=>simp[intOf];have:=HJ.o;omega
      | test kind line a q hk hb hq3 hq0=>
       have EV2:=hD (EV.o.trans (nM v HYN hk HND));obtain⟨ab,e9,nc0⟩:=(HNO.o.fr S6.o.fr (λ_ _ x=>x)).some (by simp);subst e9;obtain⟨b1,q,rfl⟩:∃b1 q',q=b1 :: q':=by
         cases q with
         | nil=>simp at hq0
         | cons b1 q=>exact⟨b1,q,rfl⟩
       have S7:=hD (S6.o.no (fR w6).drew);have CT:=hD (aFl (F:=63) (caps:=qX V P N FN) (S:=λv w=>Vw g w0 V P N FN node v w) (rec:=rec) (vs:=v) (l:=b1 :: q) (b:=ab) (o:=1) (c:=NC - 1) aAy
         (λb hbm w' hw'=>HREC.o b v w' (by have:=(hb b hbm).1;have:=HYX.o;omega) (hb b hbm).2 (by have:=LN.o;have:=HM.o;have:=HJ.o;omega) hw')
         (λb _ h=>HFIX.o b v h)
         (λw' hw' j b hjb=>by
           obtain⟨ab',e9,nc1⟩:=(HNO.o.fr hw'.fr (λ_ _ x=>x)).some (by simp);injection e9 with e9;injection e9 with e9;subst e9;rw[Nat.add_comm 1 j];exact nc1 (j+1) b (by show (List.map (λx:Nat=>Value.int .i64 (x:Nat)) (b1 :: q))[j]?=_;rw[List.getElem?_map,hjb];rfl))
         hq3 S7)
       have d4:w6.cell? (T,4)=(ab,(a :: b1 :: q).length,NC):=(BN.o.cell 4).trans rfl;obtain⟨n,hn⟩:∃n,(b1 :: q).length=n:=⟨_,rfl⟩;have hn2:(a :: b1 :: q).length=n+1:=by rw[<-hn];rfl
       rw[hn2] at d4 hnc;rw[hn] at CT hq3;have hnc2:((n+1:Nat):Int)<=(NC:Int):=by omega
       have hn1:(1:Int)<=(n:Int)+1:=by omega
       have hnc3:(n:Int)+1<=(NC:Int):=by omega
       have hnc4:2<=NC:=by have:(b1 :: q).length=n:=hn;simp at this;omega
       clear nc0 HNO EV hvo hvn hb hn hn2 hq0 S7;rcases hk with rfl|rfl
       focus
        go_wp2_with fail
        refine wp_region_still_tail 13 (by kernel_rfl) (by kernel_rfl) ?_;simp only[List.take_succ_cons,List.take_zero,List.drop_succ_cons,List.drop_zero];iterate 4 still_step
        iterate 3 (with_reducible refine gD (by kernel_rfl) ?_;simp only[Act.put,List.setIfInBounds_toArray,List.set_cons_zero,List.set_cons_succ])
       rotate_left
       focus
        go_wp2_with fail
        refine wp_region_still_tail 13 (by kernel_rfl) (by kernel_rfl) ?_;simp only[List.take_succ_cons,List.take_zero,List.drop_succ_cons,List.drop_zero];iterate 4 still_step
        iterate 3 (with_reducible refine iI (by kernel_rfl) (λK hK=>?_);go_simp;refine hK _ ?_;clear hK K)
       all_goals
        iterate 2 still_step
        iterate 4 (with_reducible refine iI (by kernel_rfl) (λK hK=>?_);go_simp;refine hK _ ?_;clear hK K)
        refine wpStill_nil ?_;change wpList _ _ _ _ _ w6.drew;clear d0 d4 d5 p0 p2 p3 pn pf BN S6 heb;generalize w6.drew=w7 at *;go_wp2_with fail
        refine CT.o.mono ?_;rintro en w8 ⟨rfl,h8⟩;obtain⟨bb,hbb⟩:∃bb,(kW rec (b1 :: q) v).1=bb:=⟨_,rfl⟩;rw[hbb];rw[hbb] at EV2;have S8:=hD h8;have HBB:=hD hbb;clear h8 hbb CT;cases bb with
        | true=>
          go_wp2
          go_ret;rw[lW (EV2.o.trans (by first|exact if_pos rfl|exact if_pos trivial|simp))];exact⟨rfl,S8⟩
        | false=>
          have EV3:=hD (EV2.o.trans (by first|exact if_neg (by decide)|exact if_neg not_false));have FX:=hD (aCs HFIX _ _ HBB);go_wp2
          go_roundw
          case rel=>exact⟨j+1,(kW rec (b1 :: q) v).2,by have:=HJ.o;omega,by go_num,EV3,hD (by rw[FX.o];have:=LN.o;omega),S8⟩
          case measure=>simp[intOf];have:=HJ.o;omega
      | other nd h0 h1 h2=>
       have EV2:=hD (EV.o.trans (oJ v HYN HND h0 h1 h2));have i0:((nd.kind:Int)==10)=false:=bN.2 (by omega);have i1:((nd.kind:Int)==15)=false:=bN.2 (by omega);have i2:((nd.kind:Int)==16)=false:=bN.2 (by omega);clear h0 h1 h2 EV HNO hvo hvn;go_wp2_with fail
       go_quiet (fail)
       have S7:=hD (S6.o.no ((fR w6).drewN nq));clear d0 d5 p0 p2 p3 pn pf BN S6 heb i0 i1 i2;generalize w6.drewN nq=w7 at *;go_wp2
       go_roundw
       case rel=>exact⟨j+1,v,by have:=HJ.o;omega,by go_num,EV2,hD (by have:=LN.o;omega),S7⟩
       case measure=>simp[intOf];have:=HJ.o;omega
  . have hlt2:¬(j:Int)<(l.length:Int):=by omega
    have HF:=hD (show iN g.p.ns g.p.types g.p.slots node rec l vs=(false,v) from by rw[EQ.o,List.drop_of_length_le (by omega)];rfl);obtain⟨-,-,-,-,-,A,C,d5,ho,hc,hnew⟩:=SS.o.cells;obtain⟨A',c',hb,-,-⟩:=SS.o.vc;have f5:=hb.frozen 0;have vlt:=hb.lt;have hmv:(m:Int)<=(C:Int):=by have:=LN.o;omega
    have hm0:(0:Int)<=(m:Int):=by omega
    have FIN:=hD (show Vw g w0 V P N FN node (v.take m) (wr.setCell (V,()) (.slice A m C)) from by
      have e:(v.take m).length=m:=by rw[List.length_take];have:=LN.o;omega
      have o2:=ho.cut (m:=m) LN.o.1;rw[kF] at o2;have:=SS.o.set (us:=v.take m) (A:=A) (c:=C) (by rw[e];exact o2) (by rw[e];intro b hb;exact hnew b (by cases A<;>first|(simp[blk] at hb;done)|exact hb));rw[e] at this;exact this)
    clear hb ho hc hnew SS EQ hj hlt LN;go_wp2
    go_ret;rw[pU HF.o,HM.o];exact⟨rfl,FIN⟩
end
section
variable {g:PgV}{w0 w w1:World}{V P N FN node:Nat}{vs:List bT}
theorem aBq (PG:PgW g w0):∀(f x:Nat) (vs:List bT) (w:World),x<f->(∃nd,g.p.ns[x]?=some nd∧nd.kind=18)->vs.length+300*f<=190000->Vw g w0 V P N FN node vs w ->
  Calls prog 63 (#[.int .i64 (x:Nat)]++qX V P N FN) w λen w'=>en = .returned (.bool (kY g.p.ns g.p.types g.p.slots node f x vs).1)∧Vw g w0 V P N FN node (kY g.p.ns g.p.types g.p.slots node f x vs).2 w'
 | 0,x,_,_,h,_,_,_=>absurd h (Nat.not_lt_zero _)
 | f+1,x,vs,w,hx,⟨nd,hnd,hk⟩,hlen,h=>by
  obtain⟨line,l,rfl,h3,hl⟩:=PG.blocks x nd hnd hk;have e:∀v,kY g.p.ns g.p.types g.p.slots node (f+1) x v=aKz g.p.ns g.p.types g.p.slots node (kY g.p.ns g.p.types g.p.slots node f) l v:=λv=>by
   rw[kY,hnd];rfl
  rw[e];exact aGk PG hnd h3 (by omega) (λy v w' hy hb hv hw=>aBq PG f y v w' (by omega) hb (by omega) hw) (λy v h=>aBp f y v h) hl h
def kX (ps:List (List UInt8×Nat)):List bT:=ps.zipIdx.map λq=>⟨q.1.1,q.1.2,q.2⟩
theorem sD (ps:List (List UInt8×Nat)) (q:List UInt8×Nat):kX (ps++[q])=kX ps++[⟨q.1,q.2,ps.length⟩]:=by
 unfold kX;rw[List.zipIdx_append];simp
theorem nW (ps:List (List UInt8×Nat)):(kX ps).length=ps.length:=by unfold kX;simp
def tL (p:gB) (node:Nat) (f:aG):List bT:=
 if (kY p.ns p.types p.slots node p.ns.length f.body (kX f.params)).1=true then (kY p.ns p.types p.slots node p.ns.length f.body (kX f.params)).2 else []
structure Vr (w0:World) (V:Nat) (RS:List (Nat×TypeId×Array Value)) (vs:List bT) (w:World):Prop where
 fr:Fr nob w0 w
 vc:∃A c,Blk w V 58 #[.slice A vs.length c]∧Own w 62 3 (.slice A vs.length c) vs.length (aH vs)∧∀b,blk (.slice A vs.length c)=some b->w0.heap.size<=b
 hV:w0.heap.size<=V
 rc:∀q∈RS,Blk w q.1 q.2.1 q.2.2∧q.2.1≠62∧q.2.1≠58
theorem Vr.no {RS:List (Nat×TypeId×Array Value)} (h:Vr w0 V RS vs w) (f:Fr nob w w1):Vr w0 V RS vs w1:=by
 obtain⟨A,c,hb,ho,hn⟩:=h.vc;exact⟨h.fr.tr f,⟨A,c,hb.fr f (λx=>x),ho.fr f (λ_ _ x=>x),hn⟩,h.hV,λq hq=>⟨(h.rc q hq).1.fr f (λx=>x),(h.rc q hq).2⟩⟩
theorem Vr.app {RS:List (Nat×TypeId×Array Value)} (h:Vr w0 V RS vs w) (hc:w.cell? (V,0)=some (.slice A vs.length c)) (f1:Fr nob w w1){v:bT}{A6:Option Addr}{c6:Nat}{w6:World} (ho6:Own w6 62 3 (.slice A6 (vs.length+1) c6) (vs.length+1) (aH vs++[.string (bs v.name),.int .i64 (v.ty:Nat),.int .i64 (v.slot:Nat)]))
  (hf6:Fr (obl (blk (.slice A vs.length c))) w1 w6) (hv6:blk (.slice A6 (vs.length+1) c6)=blk (.slice A vs.length c)∨blk (.slice A6 (vs.length+1) c6)=some w1.heap.size):
  Vr w0 V RS (vs++[v]) (w6.setCell (V,()) (.slice A6 (vs.length+1) c6))∧w6.frozen? (V,())=false∧V<w6.heap.size∧w6.cell? (V,0)=some (.slice A vs.length c)∧∀q∈RS,Blk w6 q.1 q.2.1 q.2.2:=by
 have h1:=h.no f1;obtain⟨A',c',hb,ho,hn⟩:=h.vc;have e:w.cell? (V,0)=some (.slice A' vs.length c'):=(hb.cell 0).trans rfl;rw[hc] at e;injection e with e;injection e with e1 _ e2;subst e1;subst e2;have ho1:=ho.fr f1 (λ_ _ x=>x);have hb1:=hb.fr f1 (λx=>x);have hb6:=hb1.fr hf6 (λhm=>ho1.aD hb1 (by decide) hm);have n1:∀b,blk (.slice A6 (vs.length+1) c6)=some b->w0.heap.size<=b:=λb hb=>by
  rcases hv6 with e|e
  . exact hn b (e ▸ hb)
  . rw[e] at hb;injection hb with hb
    have:=h1.fr.size;omega
 have hlen:(vs++[v]).length=vs.length+1:=by simp
 have f6:Fr nob w0 w6:=h1.fr.trans hf6 (λ_ _ x=>x) (λb hlt hm=>by have:=hn b hm;omega);have f:Fr (bY V) w6 (w6.setCell (V,()) (.slice A6 (vs.length+1) c6)):=(Fr.refl _ w6).setCell _ _ (λ_=>rfl);have rc6:∀q∈RS,Blk w6 q.1 q.2.1 q.2.2:=λq hq=>(h1.rc q hq).1.fr hf6 (λhm=>ho1.aD (h1.rc q hq).1 (λe=>(h1.rc q hq).2.1 e.symm) hm)
 refine⟨⟨f6.trans f (λ_ _ x=>x) (λb hlt hm=>by have hm:b=V:=hm;have:=h.hV;omega),⟨A6,c6,by rw[hlen];exact hb6.setCell 0 _,?_,by rw[hlen];exact n1⟩,h.hV,
  λq hq=>⟨(rc6 q hq).far (p:=(V,())) ((rc6 q hq).ne hb6 (h.rc q hq).2.2) _,(h.rc q hq).2⟩⟩,hb6.frozen 0,hb6.lt,(hb6.cell 0).trans rfl,rc6⟩
 rw[hlen,fH];exact ho6.far (p:=(V,())) (ho6.aD hb6 (by decide)) _
end
end Go.Proofs.YtlbjicjinnnboaaGreatDoor
