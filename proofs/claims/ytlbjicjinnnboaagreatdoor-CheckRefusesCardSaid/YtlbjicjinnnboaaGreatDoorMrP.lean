/- MrP: CsE, KsA, KsB, KsQ, TrM, TrS2, KsS, KsR, RgLast, VxA, VxB, VxH, KsAl, Uq, CkA. -/
import Derived.Test.YtlbjicjinnnboaaGreatDoorMrO
import Derived.Test.YtlbjicjinnnboaaGreatDoorMrF
import Derived.Test.YtlbjicjinnnboaaGreatDoorMrE
import Derived.Test.YtlbjicjinnnboaaGreatDoorMrA
import Derived.Deep.RegionHeld
import Derived.StillTail
import Derived.Test.YtlbjicjinnnboaaGreatDoorMrG
import Derived.Deep.RegionLaw
import Derived.BigQuiet
import Derived.Laws.EntriesVeiled
import Derived.Test.YtlbjicjinnnboaaGreatDoorMrJ
set_option maxHeartbeats 8000000
set_option maxRecDepth 100000
set_option linter.unusedVariables false
set_option linter.unusedSimpArgs false
/- The checker: what is counted of a program's lets. -/
namespace Go.Proofs.YtlbjicjinnnboaaGreatDoor
open Go.RowKit Go.Proofs.Tryz
open Pw
section
variable {p:gB}
end
section
variable {g:PgV}{ub zb:Nat}{w w':World}
end
theorem qE (src:List UInt8):∃r,dJ src=some r:=by
 obtain⟨r,hr⟩:=tJ src;unfold dJ;rw[hr];exact⟨_,rfl⟩
structure aSe (V:World->Prop):Prop where
 no:∀w w',V w->Fr nob w w'->V w'
 src:∀(src:ByteArray) (w:World),V w->src.size≤281474976710656->∀r:fD,dJ src.data.toList=some r->Calls prog 28 #[src] w λen w'=>jB w' en r∧Fr nob w w'
end Go.Proofs.YtlbjicjinnnboaaGreatDoor
/- The program's Source, as the laws' walks ask for it. -/
namespace Go.Proofs.YtlbjicjinnnboaaGreatDoor
open Go.RowKit Go.Proofs.Tryz
theorem aRs:aSe aAc:=⟨λ_ _ h f=>h.no f,λsrc w hv hs _ hr=>yM src w hv hs hr⟩
def zp {α:Type} (z:α->α):Nat->List α->List α
 | 0,l=>l
 | _+1,[]=>[]
 | j+1,a :: l=>z a :: zp z j l
structure TB (b:Nat) (nv fv:Value) (lvs pvs:List Value) (ns:List aH) (fs:List aD) (w:World):Prop where
 tree:dL 0 w nv fv lvs pvs ns fs
 box:Blk w b 26 #[nv,fv]
section
variable {b:Nat}{nv fv:Value}{lvs pvs:List Value}{ns:List aH}{fs:List aD}{w w':World}
theorem TB.no (h:TB b nv fv lvs pvs ns fs w) (f:Fr nob w w'):TB b nv fv lvs pvs ns fs w':=⟨h.tree.no f,h.box.fr f (λx=>x)⟩
theorem TB.cells (h:TB b nv fv lvs pvs ns fs w):w.cell? (b,0)=some nv∧w.cell? (b,1)=some fv:=⟨by simpa using h.box.cell 0,by simpa using h.box.cell 1⟩
theorem one_set (w:World) (g i:Nat) (u:Value):Fr (dG g) w (w.setCell (g,i) u):=(Fr.refl _ w).setCell _ _ (λ_=>rfl)
theorem TB.far (h:TB b nv fv lvs pvs ns fs w){g i:Nat}{t:TypeId}{cs:Array Value} (hg:Blk w g t cs) (ht:t=50∨t=48) (hn:blk nv≠some g) (hf:blk fv≠some g) (u:Value):TB b nv fv lvs pvs ns fs (w.setCell (g,i) u):=by
 refine⟨⟨h.tree.nodes.far hn u,bJ.one hg (by rcases ht with rfl|rfl<;>decide) h.tree.below (one_set w g i u),h.tree.same,h.tree.fns.far hf u,h.tree.pars.to (one_set w g i u) (λk cs' hk hm=>?_),h.tree.samef,h.tree.newn,h.tree.newf⟩,h.box.far (p:=(g,i)) (h.box.ne hg (by rcases ht with rfl|rfl<;>decide)) u⟩;have e:k=g:=hm;subst e;exact hk.ne hg (by rcases ht with rfl|rfl<;>decide) rfl
end
/- Two rows of the same numbers. -/
section
variable {nv fv nv2 fv2:Value}{lvs pvs lvs2 pvs2:List Value}{ns:List aH}{fs:List aD}{w w':World}
def TT (B:Nat) (nv fv nv2 fv2:Value) (lvs pvs lvs2 pvs2:List Value) (ns:List aH) (fs:List aD) (w:World):Prop:=TB B nv fv lvs pvs ns fs w∧TB (B+1) nv2 fv2 lvs2 pvs2 ns fs w
theorem TT.no {B:Nat} (h:TT B nv fv nv2 fv2 lvs pvs lvs2 pvs2 ns fs w) (f:Fr nob w w'):TT B nv fv nv2 fv2 lvs pvs lvs2 pvs2 ns fs w':=⟨h.1.no f,h.2.no f⟩
end
open Pw
end Go.Proofs.YtlbjicjinnnboaaGreatDoor
/- The reference's parser, as the laws' walks ask for it. -/
namespace Go.Proofs.YtlbjicjinnnboaaGreatDoor
open Go.RowKit Go.Proofs.Tryz
end Go.Proofs.YtlbjicjinnnboaaGreatDoor
/- A region whose last operation waits for all others: what is held needs not to be held behind it. -/
namespace Go.Proofs.YtlbjicjinnnboaaGreatDoor
open Go
variable {L i:Nat}{listed:Array Bool}{a:Act}{w:World}
section
variable {P:Program}{ops:Array Oper}{Q:Exit->Act->World->Prop}{md:Region.Mode}{S:World->Prop}
def aIx (md:Region.Mode) (ops:Array Oper):Bool:=
 (List.range ops.size).all λj=>((ops[j]?).map λo=>o.after.all λe=> !Region.binds md e || decide (e.on<j)).getD true
theorem lV (h:aIx md ops=true){j:Nat}{o:Oper} (ho:ops[j]?=some o):∀e∈o.after,Region.binds md e=true->e.on<j:=by
 intro e he hb;have hj:j<ops.size:=(Array.getElem?_eq_some_iff.1 ho).1;have h1:=List.all_eq_true.1 h j (List.mem_range.2 hj);rw[ho] at h1;simp only[Option.map_some,Option.getD_some] at h1;have h2:=Array.all_eq_true_iff_forall_mem.1 h1 e he;rw[hb] at h2;simpa using h2
def lastB (md:Region.Mode) (ops:Array Oper) (L:Nat):Bool:=decide (L+1=ops.size) && aIx md ops && Region.sinkB md ops L
structure aJo (md:Region.Mode) (ops:Array Oper) (L:Nat) (listed:Array Bool):Prop where
 size:listed.size=ops.size
 closed:∀j oj,ops[j]?=some oj->listed.getD j false=true->∀e∈oj.after,Region.binds md e=true->listed.getD e.on false=true
 last:listed.getD L true=false
def aLl (P:Program) (ops:Array Oper) (Q:Exit->Act->World->Prop) (L:Nat):Exit->Act->World->Prop
 | .normal,a,w=>wpOp P ops Q L (λa w=>Q .normal a w) a w
 | e,a,w=>Q e a w
theorem wW (hi:i<listed.size) (h:listed.getD i true=true):listed.getD i false=true:=by
 simp[hi] at h ⊢;exact h
theorem aJo.full (hs:Region.sinkB md ops L=true) (hL:L+1=ops.size) (inv:aJo md ops L listed) (hr:L∈Region.ready md ops listed):∀k i,i+k=L->0<k->listed.getD i false=true:=by
 intro k;induction k using Nat.strongRecOn with
 | ind k ih=>
  intro i hik hk;have h1:=List.all_eq_true.1 hs i (List.mem_range.2 (by omega));obtain⟨j,hj,hw⟩:=List.any_eq_true.1 h1;rw[List.mem_range] at hj;simp only[Bool.and_eq_true,decide_eq_true_eq] at hw;obtain⟨oj,hoj,e,he,hb,rfl⟩:=Region.waitsFor_spec hw.2;by_cases hjL:j=L
  . subst hjL
    obtain⟨_,o,ho,hall⟩:=mem_ready.1 hr;rw[hoj] at ho;injection ho with ho;subst ho;exact hall e he hb
  . exact inv.closed j oj hoj (ih (L - j) (by omega) j (by omega) (by omega)) e he hb
theorem aJo.set (inv:aJo md ops L listed) (hi:i∈Region.ready md ops listed) (hiL:i≠L):aJo md ops L (listed.setIfInBounds i true):=by
 obtain⟨_,oi,hoi,hall⟩:=mem_ready.1 hi;refine⟨by simp[inv.size],λj oj hj hl e he hb=>?_,by rw[getD_set_ne true hiL];exact inv.last⟩;have up:∀m,listed.getD m false=true->(listed.setIfInBounds i true).getD m false=true:=λm hm=>by
   by_cases h:i=m
   . subst h
     have:i<listed.size:=by
      rcases Nat.lt_or_ge i listed.size with h'|h'
      . exact h'
      . simp[Array.getElem?_eq_none h'] at hm
     simp[this]
   . rw[getD_set_ne false h];exact hm
 by_cases hij:i=j
 . subst hij
   have:oj=oi:=Option.some.inj (hj.symm.trans hoi);subst this;exact up _ (hall e he hb)
 . rw[getD_set_ne false hij] at hl
   exact up _ (inv.closed j oj hj hl e he hb)
theorem tC (hb:aIx md ops=true) (hL:L+1=ops.size) (inv:aJo md ops L listed) (hiL:i≠L) (h:i∈Region.ready md ops listed):i∈Region.ready md ops (listed.setIfInBounds L true):=by
 obtain⟨h0,o,ho,hall⟩:=mem_ready.1 h;have hlt:i<ops.size:=(Array.getElem?_eq_some_iff.1 ho).1;refine mem_ready.2 ⟨by rw[getD_set_ne true (Ne.symm hiL)];exact h0,o,ho,λe he hbe=>?_⟩;have:=lV hb ho e he hbe;rw[getD_set_ne false (by omega)];exact hall e he hbe
theorem aCk (hb:aIx md ops=true) (hL:L+1=ops.size) (inv:aJo md ops L listed) (h:i∈Region.ready md ops (listed.setIfInBounds L true)):i≠L∧i∈Region.ready md ops listed:=by
 obtain⟨h0,o,ho,hall⟩:=mem_ready.1 h;have hlt:i<ops.size:=(Array.getElem?_eq_some_iff.1 ho).1;have hiL:i≠L:=λe=>by
  subst e;have:=inv.size;simp[show i<listed.size by omega] at h0
 refine⟨hiL,mem_ready.2 ⟨by rw[getD_set_ne true (Ne.symm hiL)] at h0;exact h0,o,ho,λe he hbe=>?_⟩⟩;have:=lV hb ho e he hbe;have h2:=hall e he hbe;rw[getD_set_ne false (by omega)] at h2;exact h2
theorem sZ (hb:aIx md ops=true) (hL:L+1=ops.size) (inv:aJo md ops L listed):Region.ready md ops listed≠[]:=by
 intro h;have key:∀k,k<ops.size->listed.getD k false=true:=by
  intro k;induction k using Nat.strongRecOn with
  | ind k ih=>
   intro hk;cases hc:listed.getD k true with
   | true=>exact wW (by have:=inv.size;omega) hc
   | false=>
    obtain⟨o,ho⟩:∃o,ops[k]?=some o:=⟨_,Array.getElem?_eq_getElem hk⟩;have:k∈Region.ready md ops listed:=mem_ready.2 ⟨hc,o,ho,λe he hbe=>ih e.on (lV hb ho e he hbe) (by have:=lV hb ho e he hbe;omega)⟩;rw[h] at this;cases this
 have h1:=key L (by omega);have h2:=inv.last;have:=inv.size;simp[show L<listed.size by omega] at h1 h2
 rw[h1] at h2;cases h2
theorem aBo {K:Act->World->Prop} (h:wpOp P ops (aLl P ops Q L) i K a w):wpOp P ops Q i K a w:=by
 unfold wpOp at *;split
 . rename_i ho;simpa[ho] using h
 . rename_i o ho
   simp only[ho] at h;split
   . rename_i hw
     simp only[hw,if_true] at h;refine h.imp (λh=>?_) (λh=>h);unfold Oper.wp at *;generalize (execOp a.eval o).run P w=r at *;cases r with
     | ok n w'=>
      cases n<;>simp only[Oper.upon] at h ⊢ <;>first
       | exact h
       | exact Calls.mono h (λe w'' he=>by cases e<;>exact he)
     | halt x w'=>cases x<;>simp only[Oper.upon] at h ⊢ <;>exact h
   . rename_i hw;simpa[hw] using h
theorem aBp (hB:lastB md ops L=true):∀(fuel:Nat) (listed:Array Bool) (a:Act) (w:World),aJo md ops L listed ->
  wpAny P md ops (aLl P ops Q L) fuel (listed.setIfInBounds L true) a w->wpAny P md ops Q (fuel+1) listed a w:=by
 simp only[lastB,Bool.and_eq_true,decide_eq_true_eq] at hB;obtain⟨⟨hL,hb⟩,hs⟩:=hB;intro fuel;induction fuel with
 | zero=>
  intro listed a w inv H;refine⟨λh=>absurd h (sZ hb hL inv),λi hi=>?_⟩;by_cases hiL:i=L
  . subst hiL
    exact wpOp_mono (λa' w' hq=>⟨H.1,hq⟩) H.2
  . have:=tC hb hL inv hiL hi
    rw[H.1] at this;cases this
 | succ fuel ih=>
  intro listed a w inv H;refine⟨λh=>absurd h (sZ hb hL inv),λi hi=>?_⟩;by_cases hiL:i=L
  . subst hiL
    have full:=inv.full hs hL hi;have hnone:Region.ready md ops (listed.setIfInBounds i true)=[]:=by
     rw[List.eq_nil_iff_forall_not_mem];intro j hj;obtain⟨hji,hjr⟩:=aCk hb hL inv hj;obtain⟨h0,o,ho,_⟩:=mem_ready.1 hjr;have hlt:j<ops.size:=(Array.getElem?_eq_some_iff.1 ho).1;have h1:=full (i - j) j (by omega) (by omega);have:=inv.size;simp[show j<listed.size by omega] at h0 h1
     rw[h0] at h1;cases h1
    exact wpOp_mono (λa' w' hq=>⟨λ_=>hq,by rw[hnone];simp⟩) (H.1 hnone)
  . have h1:=aBo (H.2 i (tC hb hL inv hiL hi))
    refine wpOp_mono (λa' w' h2=>ih _ a' w' (inv.set hi hiL) ?_) h1;rw[Array.setIfInBounds_comm _ _ hiL];exact h2
theorem rU {id:Nat} (S:World->Prop) (L:Nat) (hm:P.follows .mixedOrders=true) (hB:lastB .any ops L=true) (hS:S w.drew)
  (h:S w.drew->wpAnyH P .any ops (aLl P ops Q L) S L ((Array.replicate ops.size false).setIfInBounds L true) a w.drew):(Code.region id ops true).wp P Q a w:=by
 have hL:L+1=ops.size:=by
  simp only[lastB,Bool.and_eq_true,decide_eq_true_eq] at hB;exact hB.1.1
 refine wp_region_any hm ?_;have inv:aJo .any ops L (Array.replicate ops.size false):=⟨by simp,λj oj hj hl=>by
  exfalso
  have hlt:j<ops.size:=(Array.getElem?_eq_some_iff.1 hj).1;simp[hlt] at hl,by simp[show L<ops.size by omega]⟩
 have:=aBp hB L _ a w.drew inv (wpAny_of_held _ _ _ _ (h hS));rw[hL] at this;exact this
theorem aDk {o:Oper} (ho:ops[L]?=some o)
 (h:∀K:Act->World->Prop,(∀a w,Q .normal a w->K a w)->if Region.wanted o (yielded ops a.tmps)=true then Oper.wp P o a w K Q else K (a.put o.dst undef) w):aLl P ops Q L .normal a w:=wpOp_step ho h
end
end Go.Proofs.YtlbjicjinnnboaaGreatDoor
/- The program's Visible, at the document's example alone. -/
namespace Go.Proofs.YtlbjicjinnnboaaGreatDoor
open Go.RowKit Go.Proofs.Tryz
open Pw
variable {w:World}{nv fv sv uv zv:Value}{lvs pvs:List Value}{p:gB}{fs:List aD}{j:Nat}{vars:List mU}{name:List UInt8}
def VX (w:World) (L:List (Nat×Nat×Value)):Prop:=∀x∈L,w.cell? (x.1,x.2.1)=some x.2.2
theorem VX.up {w':World}{L:List (Nat×Nat×Value)}{B:Nat} (h:VX w L) (hB:w.heap.size≤B) (f:Fr (λb=>B≤b) w w'):VX w' L:=λx hx=>by
 have h1:=h x hx;have h2:x.1<w.heap.size:=World.block_lt_of_cell? _ _ h1;exact (f.cell (p:=(x.1,x.2.1)) h2 (λhb=>by have hb:B≤x.1:=hb;omega)).trans h1
def vxL (nb fb tb sb ub kb ab mb kc ac mc pc:Nat) (pa:Option Addr):List (Nat×Nat×Value):=
 [(nb,20,.int .i64 18),(nb,21,.int .i64 1),(nb,22,.int .i64 0),(nb,23,.string (bs [])),(nb,24,.slice (some (kb,())) 2 kc),(kb,0,.int .i64 1),(kb,1,.int .i64 3),
  (nb,5,.int .i64 10),(nb,6,.int .i64 1),(nb,7,.int .i64 0),(nb,8,.string (bs [97])),(nb,9,.slice (some (ab,())) 1 ac),(ab,0,.int .i64 0),
  (nb,15,.int .i64 14),(nb,16,.int .i64 1),(nb,17,.int .i64 0),(nb,18,.string (bs [])),(nb,19,.slice (some (mb,())) 1 mc),(tb,0,.int .i64 1),(sb,1,.int .i64 0),
  (fb,0,.string (bs [109,97,105,110])),(fb,1,.int .i64 1),(fb,2,.slice pa 0 pc),(fb,3,.int .i64 0),(fb,4,.int .i64 4),(ub,3,.int .i64 0)]
section
variable {w0 w:World}{nb fb tb sb ub zb kb ab mb nc fc tc sc uc zc kc ac mc pc V P N FN:Nat}{pa:Option Addr}
theorem aNp (X:VX w0 (vxL nb fb tb sb ub kb ab mb kc ac mc pc pa)) (f0:Fr nob w0 w) (hV:w0.heap.size≤V) (hk:2≤kc) (ha:1≤ac) (bV:Blk w V 58 #[Un])
  (bP:Blk w P 29 #[(nb,5,nc),(fb,1,fc),(tb,5,tc),(sb,5,sc),(ub,5,uc),(zb,1,zc)]) (jN:Blk w N 3 #[U3]):
  Calls prog 63 #[U4,(V,()),(P,()),(N,()),(FN,())] w λen w'=>en = .returned true∧∃A c,w'.cell? (V,0)=some (.slice A 1 c)∧Fr (λb=>w0.heap.size≤b) w0 w':=by
 have HX:=hD X;have F0:Hd (Fr (λb=>w0.heap.size≤b) w0 w):=f0.aEv;have BV:=hD bV;have BP:=hD bP;have BN:=hD jN;have HV:=hD hV;have x:=X.up (Nat.le_refl _) F0.o;simp only[VX,vxL,List.mem_cons,List.not_mem_nil,or_false,forall_eq_or_imp,forall_eq] at x;obtain⟨x20,x21,x22,x23,x24,xk0,xk1,-⟩:=x;have p0:=(bP.cell 0).trans rfl;have v0:=(bV.cell 0).trans rfl;clear X f0 bV bP jN hV;go_enter func63,ntmps63;go_wp2
 clear x20 x21 x22 x23 x24 xk0 xk1 p0 v0;go_loopw [21] (λi wr=>∃j:Nat,i = .int .i64 j∧Hd (Fr (dG V) w wr)∧Hd ((j=0∧Blk wr V 58 #[Un])∨(j=1∧∃A c,Blk wr V 58 #[.slice A 1 c]))) (λi _=>2 - (intOf i).toNat)
 case atStart=>exact⟨0,rfl,hD (Fr.refl _ w),hD (.inl ⟨rfl,BV⟩)⟩
 case round=>
  obtain⟨j,rfl,FR,HJ⟩:=hrel;have x:=HX.o.up (Nat.le_refl _) (F0.o.trans FR (λ_ _ h=>h) (λ_ _ h=>by rw[show _=V from h];exact HV));simp only[VX,vxL,List.mem_cons,List.not_mem_nil,or_false,forall_eq_or_imp,forall_eq] at x;obtain⟨x20,x21,x22,x23,x24,xk0,xk1,x5,x6,x7,x8,x9,xa,x15,x16,x17,x18,x19,xt,xs,-⟩:=x;have BPr:=hD (BP.o.fr FR (λh=>BP.o.ne BV (by decide) h));have BNr:=hD (BN.o.fr FR (λh=>BN.o.ne BV (by decide) h));obtain⟨p0,p1,p2,p3,-⟩:=BPr.o.sixth;have n0:=(BNr.o.cell 0).trans rfl;rcases HJ.o with ⟨rfl,hb⟩|⟨rfl,A,c,hb⟩
  . have v0:=(hb.cell 0).trans rfl
    have O1:Obj:= .cells #[.int .i64 10,.int .i64 1,.int .i64 0,.string (bs [97]),.slice (some ⟨ab,0,none⟩) 1 ac] 50;have BT:=hD (Blk.new wr 50 #[.int .i64 10,.int .i64 1,.int .i64 0,.string (bs [97]),.slice (some ⟨ab,0,none⟩) 1 ac]);have FA:=hD ((fR wr).alloc (.cells #[.int .i64 10,.int .i64 1,.int .i64 0,.string (bs [97]),.slice (some ⟨ab,0,none⟩) 1 ac] 50));have HB:=hD hb;have FL:=hD (F0.o.trans FR (M:=λb=>w0.heap.size≤b) (λ_ _ h=>h) (λ_ _ h=>by rw[show _=V from h];exact HV));clear O1 hb x15 x16 x17 x18 x19;go_upto_region 6 with fail;clear x20 x21 x22 x23 x24 xk0 xk1 x5 x6 x7 x8 x9 xa xt xs p0 p1 p2 p3 n0 v0;generalize wr.alloc (.cells #[.int .i64 10,.int .i64 1,.int .i64 0,.string (bs [97]),.slice (some ⟨ab,0,none⟩) 1 ac] 50)=w6 at *;generalize wr.heap.size=T at *;have t0:=(BT.o.cell 0).trans rfl;have n0:=((BNr.o.fr FA (λx=>x)).cell 0).trans rfl;go_upto_region 9 with fail;have x:=HX.o.up (Nat.le_refl _) (FL.o.trans FA (M:=λb=>w0.heap.size≤b) (λ_ _ h=>h) (λ_ _ h=>h.elim));simp only[VX,vxL,List.mem_cons,List.not_mem_nil,or_false,forall_eq_or_imp,forall_eq] at x;obtain⟨-,-,-,-,-,-,-,-,-,-,-,-,xa,-,-,-,-,-,xt,xs,-⟩:=x;have B6:=hD (HB.o.fr FA (λx=>x));obtain⟨p0,p1,p2,p3,-⟩:=(BPr.o.fr FA (λx=>x)).sixth;have t3:=(BT.o.cell 3).trans rfl;have t4:=(BT.o.cell 4).trans rfl;have v0:=(B6.o.cell 0).trans rfl;have HK:=hD (show ∀w',Fr nob w6 w'->(λw'=>w'.cell? ⟨V,0,none⟩=some (.slice none 0 0)∧w'.cell? ⟨T,3,none⟩=some (.string (bs [97]))∧w'.cell? ⟨T,4,none⟩=some (.slice (some ⟨ab,0,none⟩) 1 ac)∧w'.cell? ⟨P,2,none⟩=some (.slice (some ⟨tb,0,none⟩) 5 tc)∧w'.cell? ⟨P,3,none⟩=some (.slice (some ⟨sb,0,none⟩) 5 sc)∧w'.cell? ⟨ab,0,none⟩=some (.int .i64 0)∧w'.cell? ⟨tb,0,none⟩=some (.int .i64 1)∧w'.cell? ⟨sb,1,none⟩=some (.int .i64 0)) w' from λw' f=>by
     have c:∀{b o:Nat} {v:Value},w6.cell? (b,o)=some v->w'.cell? (b,o)=some v:=λh=>(f.cell (World.block_lt_of_cell? _ _ h) (λx=>x)).trans h
     exact⟨c v0,c t3,c t4,c p2,c p3,c xa,c xt,c xs⟩)
    have HR:=hD (Rd.gG (n:=1) (size:=3) (cs:=[bs [97],U1,U0]) ((Blk.new w6 62 [.string (bs [97]),.int .i64 1,.int .i64 0].toArray).fr ((fR _).drew) (λx=>x)) rfl (by decide));have KK:=hD (HK _ (Fr.refl _ w6).drew);have FW:Hd (Fr nob wr w6):=FA;go_wp2_with fail
    refine rU (λw'=>w'.cell? ⟨V,0,none⟩=some (.slice none 0 0)∧w'.cell? ⟨T,3,none⟩=some (.string (bs [97]))∧w'.cell? ⟨T,4,none⟩=some (.slice (some ⟨ab,0,none⟩) 1 ac)∧w'.cell? ⟨P,2,none⟩=some (.slice (some ⟨tb,0,none⟩) 5 tc)∧w'.cell? ⟨P,3,none⟩=some (.slice (some ⟨sb,0,none⟩) 5 sc)∧w'.cell? ⟨ab,0,none⟩=some (.int .i64 0)∧w'.cell? ⟨tb,0,none⟩=some (.int .i64 1)∧w'.cell? ⟨sb,1,none⟩=some (.int .i64 0)) 19 (by kernel_rfl) (by kernel_rfl) KK (λhHeld=>?_);clear t0 n0 xa xt xs p0 p1 p2 p3 t3 t4 v0;refine wpAnyH_take (i:=0) (v:=?_) rfl (by kernel_rfl) (by kernel_rfl) (by kernel_rfl) (λ_ _ _ h=>h) (Or.inl ⟨by rfl,?_⟩) (by assumption) ?_
    case refine_2=>(intro w hSw;(try dsimp only at hSw);go_simp;(try with_reducible rfl))
    simp only[Act.put,List.setIfInBounds_toArray,List.set_cons_zero,List.set_cons_succ];refine wpAnyH_take (i:=1) (v:=?_) rfl (by kernel_rfl) (by kernel_rfl) (by kernel_rfl) (λ_ _ _ h=>h) (Or.inl ⟨by rfl,?_⟩) (by assumption) ?_
    case refine_2=>(intro w hSw;(try dsimp only at hSw);go_simp;(try with_reducible rfl))
    simp only[Act.put,List.setIfInBounds_toArray,List.set_cons_zero,List.set_cons_succ];refine wpAnyH_take (i:=2) (v:=?_) rfl (by kernel_rfl) (by kernel_rfl) (by kernel_rfl) (λ_ _ _ h=>h) (Or.inl ⟨by rfl,?_⟩) (by assumption) ?_
    case refine_2=>(intro w hSw;(try dsimp only at hSw);go_simp;(try with_reducible rfl))
    simp only[Act.put,List.setIfInBounds_toArray,List.set_cons_zero,List.set_cons_succ];refine wpAnyH_take (i:=3) (v:=?_) rfl (by kernel_rfl) (by kernel_rfl) (by kernel_rfl) (λ_ _ _ h=>h) (Or.inl ⟨by rfl,?_⟩) (by assumption) ?_
    case refine_2=>(intro w hSw;(try dsimp only at hSw);go_simp;(try with_reducible rfl))
    simp only[Act.put,List.setIfInBounds_toArray,List.set_cons_zero,List.set_cons_succ];refine wpAnyH_take (i:=4) (v:=?_) rfl (by kernel_rfl) (by kernel_rfl) (by kernel_rfl) (λ_ _ _ h=>h) (Or.inl ⟨by rfl,?_⟩) (by assumption) ?_
    case refine_2=>(intro w hSw;(try dsimp only at hSw);go_simp;(try with_reducible rfl))
    simp only[Act.put,List.setIfInBounds_toArray,List.set_cons_zero,List.set_cons_succ];refine wpAnyH_take (i:=5) (v:=?_) rfl (by kernel_rfl) (by kernel_rfl) (by kernel_rfl) (λ_ _ _ h=>h) (Or.inl ⟨by rfl,?_⟩) (by assumption) ?_
    case refine_2=>(intro w hSw;(try dsimp only at hSw);go_simp;(try with_reducible rfl))
    simp only[Act.put,List.setIfInBounds_toArray,List.set_cons_zero,List.set_cons_succ];refine wpAnyH_take (i:=6) (v:=?_) rfl (by kernel_rfl) (by kernel_rfl) (by kernel_rfl) (λ_ _ _ h=>h) (Or.inl ⟨by rfl,?_⟩) (by assumption) ?_
    case refine_2=>(intro w hSw;(try dsimp only at hSw);go_simp;(try with_reducible rfl))
    simp only[Act.put,List.setIfInBounds_toArray,List.set_cons_zero,List.set_cons_succ];refine wpAnyH_take (i:=7) (v:=?_) rfl (by kernel_rfl) (by kernel_rfl) (by kernel_rfl) (λ_ _ _ h=>h) (Or.inl ⟨by rfl,?_⟩) (by assumption) ?_
    case refine_2=>(intro w hSw;(try dsimp only at hSw);go_simp;(try with_reducible rfl))
    simp only[Act.put,List.setIfInBounds_toArray,List.set_cons_zero,List.set_cons_succ];refine wpAnyH_take (i:=8) (v:=?_) rfl (by kernel_rfl) (by kernel_rfl) (by kernel_rfl) (λ_ _ _ h=>h) (Or.inl ⟨by rfl,?_⟩) (by assumption) ?_
    case refine_2=>(intro w hSw;(try dsimp only at hSw);go_simp;(try with_reducible rfl))
    simp only[Act.put,List.setIfInBounds_toArray,List.set_cons_zero,List.set_cons_succ];refine wpAnyH_take (i:=9) (v:=?_) rfl (by kernel_rfl) (by kernel_rfl) (by kernel_rfl) (λ_ _ _ h=>h) (Or.inl ⟨by rfl,?_⟩) (by assumption) ?_
    case refine_2=>(intro w hSw;(try dsimp only at hSw);go_simp;(try with_reducible rfl))
    simp only[Act.put,List.setIfInBounds_toArray,List.set_cons_zero,List.set_cons_succ];refine wpAnyH_take (i:=10) (v:=?_) rfl (by kernel_rfl) (by kernel_rfl) (by kernel_rfl) (λ_ _ _ h=>h) (Or.inl ⟨by rfl,?_⟩) (by assumption) ?_
    case refine_2=>(intro w hSw;(try dsimp only at hSw);go_simp;(try with_reducible rfl))
    simp only[Act.put,List.setIfInBounds_toArray,List.set_cons_zero,List.set_cons_succ];refine wpAnyH_take (i:=11) (v:=?_) rfl (by kernel_rfl) (by kernel_rfl) (by kernel_rfl) (λ_ _ _ h=>h) (Or.inl ⟨by rfl,?_⟩) (by assumption) ?_
    case refine_2=>(intro w hSw;(try dsimp only at hSw);go_simp;(try with_reducible rfl))
    simp only[Act.put,List.setIfInBounds_toArray,List.set_cons_zero,List.set_cons_succ];refine wpAnyH_take (i:=12) (v:=?_) rfl (by kernel_rfl) (by kernel_rfl) (by kernel_rfl) (λ_ _ _ h=>h) (Or.inl ⟨by rfl,?_⟩) (by assumption) ?_
    case refine_2=>(intro w hSw;(try dsimp only at hSw);go_simp;(try with_reducible rfl))
    simp only[Act.put,List.setIfInBounds_toArray,List.set_cons_zero,List.set_cons_succ];refine wpAnyH_take (i:=13) (v:=?_) rfl (by kernel_rfl) (by kernel_rfl) (by kernel_rfl) (λ_ _ _ h=>h) (Or.inl ⟨by rfl,?_⟩) (by assumption) ?_
    case refine_2=>(intro w hSw;(try dsimp only at hSw);go_simp;(try with_reducible rfl))
    simp only[Act.put,List.setIfInBounds_toArray,List.set_cons_zero,List.set_cons_succ];refine wpAnyH_take (i:=14) (v:=?_) rfl (by kernel_rfl) (by kernel_rfl) (by kernel_rfl) (λ_ _ _ h=>h) (Or.inl ⟨by rfl,?_⟩) (by assumption) ?_
    case refine_2=>(intro w hSw;(try dsimp only at hSw);go_simp;(try with_reducible rfl))
    simp only[Act.put,List.setIfInBounds_toArray,List.set_cons_zero,List.set_cons_succ];refine wpAnyH_take (i:=15) (v:=?_) rfl (by kernel_rfl) (by kernel_rfl) (by kernel_rfl) (λ_ _ _ h=>h) (Or.inl ⟨by rfl,?_⟩) (by assumption) ?_
    case refine_2=>(intro w hSw;(try dsimp only at hSw);go_simp;(try with_reducible rfl))
    simp only[Act.put,List.setIfInBounds_toArray,List.set_cons_zero,List.set_cons_succ];refine wpAnyH_take (i:=16) (v:=?_) rfl (by kernel_rfl) (by kernel_rfl) (by kernel_rfl) (λ_ _ _ h=>h) (Or.inl ⟨by rfl,?_⟩) (by assumption) ?_
    case refine_2=>(intro w hSw;(try dsimp only at hSw);go_simp;(try with_reducible rfl))
    simp only[Act.put,List.setIfInBounds_toArray,List.set_cons_zero,List.set_cons_succ];refine wpAnyH_ready (rs:=[17]) (by kernel_rfl) (by simp) ?_;refine AllReadyH.cons rfl (λK hK=>?_) AllReadyH.nil;go_simp;refine hK.out _ _ (HK _ ((Fr.refl _ w6).drew.alloc _)) (λhHeld=>?_);clear hK K;try simp only[Act.put,List.setIfInBounds_toArray,List.set_cons_zero,List.set_cons_succ]
    refine wpAnyH_ready (rs:=[18]) (by kernel_rfl) (by simp) ?_;refine AllReadyH.cons rfl (λK hK=>?_) AllReadyH.nil;refine step_append (v:= Un) (n:=0) (m:=1) (xs:=[]) (news:=[bs [97],U1,U0]) (by rfl) _ _ (by rfl) aJe (by rfl) (by rfl) (Own.nil _ _ _) HR (by simp[Value.oneCell']) (by omega) (by unfold maxLen;omega) ?_;intro A3 c3 w8 ho8 hf8 hv8;have F8:Hd (Fr nob w6 w8):=Fr.trans (((fR w6).alloc _).drew) hf8 (λ_ _ x=>x) (λ_ _ x=>by simp[obl,blk] at x);clear ho8 hf8 hv8;refine hK.out _ _ (HK _ F8) (λhHeld=>?_);clear hK K;try simp only[Act.put,List.setIfInBounds_toArray,List.set_cons_zero,List.set_cons_succ]
    have B8:=hD (B6.o.fr F8 (λx=>x));have v7:w8.cell? (V,0)=Un:=B8.o.cell 0;have v8:=B8.o.frozen 0;have v9:=B8.o.lt;clear hHeld KK HK HR;refine wpAnyH_done (by kernel_rfl) ?_ _;refine aDk (L:=19) rfl (λK hK=>?_);go_simp;refine hK _ _ ?_;clear hK K;try simp only[Act.put,List.setIfInBounds_toArray,List.set_cons_zero,List.set_cons_succ]
    go_wp2
    go_roundw
    case rel=>exact⟨1,by go_num,hD ((FR.o.trans (FW.o.tr F8) (λ_ _ x=>x) (λ_ _ x=>x.elim)).setCell _ _ (λ_=>rfl)),hD (.inr ⟨rfl,_,_,B8.o.setCell 0 _⟩)⟩
    case measure=>simp[intOf]
  . have FL:=hD (F0.o.trans FR (M:=λb=>w0.heap.size≤b) (λ_ _ h=>h) (λ_ _ h=>by rw[show _=V from h];exact HV))
    have FL2:=hD (FL.o.alloc (.cells #[(14:Int),U1,U0,bs [],(mb,1,mc)] 50));have v2:=((hb.alloc (.cells #[(14:Int),U1,U0,bs [],(mb,1,mc)] 50)).cell 0).trans rfl;have n2:=((BNr.o.alloc (.cells #[(14:Int),U1,U0,bs [],(mb,1,mc)] 50)).cell 0).trans rfl;have V2:=hD v2;clear hb v2 x5 x6 x7 x8 x9 xa xt xs;go_wp2
    go_ret;exact⟨rfl,⟨_,_,V2⟩,FL2⟩
end
theorem aIh:Enters prog 63:=enters_of func63 (by kernel_rfl) rfl
section
variable {w:World}{nb fb tb sb ub zb kb ab mb nc fc tc sc uc zc kc ac mc pc:Nat}{pa:Option Addr}
theorem aPo (X:VX w (vxL nb fb tb sb ub kb ab mb kc ac mc pc pa)) (hk:2≤kc) (ha:1≤ac):
  Calls prog 34 #[.agg #[(nb,5,nc),(fb,1,fc),(tb,5,tc),(sb,5,sc),(ub,5,uc),(zb,1,zc)],U3] w λen w'=>∃A c,en = .returned (.slice A 1 c)∧Fr nob w w':=by
 obtain⟨PO,hPO⟩:∃PO:Obj,PO = .cells #[(nb,5,nc),(fb,1,fc),(tb,5,tc),(sb,5,sc),(ub,5,uc),(zb,1,zc)] 29:=⟨_,rfl⟩;have BP:=hD (show Blk ((w.alloc PO).alloc (.cells #[U3] 3)) w.heap.size 29 #[(nb,5,nc),(fb,1,fc),(tb,5,tc),(sb,5,sc),(ub,5,uc),(zb,1,zc)] from by rw[hPO];exact (Blk.new w _ _).alloc _);have BN:=hD (show Blk ((w.alloc PO).alloc (.cells #[U3] 3)) (w.heap.size+1) 3 #[U3] from by
  have:=Blk.new (w.alloc PO) 3 #[U3];rw[World.size_alloc] at this;exact this)
 have F1:=hD (((fR w).alloc PO).alloc (.cells #[U3] 3));rw[hPO] at BP BN F1;have HX:=hD X;have HKC:=hD hk;have HAC:=hD ha;clear hPO X hk ha;go_enter func34,ntmps34;go_upto_region 1 with fail;generalize (w.alloc (.cells #[(nb,5,nc),(fb,1,fc),(tb,5,tc),(sb,5,sc),(ub,5,uc),(zb,1,zc)] 29)).alloc (.cells #[U3] 3)=w1 at *;generalize hP:w.heap.size=P at *;clear hP;generalize P+1=N at *;have HK2:=hD (show ∀wx,Fr nob w1 wx->wx.cell? (P,1)=(fb,1,fc)∧wx.cell? (P,4)=(ub,5,uc)∧wx.cell? (N,0)=U3∧wx.cell? (ub,3)=U0∧wx.cell? (fb,0)=(bs [109,97,105,110])∧wx.cell? (fb,1)=U1∧wx.cell? (fb,2)=some (.slice pa 0 pc)∧wx.cell? (fb,3)=U0∧wx.cell? (fb,4)=U4 from λwx fx=>by
  have x:=HX.o.up (Nat.le_refl _) ((F1.o.tr fx).aEv);simp only[VX,vxL,List.mem_cons,List.not_mem_nil,or_false,forall_eq_or_imp,forall_eq] at x;obtain⟨-,-,-,-,-,-,-,-,-,-,-,-,-,-,-,-,-,-,-,-,f0,f1,f2,f3,f4,u3⟩:=x;obtain⟨-,p1,-,-,p4,-⟩:=(BP.o.fr fx (λx=>x)).sixth;exact⟨p1,p4,(BN.o.fr fx (λx=>x)).cell 0,u3,f0,f1,f2,f3,f4⟩)
 have BP3:=hD ((BP.o.alloc (.cells #[bs [109,97,105,110],U1,.slice pa 0 pc,U0,U4] 48)).fr ((fR _).drew) (λx=>x));have BN3:=hD ((BN.o.alloc (.cells #[bs [109,97,105,110],U1,.slice pa 0 pc,U0,U4] 48)).fr ((fR _).drew) (λx=>x));have F3:=hD ((F1.o.alloc (.cells #[bs [109,97,105,110],U1,.slice pa 0 pc,U0,U4] 48)).tr ((fR _).drew));have BF3:=hD ((Blk.new w1 48 #[bs [109,97,105,110],U1,.slice pa 0 pc,U0,U4]).fr ((fR _).drew) (λx=>x));go_wp2_with fail
 go_region_held3 (λwx=>wx.cell? (P,1)=(fb,1,fc)∧wx.cell? (P,4)=(ub,5,uc)∧wx.cell? (N,0)=U3∧wx.cell? (ub,3)=U0∧wx.cell? (fb,0)=(bs [109,97,105,110])∧wx.cell? (fb,1)=U1∧wx.cell? (fb,2)=some (.slice pa 0 pc)∧wx.cell? (fb,3)=U0∧wx.cell? (fb,4)=U4) (first|exact HK2 _ ((fR w1).drew)|exact HK2 _ (((fR w1).drew).alloc _)) (fail)
 clear HK2 BP BN F1;generalize (w1.alloc (.cells #[bs [109,97,105,110],U1,.slice pa 0 pc,U0,U4] 48)).drew=w3 at *;generalize w1.heap.size=FB at *;go_upto_region 3 with fail;have FV:=hD ((fR w3).alloc (.cells #[Un] 58));have BV:=hD (Blk.new w3 58 #[Un]);have hVs:w.heap.size≤w3.heap.size:=F3.o.size;generalize w3.alloc (.cells #[Un] 58)=w4 at *;generalize w3.heap.size=V at *;have HVS:=hD hVs;have q2:=((BF3.o.fr FV (λx=>x)).cell 2).trans rfl;clear hVs;go_wp2
 clear q2;go_loopw [23] (λi wr=>i = .int .i64 0∧wr=w4) (λ_ _=>0)
 case atStart=>exact⟨rfl,rfl⟩
 case round=>
  obtain⟨rfl,rfl⟩:=hrel;go_upto_region 9 with fail;have F5:=hD ((fR wr).alloc (.cells #[.nilFunc] 74));have B5:=hD (Blk.new wr 74 #[.nilFunc]);have hw:=Nat.le_refl wr.heap.size;generalize hFN:wr.heap.size=FN at *;generalize wr.alloc (.cells #[.nilFunc] 74)=w5 at *;have F6:Hd (Fr nob wr (w5.setCell (FN,()) (.func (.func 63) #[] #[(V,()),(P,()),(N,()),(FN,())]))):=F5.o.trans ((Fr.refl (dG FN) w5).setCell _ _ (λ_=>rfl)) (λ_ _ x=>x) (λb hlt hm=>by have hm:b=FN:=hm;omega);have B6:Hd (Blk (w5.setCell (FN,()) (.func (.func 63) #[] #[(V,()),(P,()),(N,()),(FN,())])) FN 74 #[(.func (.func 63) #[] #[(V,()),(P,()),(N,()),(FN,())])]):=B5.o.setCell 0 _;have hmf:∀(fn:Fn) (first cap:Array Value) (w:World),(Instr.makeFunc fn first cap).run prog w = .ok (.func fn first cap) w:=λ_ _ _ _=>rfl
  have g0:=(B5.o.cell 0).trans rfl;have g1:=B5.o.frozen 0;have g2:=B5.o.lt;clear F5 B5 hFN hw;have HV:=hD (aNp (FN:=FN) HX ((F3.o.tr FV).tr F6) HVS HKC HAC (BV.o.fr F6 (λx=>x)) ((BP3.o.fr FV (λx=>x)).fr F6 (λx=>x)) ((BN3.o.fr FV (λx=>x)).fr F6 (λx=>x)));have r4:=((((BF3.o.fr FV (λx=>x)).fr F6 (λx=>x)).cell 4).trans rfl);go_upto_region 10 with fail;generalize w5.setCell (FN,()) (.func (.func 63) #[] #[(V,()),(P,()),(N,()),(FN,())])=w6 at *;have r0:=(B6.o.cell 0).trans rfl;clear B6 g0 g1 g2 hmf;have hen:=aIh;go_wp2_with fail
  clear r0 r4;refine HV.o.mono ?_;rintro en w7 ⟨rfl,A,C,v7,h7⟩;go_wp2
  go_ret;exact⟨A,C,rfl,⟨h7.os,h7.tape,h7.output,h7.size,λk hk _=>h7.block k hk (λhb=>by have hb:w.heap.size≤k:=hb;omega)⟩⟩
end
def ex4:List UInt8:=[102,110,32,109,97,105,110,40,41,32,123,32,108,101,116,32,97,32,61,32,49,59,32,112,114,105,110,116,32,97,59,32,125]
def aRi:gB:=⟨[⟨1,1,1,[],[]⟩,⟨10,1,0,[97],[0]⟩,⟨4,1,0,[97],[]⟩,⟨14,1,0,[],[2]⟩,⟨18,1,0,[],[1,3]⟩],[⟨[109,97,105,110],1,[],0,4⟩],[1,0,1,0,0],[-1,0,0,-1,-1],[0,0,0,0,0],[1]⟩
theorem aOz:dJ ex4=some (.good aRi):=by kernel_rfl
theorem aQg {tv:Value} (h:iV w nv fv tv sv uv zv lvs pvs aRi):
  ∃nb fb tb sb ub zb kb ab mb nc fc tc sc uc zc kc ac mc pc pa,nv = .slice (some ⟨nb,0,none⟩) 5 nc∧fv = .slice (some ⟨fb,0,none⟩) 1 fc∧tv = .slice (some ⟨tb,0,none⟩) 5 tc∧sv = .slice (some ⟨sb,0,none⟩) 5 sc∧uv = .slice (some ⟨ub,0,none⟩) 5 uc∧zv = .slice (some ⟨zb,0,none⟩) 1 zc∧2≤kc∧1≤ac∧VX w (vxL nb fb tb sb ub kb ab mb kc ac mc pc pa)∧w.cell? ⟨zb,0,none⟩=some (.int .i64 1):=by
 obtain⟨nb,nc,l4,rfl,-,o4,a0,a1,a2,a3,a4⟩:=h.tree.node (x:=4) rfl;obtain⟨_,_,l1,e1,-,o1,b0,b1,b2,b3,b4⟩:=h.tree.node (x:=1) rfl;obtain⟨_,_,l3,e3,-,o3,c0,c1,c2,c3,c4⟩:=h.tree.node (x:=3) rfl;injection e1 with e1;injection e1 with e1;injection e1 with e1;subst e1;injection e3 with e3;injection e3 with e3;injection e3 with e3;subst e3;obtain⟨A4,kc,rfl,hk,-⟩:=o4.cap;obtain⟨A1,ac,rfl,ha,-⟩:=o1.cap;obtain⟨A3,mc,rfl,hm,-⟩:=o3.cap;obtain⟨kb,rfl,k0⟩:=o4.some (by decide);obtain⟨ab,rfl,k1⟩:=o1.some (by decide);obtain⟨mb,rfl,k3⟩:=o3.some (by decide);obtain⟨FA,fc,rfl,-,-⟩:=h.tree.fns.cap;obtain⟨fb,rfl,-⟩:=h.tree.fns.some (by decide);obtain⟨pv,po,f0,f1,f2,f3,f4⟩:=h.tree.fn (j:=0) rfl;obtain⟨pa,pc,rfl,-,-⟩:=po.cap;obtain⟨A,tc,rfl,-,-⟩:=h.types.cap;obtain⟨tb,rfl,t0⟩:=h.types.some (by decide);obtain⟨B,sc,rfl,-,-⟩:=h.slots.cap;obtain⟨sb,rfl,s0⟩:=h.slots.some (by decide);obtain⟨C,uc,rfl,-,-⟩:=h.fn.cap;obtain⟨ub,rfl,u0⟩:=h.fn.some (by decide);obtain⟨D,zc,rfl,-,-⟩:=h.sizes.cap;obtain⟨zb,rfl,z0⟩:=h.sizes.some (by decide);refine⟨nb,fb,tb,sb,ub,zb,kb,ab,mb,nc,fc,tc,sc,uc,zc,kc,ac,mc,pc,pa,rfl,rfl,rfl,rfl,rfl,rfl,hk,ha,?_,z0 0 _ rfl⟩;simp only[VX,vxL,List.mem_cons,List.not_mem_nil,or_false,forall_eq_or_imp,forall_eq];exact⟨a0,a1,a2,a3,a4,k0 0 _ rfl,k0 1 _ rfl,b0,b1,b2,b3,b4,k1 0 _ rfl,c0,c1,c2,c3,c4,t0 0 _ rfl,s0 1 _ rfl,f0,f1,f2,f3,f4,u0 3 _ rfl⟩
theorem aNj {tb tc:Nat} (h:iV w nv fv (tb,5,tc) sv uv zv lvs pvs aRi):w.cell? (tb,2)=U1:=by
 obtain⟨b,e,t0⟩:=h.types.some (by decide);injection e with e;injection e with e;subst e;exact t0 2 _ rfl
theorem aCb {V:World->Prop} (HQ:aSe V) (w:World) (hv:V w):Calls prog 26 #[] w λe w'=>e = .returned true∧Fr nob w w':=by
 have HS:=hD (HQ.src ⟨#[102,110,32,109,97,105,110,40,41,32,123,32,108,101,116,32,97,32,61,32,49,59,32,112,114,105,110,116,32,97,59,32,125]⟩ w hv (by decide) (.good aRi) aOz);clear hv HQ;go_enter func26,ntmps26;go_wp2_with fail
 refine HS.o.mono ?_;rintro e w1 ⟨hs,hf⟩;obtain⟨_,_,_,_,_,_,lvs,pvs,rfl,pa⟩:=hs;obtain⟨nb,fb,tb,sb,ub,zb,kb,ab,mb,nc,fc,tc,sc,uc,zc,kc,ac,mc,pc,q,rfl,rfl,rfl,rfl,rfl,rfl,hk,ha,X,z0⟩:=aQg pa;have F1:=hD (hf.alloc (.cells #[(nb,5,nc),(fb,1,fc),(tb,5,tc),(sb,5,sc),(ub,5,uc),(zb,1,zc)] 29));have FA:Fr nob w1 (w1.alloc (.cells #[(nb,5,nc),(fb,1,fc),(tb,5,tc),(sb,5,sc),(ub,5,uc),(zb,1,zc)] 29)):=(fR w1).alloc _;have X2:=X.up (Nat.le_refl _) FA.aEv;have HV:=hD (aPo (nc:=nc) (fc:=fc) (tc:=tc) (sc:=sc) (uc:=uc) (zb:=zb) (zc:=zc) X2 hk ha);have z2:=(FA.cell (p:=(zb,())) (World.block_lt_of_cell? _ _ z0) (λx=>x)).trans z0;have BP:=hD (Blk.new w1 29 #[(nb,5,nc),(fb,1,fc),(tb,5,tc),(sb,5,sc),(ub,5,uc),(zb,1,zc)]);simp only[VX,vxL,List.mem_cons,List.not_mem_nil,or_false,forall_eq_or_imp,forall_eq] at X2;obtain⟨-,-,-,-,-,-,-,-,-,-,-,-,-,-,-,-,-,-,-,y1,-⟩:=X2;have y0:=(FA.cell (p:=(tb,U2)) (World.block_lt_of_cell? _ _ (aNj pa)) (λx=>x)).trans (aNj pa);clear hf X FA z0 pa HS;go_wp2_with fail
 generalize w1.alloc (.cells #[(nb,5,nc),(fb,1,fc),(tb,5,tc),(sb,5,sc),(ub,5,uc),(zb,1,zc)] 29)=w2 at *;generalize w1.heap.size=PB at *;obtain⟨p0,p1,p2,p3,p4,p5,_⟩:=BP.o.sixth;go_wp2_with fail
 refine HV.o.mono ?_;rintro e w3 ⟨A,c,rfl,hf⟩;have F3:=hD (F1.o.tr hf);clear hf;go_wp2
 go_ret;exact⟨rfl,F3⟩
def zF:gB:=⟨[],[],[],[],[],[]⟩
def aPj:fD->gB×Nat×Nat
 | .bad p e=>(zF,p,e)
 | .good p=>(p,0,0)
def ckV:CkR gB->gB×Nat×Nat
 | .bad e p=>(zF,p,e)
 | .good p=>(p,0,0)
theorem wM (w:World):iV w Un Un Un Un Un Un [] [] zF:=by
 refine⟨⟨Own.nil _ _ _,trivial,rfl,Own.nil _ _ _,trivial,rfl,λb hb=>by simp[blk] at hb,λb hb=>by simp[blk] at hb⟩,Own.nil _ _ _,Own.nil _ _ _,Own.nil _ _ _,Own.nil _ _ _⟩
theorem jB.uni {en:Ending}{r:fD} (h:jB w en r):∃nv fv tv sv uv zv lvs pvs,en = .returned (.tuple #[.agg #[nv,fv,tv,sv,uv,zv],(aPj r).2.1,(aPj r).2.2])∧iV w nv fv tv sv uv zv lvs pvs (aPj r).1:=by
 cases r with
 | bad p e=>exact⟨_,_,_,_,_,_,_,_,h.1,wM w⟩
 | good p=>exact h
theorem CheckAt.uni {en:Ending}{r:CkR gB} (h:CheckAt w en nv fv lvs pvs r):∃nv fv tv sv uv zv lvs pvs,en = .returned (.tuple #[.agg #[nv,fv,tv,sv,uv,zv],(ckV r).2.1,(ckV r).2.2])∧iV w nv fv tv sv uv zv lvs pvs (ckV r).1:=by
 cases r with
 | bad e p=>exact⟨_,_,_,_,_,_,_,_,h.1,wM w⟩
 | good p=>
  obtain⟨tv,sv,uv,zv,h1,h2⟩:=h;exact⟨_,_,_,_,_,_,_,_,h1,h2⟩
theorem iV.sl {tv:Value} (h:iV w nv fv tv sv uv zv lvs pvs p):(∃A n c,nv = .slice A n c)∧(∃A n c,fv = .slice A n c)∧(∃A n c,tv = .slice A n c)∧(∃A n c,sv = .slice A n c)∧(∃A n c,uv = .slice A n c)∧(∃A n c,zv = .slice A n c):=by
 obtain⟨A1,c1,e1,-,-⟩:=h.tree.nodes.cap;obtain⟨A2,c2,e2,-,-⟩:=h.tree.fns.cap;obtain⟨A3,c3,e3,-,-⟩:=h.types.cap;obtain⟨A4,c4,e4,-,-⟩:=h.slots.cap;obtain⟨A5,c5,e5,-,-⟩:=h.fn.cap;obtain⟨A6,c6,e6,-,-⟩:=h.sizes.cap;exact⟨⟨_,_,_,e1⟩,⟨_,_,_,e2⟩,⟨_,_,_,e3⟩,⟨_,_,_,e4⟩,⟨_,_,_,e5⟩,⟨_,_,_,e6⟩⟩
def aRk (p:gB):Prop:=p.ns.length≤1000∧p.fs.length≤1000∧∀f∈p.fs,f.params.length≤1000
theorem aLg:aRk zF:=⟨by simp[zF],by simp[zF],λf hf=>by simp[zF] at hf⟩
theorem aPx {ns:List aH} (h:lG ns fs) (h1:p.ns=ns) (h2:p.fs=fs):aRk p:=by
 unfold aRk;rw[h1,h2];exact⟨by have:=h.few;omega,by have:=h.fewf;omega,λf hf=>by have:=h.pars f hf;omega⟩
theorem zV {ns:List aH} (h:dV ns fs = .good p):p.ns=ns∧p.fs=fs:=by
 unfold dV at h;obtain⟨_,hh,h⟩:=CkR.bind_eq h;obtain⟨r,hr,h⟩:=CkR.map_eq h;subst h;exact⟨rfl,rfl⟩
theorem aKd {src:List UInt8} (h:dJ src=some (.good p)):parseM src=some (.good p.ns p.fs):=by
 unfold dJ at h;rw[mS] at h;obtain⟨r,hr,h⟩:=h;cases r with
 | bad p e=>cases h
 | good ns fs=>
  cases hc:dV ns fs with
  | bad e x=>
   simp only[hc] at h;split at h<;>cases h
  | good q=>
   simp only[hc] at h;injection h with h;subst h;obtain⟨h2,h3⟩:=zV hc;rw[h2,h3];exact hr
theorem aOm {src:List UInt8}{r:fD} (h:dJ src=some r):aRk (aPj r).1:=by
 cases r with
 | bad p e=>exact aLg
 | good p=>exact aPx (uX (aKd h)).ok rfl rfl
theorem aDt (hu:(fs.map (·.name)).Nodup){f:aD} (hf:fs[j]?=some f) (nm:List UInt8):findF (fs.take (j+1)) nm=if f.name=nm then some j else findF (fs.take j) nm:=by
 have hj:=(gK hf);unfold findF;rw[List.take_add_one,hf,List.findIdx?_append];have hl:(fs.take j).length=j:=by rw[List.length_take];omega
 by_cases he:f.name=nm
 . rw[if_pos he]
   have h0:List.findIdx? (λf=>decide (f.name=nm)) (fs.take j)=none:=by
    rw[List.findIdx?_eq_none_iff];intro g hg;refine decide_eq_false λh1=>?_
    obtain⟨i,hi,e⟩:=List.getElem_of_mem hg;rw[List.length_take] at hi;rw[List.getElem_take] at e;have h2:=List.pairwise_iff_getElem.1 hu i j (by rw[List.length_map];omega) (by rw[List.length_map];omega) (by omega);rw[List.getElem_map,List.getElem_map,e,(List.getElem?_eq_some_iff.1 hf).2] at h2;exact h2 (h1.trans he.symm)
   rw[h0];simp[he,hl]
 . rw[if_neg he]
   have h1:(some f).toList=[f]:=rfl;rw[h1,List.findIdx?_cons,decide_eq_false he];simp
theorem qB:∀(l:List aD) (seen:List (List UInt8)),bU seen l=none->(l.map (·.name)).Nodup∧∀f∈l,f.name∉seen
 | [],seen,_=>⟨List.nodup_nil,λ_ h=>by cases h⟩
 | a :: l,seen,h=>by
  have h:(if a.name∈seen then some a.body else bU (seen++[a.name]) l)=none:=h;split at h
  . cases h
  . rename_i hn
    obtain⟨h1,h2⟩:=qB l _ h;refine⟨?_,λf hf=>?_⟩
    . rw[List.map_cons,List.nodup_cons]
      refine⟨λhm=>?_,h1⟩;obtain⟨g,hg,e⟩:=List.mem_map.1 hm;exact h2 g hg (by rw[e];simp)
    . rcases List.mem_cons.1 hf with e|hf
      . subst e;exact hn
      . exact λh3=>h2 f hf (List.mem_append_left _ h3)
theorem aDn (h:iZ fs = .good ()):(fs.map (·.name)).Nodup:=by
 unfold iZ at h;split at h
 . cases h
 . rename_i h2;exact (qB _ _ h2).1
section
variable {G:Geo}{w w':World}{s:CkS}{r:CkR CkS}{zs:List Nat}{k e p:Nat}
theorem kG (h:Ck G w s zs k e p) (e' x:Nat) (he':e'≠0):
   Calls prog 99 #[(G.g,()),e',x] w λen w'=>en = .returned (.tuple #[])∧Ck G w' s zs k (if e=0 then e' else e) (if e=0 then x else p)∧FrK G w w':=by
 obtain⟨zv,vv,c0,c1,c2,c3,c4,c5,c6,c7,c8,c9,c10,hfz,_⟩:=h.cells;have f9:=hfz 9;have f10:=hfz 10;have hg:=h.jM;have H:=hD h;by_cases he:e=0
 . have heb:((e:Int)==0)=true:=by rw[he];rfl
   rw[if_pos he,if_pos he];have S1:=hD (h.aKj 9 e' (s':=s) (k':=k) (e':=e') (p':=p) (λ_ _=>rfl) rfl rfl rfl rfl h.kk h.size (λx=>absurd x he') h.vars);clear h he c0 c1 c2 c3 c4 c5 c6 c7 c8 hfz;go_enter func99,ntmps99;go_wp2_with fail
   generalize w.setCell (G.g,U9) e'=w1 at *;have S2:=hD (S1.o.1.aKj 10 x (s':=s) (k':=k) (e':=e') (p':=x) (λ_ _=>rfl) rfl rfl rfl rfl S1.o.1.kk S1.o.1.size (λx=>absurd x he') S1.o.1.vars);have f10':w1.frozen? (G.g,10)=false:=by
    obtain⟨_,_,_,_,_,_,_,_,_,_,_,_,_,hfz,_⟩:=S1.o.1.cells;exact hfz 10
   have c10':w1.cell? (G.g,10)=p:=by
    obtain⟨_,_,_,_,_,_,_,_,_,_,_,_,c,_⟩:=S1.o.1.cells;exact c
   clear c9 c10 f9 f10 heb;go_wp2
   exact gF rfl rfl ⟨rfl,S2.o.1,S1.o.2.trans S2.o.2⟩
 . have heb:((e:Int)==0)=false:=bN.2 (by omega)
   rw[if_neg he,if_neg he];clear h he c0 c1 c2 c3 c4 c5 c6 c7 c8 hfz;go_enter func99,ntmps99;go_wp2
   exact gF rfl rfl ⟨rfl,H,FrK.refl _ _⟩
theorem CkM.fails (h:CkM G w r zs k) (e' x:Nat) (he':e'≠0) (h99:e'≤99):
   Calls prog 99 #[(G.g,()),e',x] w λen w'=>en = .returned (.tuple #[])∧CkM G w' (r.bind λ_=> .bad e' x) zs k∧FrK G w w':=by
 obtain⟨s,e,p,h,hm⟩:=h.open_;refine (kG h e' x he').mono λen w' ⟨h1,h2,h3⟩=>⟨h1,?_,h3⟩
 rcases hm with ⟨rfl,rfl,rfl⟩|⟨h0,h9,rfl⟩
 . exact⟨he',h99,s,h2⟩
 . rw[if_neg h0,if_neg h0] at h2
   exact⟨h0,h9,s,h2⟩
theorem CkM.must (h:CkM G w r zs k) (b:Bool) (x:Nat):
  Calls prog 176 #[(G.g,()),b,x] w λen w'=>en = .returned (.tuple #[])∧CkM G w' (r.bind λs=>if b=true then .good s else .bad 42 x) zs k∧FrK G w w':=by
 have H:=hD h;clear h;cases b with
 | true=>
  go_enter func176,ntmps176;go_wp2
  refine gF rfl rfl ⟨rfl,?_,FrK.refl _ _⟩;have:=H.o;cases r<;>exact this
 | false=>
  go_enter func176,ntmps176;go_wp2_with fail
  refine dY (H.o.fails 42 x (by decide) (by decide)) λw1 S1 F1=>?_;go_wp2
  refine gF rfl rfl ⟨rfl,?_,F1⟩;have:=S1.o;cases r<;>exact this
def iU (vars:List mU) (name:List UInt8):Option Nat:=vars.findIdx? λv=>decide (v.name=name)
def aAp (o:Option Nat):Int:=match o with|some j=>(j:Int)|none=> -1
theorem aGx {v:mU} (hv:vars[j]?=some v) (he:v.name=name) (hb:∀i u,i<j->vars[i]?=some u->u.name≠name):iU vars name=some j:=by
 obtain⟨hl,e⟩:=List.getElem?_eq_some_iff.1 hv;unfold iU;rw[List.findIdx?_eq_some_iff_getElem];refine⟨hl,by rw[e];exact decide_eq_true he,λi hi=>?_⟩;simpa using hb i _ hi (gE (by omega))
theorem yY (hb:∀i u,i<vars.length->vars[i]?=some u->u.name≠name):iU vars name=none:=by
 unfold iU;rw[List.findIdx?_eq_none_iff];intro v hv;obtain⟨i,hi,e⟩:=List.getElem_of_mem hv;exact decide_eq_false (hb i v hi (by rw[gE hi,e]))
theorem jH (vars:List mU) (name:List UInt8):eT vars name=(iU vars name).bind λj=>vars[j]?:=by
 unfold eT iU;induction vars with
 | nil=>rfl
 | cons a l ih=>
  rw[List.find?_cons,List.findIdx?_cons];by_cases h:decide (a.name=name)=true
  . rw[h];rfl
  . have h:decide (a.name=name)=false:=by simpa using h
    rw[h,ih];cases List.findIdx? (λv=>decide (v.name=name)) l<;>rfl
theorem qP (h:iU vars name=some j):j<vars.length:=by
 unfold iU at h;exact (List.findIdx?_eq_some_iff_getElem.1 h).1
theorem rM (a:List UInt8):(bs a).toList=a:=by rw[ByteArray.toList_eq];rfl
theorem aEo {a b:List UInt8}:((bs a).toList==(bs b).toList)=true↔a=b:=by
 rw[rM,rM];exact beq_iff_eq
theorem nN (h:Ck G w s zs k e p) (name:List UInt8):
  Calls prog 100 #[(G.g,()),bs name] w λen w'=>en = .returned (aAp (iU s.vars name))∧Fr nob w w':=by
 obtain⟨zv,vv,c0,c1,c2,c3,c4,c5,c6,c7,c8,c9,c10,hfz,hv,_⟩:=h.cells;have hn:(s.vars.length:Int)≤1000:=by have:=h.vars;have:=h.size;have:=h.geo.hM;omega
 have hg:=h.jM;obtain⟨VA,VC,rfl,_,_⟩:=hv.cap;have HV:=hD hv;have C7:=hD c7;obtain⟨R,hR⟩:∃R,aAp (iU s.vars name)=R:=⟨_,rfl⟩;rw[hR];generalize s.vars=vars at *;have HR:=hD hR;clear hR;clear h c0 c1 c2 c3 c4 c5 c6 c8 c9 c10 hfz hv c7;go_enter func100,ntmps100;go_wp2
 go_loopw [5] (λi wr=>∃j:Nat,j≤vars.length∧i = .int .i64 j∧Hd (∀i u,i<j->vars[i]?=some u->u.name≠name)∧Hd (Fr nob w wr)) (λi _=>vars.length - (intOf i).toNat)
 case atStart=>exact⟨0,Nat.zero_le _,rfl,hD (λi u hi=>absurd hi (Nat.not_lt_zero _)),hD (fR w)⟩
 case round=>
  obtain⟨j,hj,rfl,HB,FR⟩:=hrel;have c7:=(FR.o.cell (World.block_lt_of_cell? _ _ C7) (λx=>x)).trans C7.o;by_cases hlt:j<vars.length
  . have hlt2:(j:Int)<(vars.length:Int):=by omega
    obtain⟨v,hv⟩:∃v,vars[j]?=some v:=⟨_,gE hlt⟩;obtain⟨vb,e,hc1⟩:=(HV.o.fr FR (λ_ _ x=>x)).some (by omega);subst e;have p0:=hc1 _ _ (gT hv).1;have HN:=hD hv;clear hc1 hv;by_cases he:v.name=name
    . have q0:((bs v.name).toList==(bs name).toList)=true:=aEo.2 he
      go_wp2
      go_ret;refine⟨?_,FR⟩;rw[<-HR.o,aGx HN.o he HB.o];rfl
    . have q0:((bs v.name).toList==(bs name).toList)=false:=by
       rw[Bool.eq_false_iff];intro x;exact he (aEo.1 x)
      go_wp2
      go_roundw
      case rel=>
       refine⟨j+1,by omega,by go_num,hD (λi u hi hu=>?_),FR⟩;by_cases hij:i=j
       . subst hij
         rw[HN.o] at hu;injection hu with hu;subst hu;exact he
       . exact HB i u (by omega) hu
      case measure=>simp[intOf];omega
  . have hle:(vars.length:Int)≤(j:Int):=by omega
    go_wp2
    go_ret;refine⟨?_,FR⟩;rw[<-HR.o,yY (λi u hi=>HB.o i u (by omega))];rfl
end
end Go.Proofs.YtlbjicjinnnboaaGreatDoor
