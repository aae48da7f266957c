/- MrT: CkSrc, RlA, RlB, RlC, RlD, LjR, LjP, LjA. -/
import Derived.Test.YtlbjicjinnnboaaGreatDoorMrS
import Derived.Test.YtlbjicjinnnboaaGreatDoorMrJ
import Derived.Test.YtlbjicjinnnboaaGreatDoorMrK
import Derived.Test.YtlbjicjinnnboaaGreatDoorMrF
import Derived.Test.YtlbjicjinnnboaaGreatDoorMrO
import Derived.Test.YtlbjicjinnnboaaGreatDoorMrC
import Derived.Test.YtlbjicjinnnboaaGreatDoorMrE
set_option maxHeartbeats 8000000
set_option maxRecDepth 100000
set_option linter.unusedVariables false
set_option linter.unusedSimpArgs false
/- The document's checker: Source. -/
namespace Go.Proofs.YtlbjicjinnnboaaGreatDoor
open Go.RowKit Go.Proofs.Tryz
open Pw
theorem aBy (src:ByteArray) (w:World) (hs:src.size≤281474976710656){r:fD} (hr:dJ src.data.toList=some r):
  Calls prog 14 #[src] w λen w'=>jB w' en r∧Fr nob w w':=by
 unfold dJ at hr;rw[mS] at hr;obtain⟨r0,hr0,hr⟩:=hr;have HP:=hD (λw'=>aKy src w' hs hr0);have B0:=hD (Blk.new w 29 #[Un,Un,Un,Un,Un,Un]);have F0:Hd (Fr nob w (w.alloc (.cells #[Un,Un,Un,Un,Un,Un] 29))):=(Fr.refl _ w).alloc _;clear hs;cases r0 with
 | bad p er=>
  have he:er≠0:=by have:=tK hr0;omega
  have hr:fD.bad p er=r:=hr;subst hr;have heb:((er:Int)==0)=false:=bN.2 (by omega);have hne:((er:Int) != 0)=true:=by rw[bne,heb];rfl
  have HE:=hD he;clear hr0 he;go_enter func14,ntmps14;go_wp2_with fail
  generalize w.alloc (.cells #[Un,Un,Un,Un,Un,Un] 29)=w1 at *;generalize hT:w.heap.size=T at *;have HT:=hD hT;clear hT;refine (HP w1).mono ?_;rintro en w2 ⟨hpa,hf⟩;have hpa:en = .returned (.tuple #[.agg #[Un,Un],p,er]):=hpa;subst hpa;have B2:=hD (B0.o.fr hf (λx=>x));have F2:=hD (F0.o.tr hf);clear hf;have B3:=hD ((B2.o.alloc (.cells #[Un,Un] 26)));have F3:=hD (F2.o.alloc (.cells #[Un,Un] 26));obtain⟨r0,r1,r2,r3,r4,r5,f0,f1,f2,f3,f4,f5⟩:=B3.o.sixth;have tn:¬T=w2.heap.size:=by have:=B2.o.lt;omega
  have B4:=hD (B3.o.sQ (a':= Un) (b':= Un) (c':= Un) (d':= Un) (e':= Un) (f':= Un));have F4:=hD (sP (Nat.le_of_eq HT) F3 Un Un Un Un Un Un);go_wp2_with fail
  all_goals
   clear r0 r1 r2 r3 r4 r5 f0 f1 f2 f3 f4 f5;generalize ((((((w2.alloc (.cells #[Un,Un] 26)).setCell (T,()) Un).setCell (T,U1) Un).setCell (T,U2) Un).setCell (T,U3) Un).setCell (T,U4) Un).setCell (T,U5) Un=wz at *
  obtain⟨z0,z1,z2,z3,z4,z5,_⟩:=B4.o.sixth;go_wp2
  refine bodyPost_ret (v:= .tuple #[.agg #[Un,Un,Un,Un,Un,Un],p,er]) (by simp[results,results14,go_sem,z0,z1,z2,z3,z4,z5]) rfl ⟨⟨rfl,HE⟩,by first|exact F4.o|exact F4.o.drew⟩
 | good ns fs=>
  have TI:=uX hr0;have HR:=hD hr;have HC:=hD (λ(w':World) (NA FA:Option Addr) (NC FC:Nat) (lvs pvs:List Value) (ht:dL 0 w' (.slice NA ns.length NC) (.slice FA fs.length FC) lvs pvs ns fs)=>xE ht TI.ok TI.rows);have HLT:=hD (λe p (h:dV ns fs = .bad e p)=>aBe TI.ok h);have hn3:(ns.length:Int)≤300:=by have:=TI.ok.few;omega
  clear hr0 hr TI;go_enter func14,ntmps14;go_wp2_with fail
  generalize w.alloc (.cells #[Un,Un,Un,Un,Un,Un] 29)=w1 at *;generalize hT:w.heap.size=T at *;have HT:=hD hT;clear hT;refine (HP w1).mono ?_;rintro en w2 ⟨⟨nv,fv,lvs,pvs,rfl,ht⟩,hf⟩;obtain⟨NA,NC,rfl,-,-⟩:=ht.nodes.cap;obtain⟨FA,FC,rfl,-,-⟩:=ht.fns.cap;have TT:=hD (ht.zero.no ((fR w2).alloc (.cells #[.slice NA ns.length NC,.slice FA fs.length FC] 26)));have B2:=hD ((B0.o.fr hf (λx=>x)).alloc (.cells #[.slice NA ns.length NC,.slice FA fs.length FC] 26));have F2:=hD ((F0.o.tr hf).alloc (.cells #[.slice NA ns.length NC,.slice FA fs.length FC] 26));have X2:=hD (Blk.new w2 26 #[.slice NA ns.length NC,.slice FA fs.length FC]);have tn:Hd (T<w2.heap.size):=(B0.o.fr hf (λx=>x)).lt;clear hf ht;go_wp2_with fail
  generalize w2.alloc (.cells #[.slice NA ns.length NC,.slice FA fs.length FC] 26)=w3 at *;generalize w2.heap.size=X at *;refine (HC w3 NA FA NC FC lvs pvs TT).mono ?_;rintro en w4 ⟨hck,hf⟩;have B4:=hD (B2.o.fr hf (λx=>x));have X4:=hD (X2.o.fr hf (λx=>x));have F4:=hD (F2.o.tr hf);have T4:=hD (TT.o.no hf);clear hf B2 X2 F2 TT;cases hc:dV ns fs with
  | bad e x=>
   rw[hc] at hck;obtain⟨he,he0,he9⟩:=hck;have he:en = .returned (.tuple #[.agg #[Un,Un,Un,Un,Un,Un],x,e]):=he;subst he;have B5:=hD (B4.o.alloc (.cells #[Un,Un,Un,Un,Un,Un] 29));have X5:=hD (X4.o.alloc (.cells #[Un,Un,Un,Un,Un,Un] 29));have F5:=hD (F4.o.alloc (.cells #[Un,Un,Un,Un,Un,Un] 29));have T5:=hD (T4.o.no ((fR w4).alloc (.cells #[Un,Un,Un,Un,Un,Un] 29)));have heb:((e:Int)==0)=false:=bN.2 (by omega);have hne:((e:Int) != 0)=true:=by rw[bne,heb];rfl
   have n1:¬T=w4.heap.size:=by have:=B4.o.lt;omega
   have n2:¬X=w4.heap.size:=by have:=X4.o.lt;omega
   have n3:¬T=X:=by have:=tn.o;omega
   have HE:=hD he0;obtain⟨r0,r1,r2,r3,r4,r5,f0,f1,f2,f3,f4,f5⟩:=B5.o.sixth;have B6:=hD (B5.o.sQ (a':= Un) (b':= Un) (c':= Un) (d':= Un) (e':= Un) (f':= Un));have F6:=hD (sP (Nat.le_of_eq HT) F5 Un Un Un Un Un Un);by_cases h44:e=44
   . subst h44
     have HS:=hD (show fD.bad 0 44=r from by have:=HR.o;simp only[hc] at this;exact this);clear hc he0 he9 heb hne;go_wp2_with fail
     all_goals
      clear r0 r1 r2 r3 r4 r5 f0 f1 f2 f3 f4 f5;generalize ((((((w4.alloc (.cells #[Un,Un,Un,Un,Un,Un] 29)).setCell (T,()) Un).setCell (T,U1) Un).setCell (T,U2) Un).setCell (T,U3) Un).setCell (T,U4) Un).setCell (T,U5) Un=wz at *
     obtain⟨z0,z1,z2,z3,z4,z5,_⟩:=B6.o.sixth;go_wp2
     refine bodyPost_ret (v:= .tuple #[.agg #[Un,Un,Un,Un,Un,Un],U0,(44:Int)]) (by simp[results,results14,go_sem,z0,z1,z2,z3,z4,z5]) rfl ⟨by rw[<-HS.o];exact⟨rfl,by decide⟩,by first|exact F6.o|exact F6.o.drew⟩
   . have hx:=HLT.o e x hc h44
     obtain⟨nd,hnd⟩:∃nd,ns[x]?=some nd:=⟨_,gE hx⟩;have HS:=hD (show fD.bad nd.line e=r from by have:=HR.o;simp only[hc,if_neg h44,hnd] at this;exact this);have hx2:(x:Int)<(ns.length:Int):=by omega
     have h4b:((e:Int)==44)=false:=bN.2 (by omega);obtain⟨nb,nc,lv,e',-,-,-,y1,-⟩:=T5.o.node hnd;injection e' with e1 e2 e3;subst e1;have n4:¬nb=T:=λe=>by
      have h1:=T5.o.nodes.aG B5 (by decide);rw[aZ (by omega) T5.o.nodes.oU.1,e] at h1;exact h1 rfl
     have x0:=(X5.o.cell 0).trans rfl;clear hc he0 he9 hnd hx h44 e2 e3;go_wp2_with fail
     go_region_law (fail)
     all_goals
      clear r0 r1 r2 r3 r4 r5 f0 f1 f2 f3 f4 f5;generalize ((((((w4.alloc (.cells #[Un,Un,Un,Un,Un,Un] 29)).setCell (T,()) Un).setCell (T,U1) Un).setCell (T,U2) Un).setCell (T,U3) Un).setCell (T,U4) Un).setCell (T,U5) Un=wz at *;obtain⟨z0,z1,z2,z3,z4,z5,_⟩:=B6.o.sixth;go_wp2
      refine bodyPost_ret (v:= .tuple #[.agg #[Un,Un,Un,Un,Un,Un],nd.line,e]) (by simp[results,results14,go_sem,z0,z1,z2,z3,z4,z5]) rfl ⟨by rw[<-HS.o];exact⟨rfl,HE⟩,by first|exact F6.o|exact F6.o.drew⟩
  | good p=>
   rw[hc] at hck;obtain⟨tv,sv,uv,zv,rfl,hp⟩:=hck;have HS:=hD (show fD.good p=r from by have:=HR.o;simp only[hc] at this;exact this);obtain⟨TA,TC,rfl,-,-⟩:=hp.types.cap;obtain⟨SA,SC,rfl,-,-⟩:=hp.slots.cap;obtain⟨UA,UC,rfl,-,-⟩:=hp.fn.cap;obtain⟨ZA,ZC,rfl,-,-⟩:=hp.sizes.cap;generalize hl1:p.types.length=l1 at *;generalize hl2:p.slots.length=l2 at *;generalize hl3:p.fn.length=l3 at *;generalize hl4:p.sizes.length=l4 at *;have B5:=hD (B4.o.alloc (.cells #[.slice NA ns.length NC,.slice FA fs.length FC,.slice TA l1 TC,.slice SA l2 SC,.slice UA l3 UC,.slice ZA l4 ZC] 29));have F5:=hD (F4.o.alloc (.cells #[.slice NA ns.length NC,.slice FA fs.length FC,.slice TA l1 TC,.slice SA l2 SC,.slice UA l3 UC,.slice ZA l4 ZC] 29));have P5:=hD (hp.no ((fR w4).alloc (.cells #[.slice NA ns.length NC,.slice FA fs.length FC,.slice TA l1 TC,.slice SA l2 SC,.slice UA l3 UC,.slice ZA l4 ZC] 29)));have n1:¬T=w4.heap.size:=by have:=B4.o.lt;omega
   obtain⟨r0,r1,r2,r3,r4,r5,f0,f1,f2,f3,f4,f5⟩:=B5.o.sixth;have B6:=hD (B5.o.sQ (a':= .slice NA ns.length NC) (b':= .slice FA fs.length FC) (c':= .slice TA l1 TC) (d':= .slice SA l2 SC) (e':= .slice UA l3 UC) (f':= .slice ZA l4 ZC));have F6:=hD (sP (Nat.le_of_eq HT) F5 (.slice NA ns.length NC) (.slice FA fs.length FC) (.slice TA l1 TC) (.slice SA l2 SC) (.slice UA l3 UC) (.slice ZA l4 ZC));have P6:=hD (P5.o.aRh B5 (Fr.six (w4.alloc (.cells #[.slice NA ns.length NC,.slice FA fs.length FC,.slice TA l1 TC,.slice SA l2 SC,.slice UA l3 UC,.slice ZA l4 ZC] 29)) T (.slice NA ns.length NC) (.slice FA fs.length FC) (.slice TA l1 TC) (.slice SA l2 SC) (.slice UA l3 UC) (.slice ZA l4 ZC)));clear hc hp hl1 hl2 hl3 hl4;go_wp2_with fail
   all_goals
     clear r0 r1 r2 r3 r4 r5 f0 f1 f2 f3 f4 f5;generalize ((((((w4.alloc (.cells #[.slice NA ns.length NC,.slice FA fs.length FC,.slice TA l1 TC,.slice SA l2 SC,.slice UA l3 UC,.slice ZA l4 ZC] 29)).setCell (T,()) (.slice NA ns.length NC)).setCell (T,U1) (.slice FA fs.length FC)).setCell (T,U2) (.slice TA l1 TC)).setCell (T,U3) (.slice SA l2 SC)).setCell (T,U4) (.slice UA l3 UC)).setCell (T,U5) (.slice ZA l4 ZC)=wz at *
   obtain⟨z0,z1,z2,z3,z4,z5,_⟩:=B6.o.sixth;go_wp2
   refine bodyPost_ret (v:= .tuple #[.agg #[.slice NA ns.length NC,.slice FA fs.length FC,.slice TA l1 TC,.slice SA l2 SC,.slice UA l3 UC,.slice ZA l4 ZC],U0,U0]) (by simp[results,results14,go_sem,z0,z1,z2,z3,z4,z5]) rfl ⟨by rw[<-HS.o];exact⟨_,_,_,_,_,_,_,_,rfl,by first|exact P6.o|exact P6.o.no ((fR _).drew)⟩,by first|exact F6.o|exact F6.o.drew⟩
end Go.Proofs.YtlbjicjinnnboaaGreatDoor
/- The parser on two rows of tokens that are alike up to a place: the steps. -/
namespace Go.Proofs.YtlbjicjinnnboaaGreatDoor
open Go.RowKit Go.Proofs.Tryz
variable {n m k:Nat}{s s':PS}{x:List UInt8}{r:List Nat×PS}{l l':List Nat}
def shN (b:Nat) (n:aH):aH:={ n with line:=0,l:=n.l.map (· + b) }
def zlN (n:aH):aH:={ n with line:=0 }
def Mt (ts ts':List Tok) (d m:Nat):Prop:=∀i,i<m->(ts'.getD (i+d) mK).kind=(ts.getD i mK).kind∧(ts'.getD (i+d) mK).text=(ts.getD i mK).text
structure EO (ts:List Tok) (m:Nat) (s:PS):Prop where
 ok:bT ts s
 esc:(s.e=0∧m≤s.i)∨(s.e≠0∧∃j,m≤j∧j<ts.length∧s.place=(ts.getD j mK).place)
structure Rl (ts ts':List Tok) (d m b:Nat) (P:List aH) (s s':PS):Prop where
 e:s'.e=s.e
 deep:s'.deep=s.deep
 i:s.e=0->s'.i=s.i+d
 nodes:s.e=0->s'.nodes.map zlN=P++s.nodes.map (shN b)
 place:s.e≠0->∃j,j<m∧s.place=(ts.getD j mK).place∧s'.place=(ts'.getD (j+d) mK).place
 lt:s.e=0->s.i<m
def S2 (ts ts':List Tok) (d m b:Nat) (P:List aH) (s s':PS):Prop:=EO ts m s∨(bT ts s∧Rl ts ts' d m b P s s')
def Out (ts ts':List Tok) (d m b:Nat) (P:List aH) (r r':List Nat×PS):Prop:=EO ts m r.2∨(bT ts r.2∧Rl ts ts' d m b P r.2 r'.2∧(r.2.e=0->r'.1=r.1.map (· + b)))
section
variable {ts ts':List Tok}{d m b:Nat}{P:List aH}{s s':PS}
theorem EO.go (h:EO ts m s) (hk:bT ts (pGo s)):EO ts m (pGo s):=by
 refine⟨hk,?_⟩;rcases h.esc with ⟨h0,hi⟩|⟨h0,j,hj⟩
 . exact .inl ⟨h0,by show m≤s.i+1;omega⟩
 . exact .inr ⟨h0,j,hj⟩
theorem EO.fail (h:EO ts m s) (ht:aO ts) (k:Nat) (hk:k≤21) (hk1:1≤k):EO ts m (aQ ts k s):=by
 refine⟨h.ok.fail ht k hk hk1,?_⟩;unfold aQ;rcases h.esc with ⟨h0,hi⟩|⟨h0,j,hj⟩
 . rw[if_pos h0]
   exact .inr ⟨by show k≠0;omega,s.i,hi,h.ok.room,rfl⟩
 . rw[if_neg h0]
   exact .inr ⟨h0,j,hj⟩
theorem EO.must (h:EO ts m s) (ht:aO ts) (x:List UInt8):EO ts m (aA ts x s):=by
 by_cases hp:pIs ts x s=true
 . have e:aA ts x s=pGo s:=by unfold aA;rw[if_pos hp]
   rw[e];exact h.go (h.ok.kE ht hp)
 . have e:aA ts x s=aQ ts 20 s:=by unfold aA;rw[if_neg hp]
   rw[e];exact h.fail ht 20 (by decide) (by decide)
theorem EO.named (h:EO ts m s) (ht:aO ts):EO ts m (aF ts s):=by
 by_cases hp:bB ts 3 s=true
 . have e:aF ts s=pGo s:=by unfold aF;rw[if_pos hp]
   rw[e];exact h.go (h.ok.gM ht (aM hp).2 (by decide))
 . have e:aF ts s=aQ ts 20 s:=by unfold aF;rw[if_neg hp]
   rw[e];exact h.fail ht 20 (by decide) (by decide)
theorem EO.typed (h:EO ts m s) (ht:aO ts):EO ts m (bC ts s):=by
 have hk:=h.ok.typed ht;unfold bC at hk ⊢;by_cases hp:eF ts s=0
 . rw[if_pos hp];exact h.fail ht 20 (by decide) (by decide)
 . rw[if_neg hp] at hk ⊢;exact h.go hk
theorem EO.eZ (h:EO ts m s) (ht:aO ts) (hx:pIs ts x s=true):EO ts m (aU ts s):=by
 refine⟨h.ok.eZ ht hx,?_⟩;have h0:=(aL hx).1;by_cases hd:16≤s.deep
 . have:=(h.fail ht 21 (by decide) (by decide)).esc
   unfold aU;simp only;rw[if_pos hd];exact this
 . unfold aU
   simp only;rw[if_neg hd];exact h.esc
theorem EO.goDown (h:EO ts m s) (ht:aO ts) (hx:pIs ts x s=true):EO ts m (pGo (aU ts s)):=(h.eZ ht hx).go (h.ok.goDown ht hx)
theorem EO.up (h:EO ts m s):EO ts m (pUp s):=⟨h.ok.up,h.esc⟩
theorem EO.put (h:EO ts m s) (k line n:Nat) (name:List UInt8) (l:List Nat):EO ts m (bY k line n name l s).2:=⟨h.ok.put ..,h.esc⟩
theorem EO.kE (h:EO ts m s) (ht:aO ts) (hx:pIs ts x s=true):EO ts m (pGo s):=h.go (h.ok.kE ht hx)
theorem EO.kD {lv:Nat} (h:EO ts m s) (ht:aO ts) (hx:fC ts lv s≠[]):EO ts m (pGo s):=h.go (h.ok.kD ht hx)
theorem EO.dS (h:EO ts m s) (ht:aO ts) (hw:bQ ts s=x) (hx:x≠[]):EO ts m (pGo s):=h.go (h.ok.dS ht hw hx)
theorem EO.gM (h:EO ts m s) (ht:aO ts) (hk:(bF ts s).kind=k) (h0:k≠0):EO ts m (pGo s):=h.go (h.ok.gM ht hk h0)
theorem dZ {src:List UInt8} (ht:aO ts):∀(n:Nat) (k:Task) (s:PS) (r:List Nat×PS),run src ts n k s=some r->EO ts m s->EO ts m r.2:=by
 intro n;induction n with
 | zero=>intro k s r h;simp[run] at h
 | succ n ih=>
  intro k s r h hs;cases k<;>simp only[run] at h<;>
   (repeat' split at h)<;>
   (try simp only[mS,bS,Option.some.injEq] at h)<;>
   (try (obtain⟨q1,h1,h⟩:=h))<;>
   (repeat' split at h)<;>
   (try simp only[mS,bS,Option.some.injEq] at h)<;>
   (try (obtain⟨q2,h2,h⟩:=h))<;>
   (repeat' split at h)<;>
   (try simp only[mS,bS,Option.some.injEq] at h)<;>
   (try (obtain⟨q3,h3,h⟩:=h))<;>
   (try subst h)<;>
   (try subst h1)<;>
   (repeat (first
     | assumption
     | apply EO.put
     | apply EO.up
     | (refine EO.must ?_ ht _)
     | (refine EO.named ?_ ht)
     | (refine EO.typed ?_ ht)
     | (refine EO.fail ?_ ht 20 (by decide) (by decide))
     | (refine EO.goDown ?_ ht (by assumption))
     | (refine EO.eZ ?_ ht (by assumption))
     | (refine EO.kE ?_ ht (by assumption))
     | (refine EO.kD ?_ ht (by assumption))
     | (refine EO.dS ?_ ht (by assumption) (by simp))
     | (refine EO.gM ?_ ht (by assumption) (by decide))
     | (refine ih _ _ _ (by assumption) ?_)
     | dsimp only))
end
/- Two readers: what they see. -/
section
variable {ts ts':List Tok}{d m b:Nat}{P:List aH}{s s':PS}
theorem Rl.tok (hm:Mt ts ts' d m) (h:Rl ts ts' d m b P s s') (h0:s.e=0):(bF ts' s').kind=(bF ts s).kind∧(bF ts' s').text=(bF ts s).text:=by
 unfold bF;rw[h.i h0];exact hm _ (h.lt h0)
theorem Rl.is (hm:Mt ts ts' d m) (h:Rl ts ts' d m b P s s') (x:List UInt8):pIs ts' x s'=pIs ts x s:=by
 unfold pIs;rw[h.e];by_cases h0:s.e=0
 . rw[(h.tok hm h0).1,(h.tok hm h0).2]
 . rw[decide_eq_false h0];simp
theorem Rl.kind (hm:Mt ts ts' d m) (h:Rl ts ts' d m b P s s') (k:Nat):bB ts' k s'=bB ts k s:=by
 unfold bB;rw[h.e];by_cases h0:s.e=0
 . rw[(h.tok hm h0).1]
 . rw[decide_eq_false h0];simp
theorem Rl.word (hm:Mt ts ts' d m) (h:Rl ts ts' d m b P s s'):bQ ts' s'=bQ ts s:=by
 unfold bQ;rw[h.kind hm];by_cases hk:bB ts 4 s=true
 . rw[if_pos hk,if_pos hk,(h.tok hm (aM hk).1).2]
 . rw[if_neg hk,if_neg hk]
theorem Rl.type (hm:Mt ts ts' d m) (h:Rl ts ts' d m b P s s'):eF ts' s'=eF ts s:=by
 unfold eF;rw[h.word hm]
theorem Rl.name (hm:Mt ts ts' d m) (h:Rl ts ts' d m b P s s'):dH ts' s'=dH ts s:=by
 unfold dH;rw[h.kind hm];by_cases hk:bB ts 3 s=true
 . rw[if_pos hk,if_pos hk,(h.tok hm (aM hk).1).2]
 . rw[if_neg hk,if_neg hk]
theorem Rl.next (hm:Mt ts ts' d m) (h:Rl ts ts' d m b P s s') (lv:Nat):fC ts' lv s'=fC ts lv s:=by
 unfold fC;rw[show (λx=>pIs ts' x s')=λx=>pIs ts x s from funext λx=>h.is hm x]
theorem Rl.calls (hm:Mt ts ts' d m) (h:Rl ts ts' d m b P s s') (hi:s.i+1<m):eP ts' s'=eP ts s:=by
 unfold eP;rw[h.kind hm];by_cases hk:bB ts 3 s=true
 . have h1:=hm _ hi
   rw[h.i (aM hk).1,show s.i+d+1=s.i+1+d by omega,h1.1,h1.2]
 . rw[show bB ts 3 s=false by simpa using hk];rfl
/- Their steps. -/
theorem Rl.go (h:Rl ts ts' d m b P s s') (hk:bT ts (pGo s)):S2 ts ts' d m b P (pGo s) (pGo s'):=by
 by_cases h0:s.e=0
 . by_cases hi:s.i+1<m
   . exact .inr ⟨hk,h.e,h.deep,λ_=>by show s'.i+1=s.i+1+d;have:=h.i h0;omega,h.nodes,λhe=>absurd h0 he,λ_=>hi⟩
   . exact .inl ⟨hk,.inl ⟨h0,by show m≤s.i+1;omega⟩⟩
 . exact .inr ⟨hk,h.e,h.deep,λe=>absurd e h0,λe=>absurd e h0,h.place,λe=>absurd e h0⟩
theorem Rl.fail (h:Rl ts ts' d m b P s s') (k:Nat) (hk:1≤k):Rl ts ts' d m b P (aQ ts k s) (aQ ts' k s'):=by
 unfold aQ;rw[h.e];by_cases h0:s.e=0
 . rw[if_pos h0,if_pos h0]
   have hk0:k≠0:=by omega
   refine⟨rfl,h.deep,λe=>absurd e hk0,λe=>absurd e hk0,λ_=>⟨s.i,h.lt h0,rfl,?_⟩,λe=>absurd e hk0⟩
   show (bF ts' s').place=_
   unfold bF;rw[h.i h0]
 . rw[if_neg h0,if_neg h0]
   exact h
theorem S2.go (h:S2 ts ts' d m b P s s') (hk:bT ts (pGo s)):S2 ts ts' d m b P (pGo s) (pGo s'):=by
 rcases h with h|⟨_,h⟩
 . exact .inl (h.go hk)
 . exact h.go hk
theorem S2.fail (h:S2 ts ts' d m b P s s') (ht:aO ts) (k:Nat) (hk:k≤21) (hk1:1≤k):S2 ts ts' d m b P (aQ ts k s) (aQ ts' k s'):=by
 rcases h with h|⟨ho,h⟩
 . exact .inl (h.fail ht k hk hk1)
 . exact .inr ⟨ho.fail ht k hk hk1,h.fail k hk1⟩
theorem S2.must (hm:Mt ts ts' d m) (h:S2 ts ts' d m b P s s') (ht:aO ts) (x:List UInt8):S2 ts ts' d m b P (aA ts x s) (aA ts' x s'):=by
 rcases h with h|⟨ho,h⟩
 . exact .inl (h.must ht x)
 . unfold aA
   rw[h.is hm x];by_cases hp:pIs ts x s=true
   . rw[if_pos hp,if_pos hp];exact h.go (ho.kE ht hp)
   . rw[if_neg hp,if_neg hp];exact S2.fail (.inr ⟨ho,h⟩) ht 20 (by decide) (by decide)
theorem S2.named (hm:Mt ts ts' d m) (h:S2 ts ts' d m b P s s') (ht:aO ts):S2 ts ts' d m b P (aF ts s) (aF ts' s'):=by
 rcases h with h|⟨ho,h⟩
 . exact .inl (h.named ht)
 . unfold aF
   rw[h.kind hm];by_cases hp:bB ts 3 s=true
   . rw[if_pos hp,if_pos hp];exact h.go (ho.gM ht (aM hp).2 (by decide))
   . rw[if_neg hp,if_neg hp];exact S2.fail (.inr ⟨ho,h⟩) ht 20 (by decide) (by decide)
theorem S2.typed (hm:Mt ts ts' d m) (h:S2 ts ts' d m b P s s') (ht:aO ts):S2 ts ts' d m b P (bC ts s) (bC ts' s'):=by
 rcases h with h|⟨ho,h⟩
 . exact .inl (h.typed ht)
 . have hk:=ho.typed ht
   unfold bC at hk ⊢;rw[h.type hm];by_cases hp:eF ts s=0
   . rw[if_pos hp,if_pos hp];exact S2.fail (.inr ⟨ho,h⟩) ht 20 (by decide) (by decide)
   . rw[if_neg hp] at hk
     rw[if_neg hp,if_neg hp];exact h.go hk
theorem S2.eZ (h:S2 ts ts' d m b P s s') (ht:aO ts) (hx:pIs ts x s=true):S2 ts ts' d m b P (aU ts s) (aU ts' s'):=by
 rcases h with h|⟨ho,h⟩
 . exact .inl (h.eZ ht hx)
 . refine .inr ⟨ho.eZ ht hx,?_⟩
   unfold aU;simp only;rw[h.deep];by_cases hd:16≤s.deep
   . rw[if_pos hd,if_pos hd]
     have h1:=h.fail 21 (by decide);exact⟨h1.e,by show (aQ ts' 21 s').deep+1=(aQ ts 21 s).deep+1;rw[h1.deep],h1.i,h1.nodes,h1.place,h1.lt⟩
   . rw[if_neg hd,if_neg hd]
     exact⟨h.e,by show s'.deep+1=s.deep+1;rw[h.deep],h.i,h.nodes,h.place,h.lt⟩
theorem S2.up (h:S2 ts ts' d m b P s s'):S2 ts ts' d m b P (pUp s) (pUp s'):=by
 rcases h with h|⟨ho,h⟩
 . exact .inl h.up
 . exact .inr ⟨ho.up,h.e,by show s'.deep - 1=s.deep - 1;rw[h.deep],h.i,h.nodes,h.place,h.lt⟩
theorem S2.put (hP:P.length=b) (h:S2 ts ts' d m b P s s') (k n line line':Nat) (name:List UInt8) (hl:s.e=0->l'=l.map (· + b)):Out ts ts' d m b P (bY k line n name l s) (bY k line' n name l' s'):=by
 rcases h with h|⟨ho,h⟩
 . exact .inl (h.put ..)
 . refine .inr ⟨ho.put ..,⟨h.e,h.deep,h.i,λh0=>?_,h.place,h.lt⟩,λh0=>?_⟩
   . show (s'.nodes++[_]).map zlN=P++(s.nodes++[_]).map (shN b)
     rw[List.map_append,List.map_append,h.nodes h0,List.append_assoc,hl h0];rfl
   . have h1:=congrArg List.length (h.nodes h0)
     simp only[List.length_map,List.length_append] at h1
     show [s'.nodes.length]=[s.nodes.length+b]
     rw[h1,hP,Nat.add_comm]
theorem Out.st {r':List Nat×PS} (h:Out ts ts' d m b P r r'):S2 ts ts' d m b P r.2 r'.2:=by
 rcases h with h|⟨a,c,_⟩
 . exact .inl h
 . exact .inr ⟨a,c⟩
end
inductive TR (b:Nat) (s:PS):Task->Task->Prop
 | atom:TR b s .atom .atom
 | factor:TR b s .factor .factor
 | chain (lv:Nat):TR b s (.chain lv) (.chain lv)
 | more (lv l l' x x':Nat) (h:s.e=0->x'=x+b):TR b s (.more lv l x) (.more lv l' x')
 | args (l l':List Nat) (h:s.e=0->l'=l.map (· + b)):TR b s (.args l) (.args l')
 | call:TR b s .call .call
 | right:TR b s .right .right
 | block:TR b s .block .block
 | stmts (l l':List Nat) (h:s.e=0->l'=l.map (· + b)):TR b s (.stmts l) (.stmts l')
 | named (l l':Nat):TR b s (.named l) (.named l')
 | stmt:TR b s .stmt .stmt
section
variable {src src':List UInt8}{ts ts':List Tok}{d m b:Nat}{P:List aH}
def RR (src':List UInt8) (ts ts':List Tok) (d m b:Nat) (P:List aH) (n:Nat) (k':Task) (s':PS) (r:List Nat×PS):Prop:=
 EO ts m r.2∨∃r',run src' ts' n k' s'=some r'∧bT ts r.2∧Rl ts ts' d m b P r.2 r'.2∧(r.2.e=0->r'.1=r.1.map (· + b))
theorem Out.rr {k':Task}{r':List Nat×PS} (h:Out ts ts' d m b P r r') (hr:run src' ts' n k' s'=some r'):RR src' ts ts' d m b P n k' s' r:=by
 rcases h with h|⟨a,c,e⟩
 . exact .inl h
 . exact .inr ⟨r',hr,a,c,e⟩
theorem S2.err (h:S2 ts ts' d m b P s s') (l l':List Nat) (he:s.e≠0):Out ts ts' d m b P (l,s) (l',s'):=by
 rcases h with h|⟨a,c⟩
 . exact .inl h
 . exact .inr ⟨a,c,λe=>absurd e he⟩
theorem S2.ok (h:S2 ts ts' d m b P s s') (he:s.e=0->l'=l.map (· + b)):Out ts ts' d m b P (l,s) (l',s'):=by
 rcases h with h|⟨a,c⟩
 . exact .inl h
 . exact .inr ⟨a,c,he⟩
theorem uE (k:Nat) (hk:k≠0) (s:PS):(aQ ts k s).e≠0:=by
 unfold aQ;split
 . exact hk
 . assumption
theorem pW (h1:l=[oneOf l]) (h:l'=l.map (· + b)):l'.headD 0=l.headD 0+b:=by
 rw[h,h1];rfl
theorem aIe (ht:aO ts) (h:run src ts n .factor s=some r) (hk:bB ts 3 s=true) (hE:EO ts m (pGo s)):EO ts m r.2:=by
 have hno:∀x,pIs ts x s=false:=λx=>by
  unfold pIs;rw[(aM hk).2];simp
 cases n with
 | zero=>simp[run] at h
 | succ n=>
  simp only[run] at h;rw[if_neg (by rw[hno];decide),if_neg (by rw[hno];decide)] at h;cases n with
  | zero=>simp[run] at h
  | succ n=>
   simp only[run] at h;rw[if_neg (by have:=(aM hk).1;omega),if_neg (by rw[(aM hk).2];decide),if_neg (by rw[(aM hk).2];decide),if_pos (aM hk).2] at h;by_cases i1:pIs ts [91] (pGo s)=true
   . rw[if_pos i1] at h
     simp only[mS] at h;obtain⟨q,hq,rfl⟩:=h;exact ((dZ ht _ _ _ _ hq ((hE.eZ ht i1).must ht _)).must ht _).up.put ..
   . rw[if_neg i1] at h
     simp only[Option.some.injEq] at h;subst h;exact hE.put ..
theorem aBf (ht:aO ts):∀{n lv:Nat}{s:PS}{r:List Nat×PS},run src ts n (.chain lv) s=some r->bB ts 3 s=true->EO ts m (pGo s)->EO ts m r.2
 | 0,_,_,_,h,_,_=>by simp[run] at h
 | n+1,lv,s,r,h,hk,hE=>by
  simp only[run] at h;by_cases h5:lv=5
  . rw[if_pos h5] at h
    exact aIe ht h hk hE
  . rw[if_neg h5] at h
    simp only[bS] at h;obtain⟨q,hq,h⟩:=h;exact dZ ht _ _ _ _ h (aBf ht hq hk hE)
theorem aIt (ht:aO ts) (h:run src ts n .call s=some r) (hE:EO ts m (aF ts s)):EO ts m r.2:=by
 cases n with
 | zero=>simp[run] at h
 | succ n=>
  simp only[run,mS] at h;obtain⟨q,hq,rfl⟩:=h;refine EO.put (EO.must ?_ ht _) ..;split at hq
  . exact dZ ht _ _ _ _ hq (hE.must ht _)
  . simp only[Option.some.injEq] at hq
    subst hq;exact hE.must ht _
theorem aKn (ht:aO ts) (h:run src ts n .right s=some r) (hk:bB ts 3 s=true) (hE:EO ts m (pGo s)):EO ts m r.2:=by
 have hno:∀x,pIs ts x s=false:=λx=>by
  unfold pIs;rw[(aM hk).2];simp
 cases n with
 | zero=>simp[run] at h
 | succ n=>
  simp only[run] at h;rw[if_neg (by rw[hno];decide),if_neg (by rw[hno];decide)] at h;split at h
  . exact aIt ht h (by unfold aF;rw[if_pos hk];exact hE)
  . exact aBf ht h hk hE
theorem aLd (ht:aO ts){l:Nat} (h:run src ts n (.named l) s=some r) (hE:EO ts m (aF ts s)):EO ts m r.2:=by
 cases n with
 | zero=>simp[run] at h
 | succ n=>
  simp only[run] at h;split at h
  . simp only[mS] at h
    obtain⟨q,hq,rfl⟩:=h;exact ((aIt ht hq hE).must ht _).put ..
  . split at h
    . rename_i i1
      simp only[bS,mS] at h;obtain⟨q,hq,u,hu,rfl⟩:=h;exact ((dZ ht _ _ _ _ hu (((dZ ht _ _ _ _ hq ((hE.eZ ht i1).must ht _)).must ht _).up.must ht _)).must ht _).put ..
    . simp only[mS] at h
      obtain⟨q,hq,rfl⟩:=h;exact ((dZ ht _ _ _ _ hq (hE.must ht _)).must ht _).put ..
theorem Rl.aNl (hm:Mt ts ts' d m) (ho:bT ts s) (ht:aO ts) (h:Rl ts ts' d m b P s s'):eP ts' s'=eP ts s∨(bB ts 3 s=true∧EO ts m (pGo s)):=by
 by_cases hk:bB ts 3 s=true
 . by_cases hi:s.i+1<m
   . exact .inl (h.calls hm hi)
   . exact .inr ⟨hk,ho.gM ht (aM hk).2 (by decide),.inl ⟨(aM hk).1,by show m≤s.i+1;omega⟩⟩
 . refine .inl ?_
   unfold eP;rw[h.kind hm,show bB ts 3 s=false by simpa using hk];rfl
theorem aFq (hm:Mt ts ts' d m) (hP:P.length=b) (ht:aO ts):∀(n:Nat) (k:Task) (s:PS) (r:List Nat×PS),run src ts n k s=some r->∀(k':Task) (s':PS),TR b s k k'->bT ts s->Rl ts ts' d m b P s s'->RR src' ts ts' d m b P n k' s' r:=by
 intro n;induction n with
 | zero=>intro k s r h;simp[run] at h
 | succ n ih=>
  intro k s r h k' s' hk ho hl;have sub:∀{k k':Task} {u u':PS} {q:List Nat×PS},S2 ts ts' d m b P u u'->run src ts n k u=some q->TR b u k k'->RR src' ts ts' d m b P n k' u' q:=by
   intro k k' u u' q hs hq hk;rcases hs with hs|⟨ho,hl⟩
   . exact .inl (dZ ht _ _ _ _ hq hs)
   . exact ih _ _ _ hq _ _ hk ho hl
  have h2:S2 ts ts' d m b P s s':= .inr ⟨ho,hl⟩;have hI:=λx=>hl.is hm x
  cases hk with
  | atom=>
   simp only[run] at h;by_cases he:s.e≠0
   . rw[if_pos he] at h
     simp only[Option.some.injEq] at h;subst h;exact (h2.err _ [0] he).rr (by simp only[run];rw[if_pos (by rw[hl.e];exact he)])
   . rw[if_neg he] at h
     have h0:s.e=0:=by omega
     have he':¬s'.e≠0:=by rw[hl.e];exact he
     obtain⟨tk,tt⟩:=hl.tok hm h0;by_cases k1:(bF ts s).kind=1
     . rw[if_pos k1] at h
       simp only[Option.some.injEq] at h;subst h;exact ((h2.go (ho.gM ht k1 (by decide))).put hP 1 _ _ (aR src' ts' s') [] (l':=[]) (λ_=>rfl)).rr (by simp only[run];rw[if_neg he',tk,if_pos k1,tt])
     . rw[if_neg k1] at h
       by_cases k2:(bF ts s).kind=2
       . rw[if_pos k2] at h
         simp only[Option.some.injEq] at h;subst h;exact ((h2.go (ho.gM ht k2 (by decide))).put hP 3 _ _ (aR src' ts' s') _ (l':=[]) (λ_=>rfl)).rr (by simp only[run];rw[if_neg he',tk,if_neg k1,if_pos k2,tt])
       . rw[if_neg k2] at h
         by_cases k3:(bF ts s).kind=3
         . rw[if_pos k3] at h
           rcases h2.go (ho.gM ht k3 (by decide)) with hE|⟨ho1,hl1⟩
           . -- past what is alike
             refine .inl ?_;by_cases i1:pIs ts [91] (pGo s)=true
             . rw[if_pos i1] at h
               simp only[mS] at h;obtain⟨q,hq,rfl⟩:=h;exact ((dZ ht _ _ _ _ hq ((hE.eZ ht i1).must ht _)).must ht _).up.put ..
             . rw[if_neg i1] at h
               simp only[Option.some.injEq] at h;subst h;exact hE.put ..
           . by_cases i1:pIs ts [91] (pGo s)=true
             . rw[if_pos i1] at h
               simp only[mS] at h;obtain⟨q,hq,rfl⟩:=h;rcases sub (S2.must hm (S2.eZ (.inr ⟨ho1,hl1⟩) ht i1) ht [91]) hq (TR.chain 0) with hE|⟨q',hq',a,c,e⟩
               . exact .inl ((hE.must ht _).up.put ..)
               . exact ((S2.must hm (.inr ⟨a,c⟩) ht [93]).up.put hP 5 0 _ (aR src' ts' s') _ (λe0=>e (((Ext.refl q.2).must (ts:=ts) [93]).up.e0 e0))).rr (by
                   simp only[run];rw[if_neg he',tk,if_neg k1,if_neg k2,if_pos k3,hl1.is hm,if_pos i1,hq',tt];rfl)
             . rw[if_neg i1] at h
               simp only[Option.some.injEq] at h;subst h;exact (S2.put hP (.inr ⟨ho1,hl1⟩) 4 _ _ (aR src' ts' s') _ (l':=[]) (λ_=>rfl)).rr (by
                   simp only[run];rw[if_neg he',tk,if_neg k1,if_neg k2,if_pos k3,hl1.is hm,if_neg i1,tt])
         . rw[if_neg k3] at h
           by_cases i1:pIs ts [116,114,117,101] s=true
           . rw[if_pos i1] at h
             simp only[Option.some.injEq] at h;subst h;exact ((h2.go (ho.kE ht i1)).put hP 2 _ _ (aR src' ts' s') [] (l':=[]) (λ_=>rfl)).rr (by simp only[run];rw[if_neg he',tk,if_neg k1,if_neg k2,if_neg k3,hI,if_pos i1])
           . rw[if_neg i1] at h
             by_cases i2:pIs ts [102,97,108,115,101] s=true
             . rw[if_pos i2] at h
               simp only[Option.some.injEq] at h;subst h;exact ((h2.go (ho.kE ht i2)).put hP 2 _ _ (aR src' ts' s') [] (l':=[]) (λ_=>rfl)).rr (by simp only[run];rw[if_neg he',tk,if_neg k1,if_neg k2,if_neg k3,hI,if_neg i1,hI,if_pos i2])
             . rw[if_neg i2] at h
               by_cases i3:pIs ts [108,101,110] s=true
               . rw[if_pos i3] at h
                 rcases h2.go (ho.kE ht i3) with hE|⟨ho1,hl1⟩
                 . refine .inl ?_
                   by_cases i4:pIs ts [40] (pGo s)=true
                   . rw[if_pos i4] at h
                     simp only[mS] at h;obtain⟨q,hq,rfl⟩:=h;exact ((dZ ht _ _ _ _ hq ((hE.eZ ht i4).must ht _)).must ht _).up.put ..
                   . rw[if_neg i4] at h
                     simp only[Option.some.injEq] at h;subst h;exact hE.fail ht 20 (by decide) (by decide)
                 . by_cases i4:pIs ts [40] (pGo s)=true
                   . rw[if_pos i4] at h
                     simp only[mS] at h;obtain⟨q,hq,rfl⟩:=h;rcases sub (S2.must hm (S2.eZ (.inr ⟨ho1,hl1⟩) ht i4) ht [40]) hq (TR.chain 0) with hE|⟨q',hq',a,c,e⟩
                     . exact .inl ((hE.must ht _).up.put ..)
                     . exact ((S2.must hm (.inr ⟨a,c⟩) ht [41]).up.put hP 6 0 _ (aR src' ts' s') _ (λe0=>e (((Ext.refl q.2).must (ts:=ts) [41]).up.e0 e0))).rr (by
                        simp only[run];rw[if_neg he',tk,if_neg k1,if_neg k2,if_neg k3,hI,if_neg i1,hI,if_neg i2,hI,if_pos i3,hl1.is hm,if_pos i4,hq'];rfl)
                   . rw[if_neg i4] at h
                     simp only[Option.some.injEq] at h;subst h;exact ((S2.fail (.inr ⟨ho1,hl1⟩) ht 20 (by decide) (by decide)).err _ [0] (uE 20 (by decide) _)).rr (by
                        simp only[run];rw[if_neg he',tk,if_neg k1,if_neg k2,if_neg k3,hI,if_neg i1,hI,if_neg i2,hI,if_pos i3,hl1.is hm,if_neg i4])
               . rw[if_neg i3] at h
                 by_cases i4:pIs ts [40] s=true
                 . rw[if_pos i4] at h
                   simp only[mS] at h;obtain⟨q,hq,rfl⟩:=h;rcases sub (S2.must hm (h2.eZ ht i4) ht [40]) hq (TR.chain 0) with hE|⟨q',hq',a,c,e⟩
                   . exact .inl (hE.must ht _).up
                   . exact ((S2.must hm (.inr ⟨a,c⟩) ht [41]).up.ok (l:=q.1) (l':=q'.1) (λe0=>e (((Ext.refl q.2).must (ts:=ts) [41]).up.e0 e0))).rr (by
                       simp only[run];rw[if_neg he',tk,if_neg k1,if_neg k2,if_neg k3,hI,if_neg i1,hI,if_neg i2,hI,if_neg i3,hI,if_pos i4,hq'];rfl)
                 . rw[if_neg i4] at h
                   simp only[Option.some.injEq] at h;subst h;exact ((h2.fail ht 20 (by decide) (by decide)).err _ [0] (uE 20 (by decide) _)).rr (by
                       simp only[run];rw[if_neg he',tk,if_neg k1,if_neg k2,if_neg k3,hI,if_neg i1,hI,if_neg i2,hI,if_neg i3,hI,if_neg i4])
  | factor=>
   simp only[run] at h;by_cases i1:pIs ts [45] s=true
   . rw[if_pos i1] at h
     simp only[mS] at h;obtain⟨q,hq,rfl⟩:=h;rcases sub ((h2.eZ ht i1).go (ho.goDown ht i1)) hq TR.factor with hE|⟨q',hq',a,c,e⟩
     . exact .inl (hE.up.put ..)
     . exact ((S2.up (.inr ⟨a,c⟩)).put hP 7 0 _ (aR src' ts' s') _ (λe0=>e e0)).rr (by simp only[run];rw[hI,if_pos i1,hq'];rfl)
   . rw[if_neg i1] at h
     by_cases i2:pIs ts [33] s=true
     . rw[if_pos i2] at h
       simp only[mS] at h;obtain⟨q,hq,rfl⟩:=h;rcases sub ((h2.eZ ht i2).go (ho.goDown ht i2)) hq TR.factor with hE|⟨q',hq',a,c,e⟩
       . exact .inl (hE.up.put ..)
       . exact ((S2.up (.inr ⟨a,c⟩)).put hP 8 0 _ (aR src' ts' s') _ (λe0=>e e0)).rr (by simp only[run];rw[hI,if_neg i1,hI,if_pos i2,hq'];rfl)
     . rw[if_neg i2] at h
       rcases sub h2 h TR.atom with hE|⟨q',hq',a,c,e⟩
       . exact .inl hE
       . exact .inr ⟨q',by simp only[run];rw[hI,if_neg i1,hI,if_neg i2,hq'],a,c,e⟩
  | chain lv=>
   simp only[run] at h;by_cases h5:lv=5
   . rw[if_pos h5] at h
     rcases sub h2 h TR.factor with hE|⟨q',hq',a,c,e⟩
     . exact .inl hE
     . exact .inr ⟨q',by simp only[run];rw[if_pos h5,hq'],a,c,e⟩
   . rw[if_neg h5] at h
     simp only[bS] at h;obtain⟨q,hq,h⟩:=h;rcases sub h2 hq (TR.chain (lv+1)) with hE|⟨q',hq',a,c,e⟩
     . exact .inl (dZ ht _ _ _ _ h hE)
     . rcases sub (.inr ⟨a,c⟩) h (TR.more lv (aR src ts s) (aR src' ts' s') (q.1.headD 0) (q'.1.headD 0) (λe0=>pW (aK _ _ _ _ hq trivial) (e e0))) with hE|⟨r',hr',a2,c2,e2⟩
       . exact .inl hE
       . exact .inr ⟨r',by simp only[run];rw[if_neg h5,hq'];exact hr',a2,c2,e2⟩
  | more lv l l' x x' hx=>
   simp only[run] at h;have hn:=hl.next hm lv;by_cases hp:fC ts lv s=[]
   . rw[if_pos hp] at h
     simp only[Option.some.injEq] at h;subst h;exact (h2.ok (l:=[x]) (l':=[x']) (λe0=>by rw[hx e0];rfl)).rr (by simp only[run];rw[hn,if_pos hp])
   . rw[if_neg hp] at h
     simp only[bS] at h;obtain⟨q,hq,h⟩:=h;have h0:=(tQ hp).1;rcases sub (h2.go (ho.kD ht hp)) hq (TR.chain (lv+1)) with hE|⟨q',hq',a,c,e⟩
     . refine .inl ?_
       by_cases h2':lv=2
       . rw[if_pos h2'] at h
         simp only[Option.some.injEq] at h;subst h;exact hE.put ..
       . rw[if_neg h2'] at h
         exact dZ ht _ _ _ _ h (hE.put ..)
     . have hput:=S2.put hP (.inr ⟨a,c⟩) 9 0 l l' (fC ts lv s) (l:=[x,q.1.headD 0]) (l':=[x',q'.1.headD 0]) (λe0=>by rw[hx h0,pW (aK _ _ _ _ hq trivial) (e e0)];rfl)
       by_cases h2':lv=2
       . rw[if_pos h2'] at h
         simp only[Option.some.injEq] at h;subst h;exact hput.rr (by simp only[run];rw[hn,if_neg hp,hq'];simp only[Option.bind_some];rw[if_pos h2'])
       . rw[if_neg h2'] at h
         rcases hput with hE|⟨a3,c3,e3⟩
         . exact .inl (dZ ht _ _ _ _ h hE)
         . rcases sub (.inr ⟨a3,c3⟩) h (TR.more lv l l' _ _ (λe0=>pW rfl (e3 e0))) with hE|⟨r',hr',a2,c2,e2⟩
           . exact .inl hE
           . exact .inr ⟨r',by simp only[run];rw[hn,if_neg hp,hq'];simp only[Option.bind_some];rw[if_neg h2'];exact hr',a2,c2,e2⟩
  | args l l' hx=>
   simp only[run] at h;simp only[bS] at h;obtain⟨q,hq,h⟩:=h;rcases sub h2 hq (TR.chain 0) with hE|⟨q',hq',a,c,e⟩
   . refine .inl ?_
     by_cases i1:pIs ts [44] q.2=true
     . rw[if_pos i1] at h
       exact dZ ht _ _ _ _ h (hE.kE ht i1)
     . rw[if_neg i1] at h
       simp only[Option.some.injEq] at h;subst h;exact hE
   . have hll:q.2.e=0->l'++q'.1=(l++q.1).map (· + b):=λe0=>by rw[List.map_append,e e0,hx ((aI _ _ _ _ hq).e0 e0)]
     by_cases i1:pIs ts [44] q.2=true
     . rw[if_pos i1] at h
       rcases sub (S2.go (.inr ⟨a,c⟩) (a.kE ht i1)) h (TR.args (l++q.1) (l'++q'.1) (λe0=>hll e0)) with hE|⟨r',hr',a2,c2,e2⟩
       . exact .inl hE
       . exact .inr ⟨r',by simp only[run];rw[hq'];simp only[Option.bind_some];rw[c.is hm,if_pos i1];exact hr',a2,c2,e2⟩
     . rw[if_neg i1] at h
       simp only[Option.some.injEq] at h;subst h;exact (S2.ok (.inr ⟨a,c⟩) hll).rr (by simp only[run];rw[hq'];simp only[Option.bind_some];rw[c.is hm,if_neg i1])
  | call=>
   simp only[run,mS] at h;obtain⟨q,hq,rfl⟩:=h;have hs2:=S2.must hm (S2.named hm h2 ht) ht [40];rcases hs2 with hE|⟨a,c⟩
   . refine .inl (EO.put (EO.must ?_ ht _) ..)
     split at hq
     . exact dZ ht _ _ _ _ hq hE
     . simp only[Option.some.injEq] at hq
       subst hq;exact hE
   . by_cases hc:pIs ts [41] (aA ts [40] (aF ts s))=false∧(aA ts [40] (aF ts s)).e=0
     . rw[if_pos hc] at hq
       rcases sub (.inr ⟨a,c⟩) hq (TR.args [] [] (λ_=>rfl)) with hE|⟨q',hq',a2,c2,e2⟩
       . exact .inl ((hE.must ht _).put ..)
       . exact ((S2.must hm (.inr ⟨a2,c2⟩) ht [41]).put hP 21 0 _ (aR src' ts' s') _ (λe0=>e2 (((Ext.refl q.2).must (ts:=ts) [41]).e0 e0))).rr (by
           simp only[run];rw[c.is hm,c.e,if_pos hc,hq',hl.name hm];rfl)
     . rw[if_neg hc] at hq
       simp only[Option.some.injEq] at hq;subst hq;exact ((S2.must hm (.inr ⟨a,c⟩) ht [41]).put hP 21 0 _ (aR src' ts' s') _ (l:=[]) (l':=[]) (λe0=>rfl)).rr (by
           simp only[run];rw[c.is hm,c.e,if_neg hc,hl.name hm];rfl)
  | right=>
   rcases hl.aNl hm ho ht with hc|⟨hk3,hE⟩
   case inr=>exact .inl (aKn ht h hk3 hE)
   simp only[run] at h;by_cases i1:pIs ts [105,110,112,117,116] s=true
   . rw[if_pos i1] at h
     simp only[Option.some.injEq] at h;subst h;exact ((h2.go (ho.kE ht i1)).put hP 19 0 _ (aR src' ts' s') [] (l':=[]) (λ_=>rfl)).rr (by simp only[run];rw[hI,if_pos i1])
   . rw[if_neg i1] at h
     by_cases i2:pIs ts [110,101,119] s=true
     . rw[if_pos i2] at h
       simp only[mS] at h;obtain⟨q,hq,rfl⟩:=h;rcases sub (S2.must hm (h2.go (ho.kE ht i2)) ht [40]) hq (TR.chain 0) with hE|⟨q',hq',a,c,e⟩
       . exact .inl ((hE.must ht _).put ..)
       . exact ((S2.must hm (.inr ⟨a,c⟩) ht [41]).put hP 20 0 _ (aR src' ts' s') _ (λe0=>e (((Ext.refl q.2).must (ts:=ts) [41]).e0 e0))).rr (by simp only[run];rw[hI,if_neg i1,hI,if_pos i2,hq'];rfl)
     . rw[if_neg i2] at h
       by_cases i3:eP ts s=true
       . rw[if_pos i3] at h
         rcases sub h2 h TR.call with hE|⟨q',hq',a,c,e⟩
         . exact .inl hE
         . exact .inr ⟨q',by simp only[run];rw[hI,if_neg i1,hI,if_neg i2,hc,if_pos i3,hq'],a,c,e⟩
       . rw[if_neg i3] at h
         rcases sub h2 h (TR.chain 0) with hE|⟨q',hq',a,c,e⟩
         . exact .inl hE
         . exact .inr ⟨q',by simp only[run];rw[hI,if_neg i1,hI,if_neg i2,hc,if_neg i3,hq'],a,c,e⟩
  | block=>
   simp only[run] at h;by_cases i1:pIs ts [123] s=true
   . rw[if_pos i1] at h
     simp only[mS] at h;obtain⟨q,hq,rfl⟩:=h;rcases sub (S2.must hm (h2.eZ ht i1) ht [123]) hq (TR.stmts [] [] (λ_=>rfl)) with hE|⟨q',hq',a,c,e⟩
     . exact .inl ((hE.must ht _).up.put ..)
     . exact ((S2.must hm (.inr ⟨a,c⟩) ht [125]).up.put hP 18 0 _ (aR src' ts' s') _ (λe0=>e (((Ext.refl q.2).must (ts:=ts) [125]).up.e0 e0))).rr (by simp only[run];rw[hI,if_pos i1,hq'];rfl)
   . rw[if_neg i1] at h
     simp only[Option.some.injEq] at h;subst h;exact ((h2.fail ht 20 (by decide) (by decide)).err _ [0] (uE 20 (by decide) _)).rr (by simp only[run];rw[hI,if_neg i1])
  | stmts l l' hx=>
   simp only[run] at h;by_cases he:s.e≠0
   . rw[if_pos he] at h
     simp only[Option.some.injEq] at h;subst h;exact (h2.err _ l' he).rr (by simp only[run];rw[if_pos (by rw[hl.e];exact he)])
   . rw[if_neg he] at h
     have he':¬s'.e≠0:=by rw[hl.e];exact he
     by_cases i1:pIs ts [125] s=true
     . rw[if_pos i1] at h
       simp only[Option.some.injEq] at h;subst h;exact (h2.ok hx).rr (by simp only[run];rw[if_neg he',hI,if_pos i1])
     . rw[if_neg i1] at h
       simp only[bS] at h;obtain⟨q,hq,h⟩:=h;rcases sub h2 hq TR.stmt with hE|⟨q',hq',a,c,e⟩
       . exact .inl (dZ ht _ _ _ _ h hE)
       . rcases sub (.inr ⟨a,c⟩) h (TR.stmts (l++q.1) (l'++q'.1) (λe0=>by rw[List.map_append,e e0,hx ((aI _ _ _ _ hq).e0 e0)])) with hE|⟨r',hr',a2,c2,e2⟩
         . exact .inl hE
         . exact .inr ⟨r',by simp only[run];rw[if_neg he',hI,if_neg i1,hq'];exact hr',a2,c2,e2⟩
  | named l l'=>
   rcases hl.aNl hm ho ht with hc|⟨hk3,hE⟩
   case inr=>exact .inl (aLd ht h (by unfold aF;rw[if_pos hk3];exact hE))
   simp only[run] at h;by_cases i1:eP ts s=true
   . rw[if_pos i1] at h
     simp only[mS] at h;obtain⟨q,hq,rfl⟩:=h;rcases sub h2 hq TR.call with hE|⟨q',hq',a,c,e⟩
     . exact .inl ((hE.must ht _).put ..)
     . exact ((S2.must hm (.inr ⟨a,c⟩) ht [59]).put hP 13 0 l l' _ (λe0=>e (((Ext.refl q.2).must (ts:=ts) [59]).e0 e0))).rr (by simp only[run];rw[hc,if_pos i1,hq'];rfl)
   . rw[if_neg i1] at h
     rcases S2.named hm h2 ht with hE|⟨ho1,hl1⟩
     . refine .inl ?_
       by_cases i2:pIs ts [91] (aF ts s)=true
       . rw[if_pos i2] at h
         simp only[bS,mS] at h;obtain⟨q,hq,u,hu,rfl⟩:=h;exact ((dZ ht _ _ _ _ hu (((dZ ht _ _ _ _ hq ((hE.eZ ht i2).must ht _)).must ht _).up.must ht _)).must ht _).put ..
       . rw[if_neg i2] at h
         simp only[mS] at h;obtain⟨q,hq,rfl⟩:=h;exact ((dZ ht _ _ _ _ hq (hE.must ht _)).must ht _).put ..
     . by_cases i2:pIs ts [91] (aF ts s)=true
       . rw[if_pos i2] at h
         simp only[bS,mS] at h;obtain⟨q,hq,u,hu,rfl⟩:=h;rcases sub (S2.must hm (S2.eZ (.inr ⟨ho1,hl1⟩) ht i2) ht [91]) hq (TR.chain 0) with hE|⟨q',hq',a,c,e⟩
         . exact .inl (((dZ ht _ _ _ _ hu ((hE.must ht _).up.must ht _)).must ht _).put ..)
         . rcases sub (S2.must hm (S2.up (S2.must hm (.inr ⟨a,c⟩) ht [93])) ht [61]) hu (TR.chain 0) with hE|⟨u',hu',a2,c2,e2⟩
           . exact .inl ((hE.must ht _).put ..)
           . exact ((S2.must hm (.inr ⟨a2,c2⟩) ht [59]).put hP 12 0 l l' _ (l:=q.1++u.1) (l':=q'.1++u'.1) (λe0=>by
               have h5:=((Ext.refl u.2).must (ts:=ts) [59]).e0 e0;have h6:=((Ext.refl _).must (ts:=ts) [61]).e0 ((aI _ _ _ _ hu).e0 h5);rw[List.map_append,e2 h5,e (((Ext.refl q.2).must (ts:=ts) [93]).up.e0 h6)])).rr (by
                 simp only[run];rw[hc,if_neg i1,hl1.is hm,if_pos i2,hq'];simp only[Option.bind_some];rw[hu',hl.name hm];rfl)
       . rw[if_neg i2] at h
         simp only[mS] at h;obtain⟨q,hq,rfl⟩:=h;rcases sub (S2.must hm (.inr ⟨ho1,hl1⟩) ht [61]) hq TR.right with hE|⟨q',hq',a,c,e⟩
         . exact .inl ((hE.must ht _).put ..)
         . exact ((S2.must hm (.inr ⟨a,c⟩) ht [59]).put hP 11 0 l l' _ (λe0=>e (((Ext.refl q.2).must (ts:=ts) [59]).e0 e0))).rr (by
             simp only[run];rw[hc,if_neg i1,hl1.is hm,if_neg i2,hq',hl.name hm];rfl)
  | stmt=>
   simp only[run] at h;have hw:=hl.word hm;by_cases j0:bQ ts s=[108,101,116]
   . rw[if_pos j0] at h
     simp only[mS] at h;obtain⟨q,hq,rfl⟩:=h;rcases h2.go (ho.dS ht j0 (by decide)) with hE|⟨ho1,hl1⟩
     . exact .inl (((dZ ht _ _ _ _ hq ((hE.named ht).must ht _)).must ht _).put ..)
     . rcases sub (S2.must hm (S2.named hm (.inr ⟨ho1,hl1⟩) ht) ht [61]) hq TR.right with hE|⟨q',hq',a,c,e⟩
       . exact .inl ((hE.must ht _).put ..)
       . exact ((S2.must hm (.inr ⟨a,c⟩) ht [59]).put hP 10 0 _ (aR src' ts' s') _ (λe0=>e (((Ext.refl q.2).must (ts:=ts) [59]).e0 e0))).rr (by
           simp only[run];rw[hw,if_pos j0,hq',hl1.name hm];rfl)
   . rw[if_neg j0] at h
     by_cases j1:bQ ts s=[112,114,105,110,116]
     . rw[if_pos j1] at h
       simp only[mS] at h;obtain⟨q,hq,rfl⟩:=h;rcases sub (h2.go (ho.dS ht j1 (by decide))) hq (TR.chain 0) with hE|⟨q',hq',a,c,e⟩
       . exact .inl ((hE.must ht _).put ..)
       . exact ((S2.must hm (.inr ⟨a,c⟩) ht [59]).put hP 14 0 _ (aR src' ts' s') _ (λe0=>e (((Ext.refl q.2).must (ts:=ts) [59]).e0 e0))).rr (by
           simp only[run];rw[hw,if_neg j0,if_pos j1,hq'];rfl)
     . rw[if_neg j1] at h
       by_cases j2:bQ ts s=[119,104,105,108,101]
       . rw[if_pos j2] at h
         simp only[bS,mS] at h;obtain⟨q,hq,u,hu,rfl⟩:=h;rcases sub (h2.go (ho.dS ht j2 (by decide))) hq (TR.chain 0) with hE|⟨q',hq',a,c,e⟩
         . exact .inl ((dZ ht _ _ _ _ hu hE).put ..)
         . rcases sub (.inr ⟨a,c⟩) hu TR.block with hE|⟨u',hu',a2,c2,e2⟩
           . exact .inl (hE.put ..)
           . exact (S2.put hP (.inr ⟨a2,c2⟩) 16 0 _ (aR src' ts' s') _ (l:=q.1++u.1) (l':=q'.1++u'.1) (λe0=>by
               rw[List.map_append,e2 e0,e ((aI _ _ _ _ hu).e0 e0)])).rr (by
                 simp only[run];rw[hw,if_neg j0,if_neg j1,if_pos j2,hq'];simp only[Option.bind_some];rw[hu'];rfl)
       . rw[if_neg j2] at h
         by_cases j3:bQ ts s=[105,102]
         . rw[if_pos j3] at h
           simp only[bS] at h;obtain⟨q,hq,u,hu,h⟩:=h;rcases sub (h2.go (ho.dS ht j3 (by decide))) hq (TR.chain 0) with hE|⟨q',hq',a,c,e⟩
           . refine .inl ?_
             have hE2:=dZ ht _ _ _ _ hu hE;split at h
             . rename_i ie
               simp only[mS] at h;obtain⟨v,hv,rfl⟩:=h;exact (dZ ht _ _ _ _ hv (hE2.kE ht ie)).put ..
             . simp only[Option.some.injEq] at h
               subst h;exact hE2.put ..
           . rcases sub (.inr ⟨a,c⟩) hu TR.block with hE|⟨u',hu',a2,c2,e2⟩
             . refine .inl ?_
               split at h
               . rename_i ie
                 simp only[mS] at h;obtain⟨v,hv,rfl⟩:=h;exact (dZ ht _ _ _ _ hv (hE.kE ht ie)).put ..
               . simp only[Option.some.injEq] at h
                 subst h;exact hE.put ..
             . by_cases ie:pIs ts [101,108,115,101] u.2=true
               . rw[if_pos ie] at h
                 simp only[mS] at h;obtain⟨v,hv,rfl⟩:=h;rcases sub (S2.go (.inr ⟨a2,c2⟩) (a2.kE ht ie)) hv TR.block with hE|⟨v',hv',a3,c3,e3⟩
                 . exact .inl (hE.put ..)
                 . exact (S2.put hP (.inr ⟨a3,c3⟩) 15 0 _ (aR src' ts' s') _ (l:=q.1++u.1++v.1) (l':=q'.1++u'.1++v'.1) (λe0=>by
                     have h5:=(aL ie).1;rw[List.map_append,List.map_append,e3 e0,e2 h5,e ((aI _ _ _ _ hu).e0 h5)])).rr (by
                       simp only[run];rw[hw,if_neg j0,if_neg j1,if_neg j2,if_pos j3,hq'];simp only[Option.bind_some];rw[hu'];simp only[Option.bind_some];rw[c2.is hm,if_pos ie,hv'];rfl)
               . rw[if_neg ie] at h
                 simp only[Option.some.injEq] at h;subst h;exact (S2.put hP (.inr ⟨a2,c2⟩) 15 0 _ (aR src' ts' s') _ (l:=q.1++u.1) (l':=q'.1++u'.1) (λe0=>by
                     rw[List.map_append,e2 e0,e ((aI _ _ _ _ hu).e0 e0)])).rr (by
                       simp only[run];rw[hw,if_neg j0,if_neg j1,if_neg j2,if_pos j3,hq'];simp only[Option.bind_some];rw[hu'];simp only[Option.bind_some];rw[c2.is hm,if_neg ie])
         . rw[if_neg j3] at h
           by_cases j4:bQ ts s=[114,101,116,117,114,110]
           . rw[if_pos j4] at h
             rcases h2.go (ho.dS ht j4 (by decide)) with hE|⟨ho1,hl1⟩
             . refine .inl ?_
               split at h
               . simp only[Option.some.injEq] at h
                 subst h;exact (hE.must ht _).put ..
               . simp only[mS] at h
                 obtain⟨q,hq,rfl⟩:=h;exact ((dZ ht _ _ _ _ hq hE).must ht _).put ..
             . by_cases ie:pIs ts [59] (pGo s)=true
               . rw[if_pos ie] at h
                 simp only[Option.some.injEq] at h;subst h;exact ((S2.must hm (.inr ⟨ho1,hl1⟩) ht [59]).put hP 17 0 _ (aR src' ts' s') [] (l':=[]) (λ_=>rfl)).rr (by
                   simp only[run];rw[hw,if_neg j0,if_neg j1,if_neg j2,if_neg j3,if_pos j4,hl1.is hm,if_pos ie])
               . rw[if_neg ie] at h
                 simp only[mS] at h;obtain⟨q,hq,rfl⟩:=h;rcases sub (.inr ⟨ho1,hl1⟩) hq (TR.chain 0) with hE|⟨q',hq',a,c,e⟩
                 . exact .inl ((hE.must ht _).put ..)
                 . exact ((S2.must hm (.inr ⟨a,c⟩) ht [59]).put hP 17 0 _ (aR src' ts' s') _ (λe0=>e (((Ext.refl q.2).must (ts:=ts) [59]).e0 e0))).rr (by
                     simp only[run];rw[hw,if_neg j0,if_neg j1,if_neg j2,if_neg j3,if_pos j4,hl1.is hm,if_neg ie,hq'];rfl)
           . rw[if_neg j4] at h
             rcases sub h2 h (TR.named (aR src ts s) (aR src' ts' s')) with hE|⟨q',hq',a,c,e⟩
             . exact .inl hE
             . exact .inr ⟨q',by simp only[run];rw[hw,if_neg j0,if_neg j1,if_neg j2,if_neg j3,if_neg j4,hq'],a,c,e⟩
end
def LeO {α:Type} (a b:Option α):Prop:=∀r,a=some r->b=some r
theorem LeO.refl {α:Type} (a:Option α):LeO a a:=λ_ h=>h
theorem LeO.map {α β:Type}{a b:Option α} (h:LeO a b) (f:α->β):LeO (a.map f) (b.map f):=λr hr=>by
 rw[mS] at hr ⊢;obtain⟨q,hq,e⟩:=hr;exact⟨q,h q hq,e⟩
theorem LeO.bind {α β:Type}{a b:Option α}{f g:α->Option β} (h:LeO a b) (hf:∀q,LeO (f q) (g q)):LeO (a.bind f) (b.bind g):=λr hr=>by
 rw[bS] at hr ⊢;obtain⟨q,hq,e⟩:=hr;exact⟨q,h q hq,hf q r e⟩
theorem LeO.ite {α:Type}{c:Prop} [Decidable c] {a b a' b':Option α} (h:LeO a a') (g:LeO b b'):LeO (if c then a else b) (if c then a' else b'):=by
 split
 . exact h
 . exact g
section
variable {src:List UInt8}{ts:List Tok}
theorem aPu (ih:∀k s,LeO (run src ts n k s) (run src ts m k s)) (k:Task) (s:PS):LeO (run src ts (n+1) k s) (run src ts (m+1) k s):=by
 cases k<;>simp only[run]<;>
  (repeat (first
    | exact ih _ _
    | exact LeO.refl _
    | apply LeO.ite
    | apply LeO.map
    | (apply LeO.bind)
    | intro _))
theorem aAj:∀(n:Nat) (k:Task) (s:PS),LeO (run src ts n k s) (run src ts (n+1) k s)
 | 0,_,_=>λr h=>by simp[run] at h
 | n+1,k,s=>aPu (aAj n) k s
theorem aKk (h:n≤m) (k:Task) (s:PS):LeO (run src ts n k s) (run src ts m k s):=by
 induction h with
 | refl=>exact LeO.refl _
 | step _ ih=>exact λr hr=>aAj _ _ _ r (ih r hr)
end
section
variable {src:List UInt8}{ts:List Tok}{s t:PS}
theorem wQ:∀{n m:Nat},n≤m->∀(acc:List (List UInt8×Nat)) (s:PS),LeO (aJ ts n acc s) (aJ ts m acc s)
 | 0,_,_,_,_=>λr h=>by simp[aJ] at h
 | n+1,0,h,_,_=>by omega
 | n+1,m+1,h,acc,s=>by
  simp only[aJ];exact LeO.ite (wQ (by omega) _ _) (LeO.refl _)
theorem aHv (h:n≤m) (s:PS):LeO (bO src ts n s) (bO src ts m s):=by
 simp only[bO];exact LeO.bind (LeO.ite (wQ h _ _) (LeO.refl _)) (λp=>LeO.map (aKk h _ _) _)
theorem aBa:∀{n m:Nat},n≤m->∀(acc:List aD) (s:PS),LeO (bA src ts n acc s) (bA src ts m acc s)
 | 0,_,_,_,_=>λr h=>by simp[bA] at h
 | n+1,0,h,_,_=>by omega
 | n+1,m+1,h,acc,s=>by
  simp only[bA];exact LeO.ite (LeO.refl _) (LeO.ite (LeO.refl _) (LeO.bind (aHv (by omega) _) (λr=>aBa (by omega) _ _)))
variable (src ts) in
def aSd (s:PS) (r:aD×PS):Prop:=∃n,bO src ts n s=some r
variable (src ts) in
def aJh (acc:List aD) (s:PS) (r:List aD×PS):Prop:=∃n,bA src ts n acc s=some r
theorem aPz {acc:List aD}{f:aD×PS}{z:List aD×PS} (he:s.e=0) (h:bB ts 0 s=false) (h1:aSd src ts s f) (h2:aJh src ts (acc++[f.1]) f.2 z):aJh src ts acc s z:=by
 obtain⟨n,a⟩:=h1;obtain⟨m,c⟩:=h2;have a:=aHv (Nat.le_max_left n m) _ _ a;have c:=aBa (Nat.le_max_right n m) _ _ _ c;exact⟨max n m+1,by simp only[bA];rw[if_neg (by simp[he]),if_neg (by rw[h];decide),a];exact c⟩
def s00:PS:=⟨0,[],0,0,0⟩
theorem aKx {l:List UInt8} (hl:nP l = .good ts){z:List aD×PS} (h:aJh l ts [] s00 z):
  parseM l=some (if z.2.e≠0 then .bad z.2.place z.2.e else if 300<z.2.nodes.length∨6<z.1.length∨z.1.any (λf=>decide (3<f.params.length))=true then .bad 0 4 else .good z.2.nodes z.1):=by
 obtain⟨r,hr⟩:=tJ l;have h2:=hr;unfold parseM at h2;rw[hl] at h2;simp only[mF,mS] at h2;obtain⟨z',hz,e⟩:=h2;obtain⟨n,hn⟩:=h;have a:=aBa (Nat.le_max_left n (eY ts)) _ _ _ hn;have c:=aBa (Nat.le_max_right n (eY ts)) _ _ _ hz;have e2:z=z':=by
  have c:bA l ts (max n (eY ts)) [] s00=some z':=c;rw[a] at c;exact Option.some.inj c
 rw[hr,e2,<-e]
end
structure FR (b:Nat) (f f':aD):Prop where
 name:f'.name=f.name
 params:f'.params=f.params
 ret:f'.ret=f.ret
 body:f'.body=f.body+b
section
variable {src src':List UInt8}{ts ts':List Tok}{d m b:Nat}{P:List aH}
theorem jZ (ht:aO ts):∀(n:Nat) (acc:List (List UInt8×Nat)) (s:PS) (p:List (List UInt8×Nat)×PS),aJ ts n acc s=some p->EO ts m s->EO ts m p.2
 | 0,_,_,_,h,_=>by simp[aJ] at h
 | n+1,acc,s,p,h,hE=>by
  simp only[aJ] at h;have h2:=(hE.named ht).typed ht;by_cases i1:pIs ts [44] (bC ts (aF ts s))=true
  . rw[if_pos i1] at h
    exact jZ ht n _ _ _ h (h2.kE ht i1)
  . rw[if_neg i1] at h
    simp only[Option.some.injEq] at h;subst h;exact h2
theorem tL (hm:Mt ts ts' d m) (ht:aO ts):∀(n:Nat) (acc:List (List UInt8×Nat)) (s s':PS) (p:List (List UInt8×Nat)×PS),aJ ts n acc s=some p->S2 ts ts' d m b P s s' ->
  EO ts m p.2∨∃p',aJ ts' n acc s'=some p'∧bT ts p.2∧Rl ts ts' d m b P p.2 p'.2∧p'.1=p.1
 | 0,_,_,_,_,h,_=>by simp[aJ] at h
 | n+1,acc,s,s',p,h,hs=>by
  have h':=h;simp only[aJ] at h;rcases hs with hE|⟨ho,hl⟩
  . exact .inl (jZ ht _ _ _ _ h' hE)
  . rcases S2.named hm (.inr ⟨ho,hl⟩) ht with hE|⟨ho1,hl1⟩
    . refine .inl ?_
      have h2:=hE.typed ht;by_cases i1:pIs ts [44] (bC ts (aF ts s))=true
      . rw[if_pos i1] at h
        exact jZ ht _ _ _ _ h (h2.kE ht i1)
      . rw[if_neg i1] at h
        simp only[Option.some.injEq] at h;subst h;exact h2
    . have hacc:acc++[(dH ts' s',eF ts' (aF ts' s'))]=acc++[(dH ts s,eF ts (aF ts s))]:=by rw[hl.name hm,hl1.type hm]
      have h2:=S2.typed hm (.inr ⟨ho1,hl1⟩) ht;by_cases i1:pIs ts [44] (bC ts (aF ts s))=true
      . rw[if_pos i1] at h
        rcases h2 with hE|⟨ho2,hl2⟩
        . exact .inl (jZ ht _ _ _ _ h (hE.kE ht i1))
        . rcases tL hm ht n _ _ _ _ h (hl2.go (ho2.kE ht i1)) with hE|⟨p',a,c,e,f⟩
          . exact .inl hE
          . exact .inr ⟨p',by simp only[aJ];rw[hl2.is hm,if_pos i1,hacc,a],c,e,f⟩
      . rw[if_neg i1] at h
        simp only[Option.some.injEq] at h;subst h;rcases h2 with hE|⟨ho2,hl2⟩
        . exact .inl hE
        . exact .inr ⟨(acc++[(dH ts s,eF ts (aF ts s))],bC ts' (aF ts' s')),by simp only[aJ];rw[hl2.is hm,if_neg i1,hacc],ho2,hl2,rfl⟩
theorem wV (hm:Mt ts ts' d m) (ht:aO ts){p:List (List UInt8×Nat)×PS} (hs:S2 ts ts' d m b P s s')
   (hp:(if pIs ts [41] (aA ts [40] (aF ts (aA ts [102,110] s)))=false∧(aA ts [40] (aF ts (aA ts [102,110] s))).e=0 then aJ ts n [] (aA ts [40] (aF ts (aA ts [102,110] s))) else some ([],aA ts [40] (aF ts (aA ts [102,110] s))))=some p):
   EO ts m (aA ts [41] p.2)∨∃p',(if pIs ts' [41] (aA ts' [40] (aF ts' (aA ts' [102,110] s')))=false∧(aA ts' [40] (aF ts' (aA ts' [102,110] s'))).e=0 then aJ ts' n [] (aA ts' [40] (aF ts' (aA ts' [102,110] s'))) else some ([],aA ts' [40] (aF ts' (aA ts' [102,110] s'))))=some p' ∧
     dH ts' (aA ts' [102,110] s')=dH ts (aA ts [102,110] s)∧p'.1=p.1∧bT ts (aA ts [41] p.2)∧Rl ts ts' d m b P (aA ts [41] p.2) (aA ts' [41] p'.2):=by
 have peo:EO ts m (aA ts [40] (aF ts (aA ts [102,110] s)))->EO ts m (aA ts [41] p.2):=λhE=>by
   refine EO.must ?_ ht _;split at hp
   . exact jZ ht _ _ _ _ hp hE
   . simp only[Option.some.injEq] at hp
     subst hp;exact hE
 rcases S2.must hm hs ht [102,110] with hE|⟨ho1,hl1⟩
 . exact .inl (peo ((hE.named ht).must ht _))
 . rcases S2.must hm (S2.named hm (.inr ⟨ho1,hl1⟩) ht) ht [40] with hE|⟨ho3,hl3⟩
   . exact .inl (peo hE)
   . have hfin:∀p',p'.1=p.1->S2 ts ts' d m b P p.2 p'.2->(if pIs ts' [41] (aA ts' [40] (aF ts' (aA ts' [102,110] s')))=false∧(aA ts' [40] (aF ts' (aA ts' [102,110] s'))).e=0 then aJ ts' n [] (aA ts' [40] (aF ts' (aA ts' [102,110] s'))) else some ([],aA ts' [40] (aF ts' (aA ts' [102,110] s'))))=some p' ->
         EO ts m (aA ts [41] p.2)∨∃p',(if pIs ts' [41] (aA ts' [40] (aF ts' (aA ts' [102,110] s')))=false∧(aA ts' [40] (aF ts' (aA ts' [102,110] s'))).e=0 then aJ ts' n [] (aA ts' [40] (aF ts' (aA ts' [102,110] s'))) else some ([],aA ts' [40] (aF ts' (aA ts' [102,110] s'))))=some p' ∧
          dH ts' (aA ts' [102,110] s')=dH ts (aA ts [102,110] s)∧p'.1=p.1∧bT ts (aA ts [41] p.2)∧Rl ts ts' d m b P (aA ts [41] p.2) (aA ts' [41] p'.2):=λp' h1 h2 h3=>by
       rcases S2.must hm h2 ht [41] with hE|⟨a,c⟩
       . exact .inl hE
       . exact .inr ⟨p',h3,hl1.name hm,h1,a,c⟩
     by_cases hc:pIs ts [41] (aA ts [40] (aF ts (aA ts [102,110] s)))=false∧(aA ts [40] (aF ts (aA ts [102,110] s))).e=0
     . rw[if_pos hc] at hp
       rcases tL hm ht n [] _ _ p hp (.inr ⟨ho3,hl3⟩) with hE|⟨p',a,c,e,f⟩
       . exact .inl (hE.must ht _)
       . exact hfin p' f (.inr ⟨c,e⟩) (by rw[hl3.is hm,hl3.e,if_pos hc,a])
     . rw[if_neg hc] at hp
       simp only[Option.some.injEq] at hp;subst hp;exact hfin ([],aA ts' [40] (aF ts' (aA ts' [102,110] s'))) rfl (.inr ⟨ho3,hl3⟩) (by rw[hl3.is hm,hl3.e,if_neg hc])
theorem aAg (hm:Mt ts ts' d m) (ht:aO ts) (ho:bT ts s) (hl:Rl ts ts' d m b P s s'):
   (if pIs ts' [123] s'=true then 0 else eF ts' s')=(if pIs ts [123] s=true then 0 else eF ts s)∧S2 ts ts' d m b P (if pIs ts [123] s=true then s else bC ts s) (if pIs ts' [123] s'=true then s' else bC ts' s'):=by
 rw[hl.is hm,hl.type hm];refine⟨rfl,?_⟩;by_cases hp:pIs ts [123] s=true
 . rw[if_pos hp,if_pos hp];exact .inr ⟨ho,hl⟩
 . rw[if_neg hp,if_neg hp];exact S2.typed hm (.inr ⟨ho,hl⟩) ht
theorem xV (ht:aO ts) (hE:EO ts m s):EO ts m (if pIs ts [123] s=true then s else bC ts s):=by
 split
 . exact hE
 . exact hE.typed ht
theorem aHw (ht:aO ts){fr:aD×PS} (h:bO src ts n s=some fr) (hE:EO ts m s):EO ts m fr.2:=by
 simp only[bO,bS,mS] at h;obtain⟨p,hp,q,hq,rfl⟩:=h;refine dZ ht _ _ _ _ hq (xV ht (EO.must ?_ ht _));have h3:=((hE.must ht [102,110]).named ht).must ht [40];split at hp
 . exact jZ ht _ _ _ _ hp h3
 . simp only[Option.some.injEq] at hp
   subst hp;exact h3
theorem aLu (hm:Mt ts ts' d m) (hP:P.length=b) (ht:aO ts){fr:aD×PS} (h:bO src ts n s=some fr) (hs:S2 ts ts' d m b P s s'):
   EO ts m fr.2∨∃fr',bO src' ts' n s'=some fr'∧bT ts fr.2∧Rl ts ts' d m b P fr.2 fr'.2∧(fr.2.e=0->FR b fr.1 fr'.1):=by
 rcases hs with hE|⟨ho,hl⟩
 . exact .inl (aHw ht h hE)
 simp only[bO,bS,mS] at h;obtain⟨p,hp,q,hq,rfl⟩:=h;rcases wV hm ht (.inr ⟨ho,hl⟩) hp with hE|⟨p',hp',hn,h1,ho4,hl4⟩
 . exact .inl (dZ ht _ _ _ _ hq (xV ht hE))
 . obtain⟨hty,hs5⟩:=aAg hm ht ho4 hl4
   rcases hs5 with hE|⟨ho5,hl5⟩
   . exact .inl (dZ ht _ _ _ _ hq hE)
   . rcases aFq (src':=src') hm hP ht n _ _ _ hq .block _ TR.block ho5 hl5 with hE|⟨q',hq',a,c,e⟩
     . exact .inl hE
     . refine .inr ⟨(⟨dH ts' (aA ts' [102,110] s'),aR src' ts' s',p'.1,(if pIs ts' [123] (aA ts' [41] p'.2)=true then 0 else eF ts' (aA ts' [41] p'.2)),q'.1.headD 0⟩,q'.2),?_,a,c,λe0=>⟨hn,h1,hty,pW (aK _ _ _ _ hq trivial) (e e0)⟩⟩
       simp only[bO];rw[hp'];simp only[Option.bind_some];rw[hq'];rfl
theorem aQf (ht:aO ts):∀(n:Nat) (acc:List aD) (s:PS) (r:List aD×PS),bA src ts n acc s=some r->EO ts m s->EO ts m r.2:=by
 intro n;induction n with
 | zero=>intro acc s r h;simp[bA] at h
 | succ n ih=>
  intro acc s r h hE;simp only[bA] at h;split at h
  . simp only[Option.some.injEq] at h;subst h;exact hE
  . split at h
    . simp only[Option.some.injEq] at h;subst h;exact hE
    . simp only[bS] at h
      obtain⟨f,hf,h⟩:=h;exact ih _ _ _ h (aHw ht hf hE)
theorem aIb (hm:Mt ts ts' d ts.length) (hP:P.length=b) (ht:aO ts):∀(n:Nat) (acc acc':List aD) (s s':PS) (r:List aD×PS),bA src ts n acc s=some r->r.2.e=0->bT ts s->Rl ts ts' d ts.length b P s s' ->
  ∃fs gs s2,r.1=acc++fs∧bA src' ts' n acc' s'=some (acc'++gs,s2)∧Rl ts ts' d ts.length b P r.2 s2∧fs.length=gs.length∧∀(i:Nat) (f g:aD),fs[i]?=some f->gs[i]?=some g->FR b f g
 | 0,_,_,_,_,_,h,_,_,_=>by simp[bA] at h
 | n+1,acc,acc',s,s',r,h,hr,ho,hl=>by
  simp only[bA] at h;by_cases he:s.e≠0
  . rw[if_pos he] at h
    simp only[Option.some.injEq] at h;subst h;exact absurd hr he
  . rw[if_neg he] at h
    by_cases hk:bB ts 0 s=true
    . rw[if_pos hk] at h
      simp only[Option.some.injEq] at h;subst h;exact⟨[],[],s',by simp,by simp only[bA];rw[if_neg (by rw[hl.e];exact he),hl.kind hm,if_pos hk];simp,hl,rfl,λi f g h=>by simp at h⟩
    . rw[if_neg hk] at h
      simp only[bS] at h;obtain⟨f,hf,h⟩:=h;have hno:∀{t:PS},EO ts ts.length t->t.e=0->False:=λhE h0=>by
        rcases hE.esc with ⟨_,hi⟩|⟨h1,_⟩
        . have:=hE.ok.room;omega
        . exact h1 h0
      rcases aLu (src':=src') hm hP ht hf (.inr ⟨ho,hl⟩) with hE|⟨f',hf',a,c,hfr⟩
      . exact (hno (aQf ht _ _ _ _ h hE) hr).elim
      . obtain⟨fs,gs,s2,e1,e2,e3,e4,e5⟩:=aIb hm hP ht n _ (acc'++[f'.1]) _ f'.2 _ h hr a c
        have hf0:f.2.e=0:=(kQ _ _ _ _ h).e0 hr;refine⟨f.1 :: fs,f'.1 :: gs,s2,by rw[e1];simp,?_,e3,by simp[e4],λi x y hx hy=>?_⟩
        . simp only[bA]
          rw[if_neg (by rw[hl.e];exact he),hl.kind hm,if_neg hk,hf'];simp only[Option.bind_some];rw[e2];simp
        . cases i with
          | zero=>simp at hx hy;subst hx;subst hy;exact hfr hf0
          | succ i=>exact e5 i x y (by simpa using hx) (by simpa using hy)
end
def Tok.from (t:Tok):Nat:=if t.kind=2 then t.place+1 else t.place
def aRm (r:List UInt8):Prop:=r=[]∨∃r',r=10 :: r'
theorem qH (q:Int->Bool) (x r:List UInt8) (h:runN q x<x.length):runN q (x++r)=runN q x:=by
 induction x with
 | nil=>simp at h
 | cons a x ih=>
  unfold runN at ih h ⊢;rw[List.cons_append,List.takeWhile_cons];rw[List.takeWhile_cons] at h ⊢;by_cases ha:q a.toNat=true
  . rw[if_pos ha] at h ⊢
    rw[if_pos ha,List.length_cons,List.length_cons];rw[List.length_cons,List.length_cons] at h;rw[ih (by omega)]
  . rw[if_neg ha,if_neg ha]
theorem aCf (q:Int->Bool) (x:List UInt8) (h:¬runN q x<x.length):∀b∈x,q b.toNat=true:=by
 induction x with
 | nil=>intro b hb;cases hb
 | cons a x ih=>
  unfold runN at ih h;rw[List.takeWhile_cons] at h;by_cases ha:q a.toNat=true
  . rw[if_pos ha,List.length_cons,List.length_cons] at h
    intro b hb;rcases List.mem_cons.1 hb with rfl|hb
    . exact ha
    . exact ih (by omega) b hb
  . rw[if_neg ha] at h;simp at h
theorem uP (q:Int->Bool) (x r:List UInt8) (hq:q ((10:UInt8).toNat:Int)=false) (hr:aRm r):runN q (x++r)=runN q x:=by
 by_cases h:runN q x<x.length
 . exact qH q x r h
 . have ha:=aCf q x h
   rw[yG q x r ha,aNy q x ha];rcases hr with rfl|⟨r',rfl⟩
   . rfl
   . rw[aFu q 10 r' hq];rfl
theorem fZ (x r:List UInt8) (h:k<x.length):aT (x++r) k=aT x k:=by
 unfold aT;rw[List.getD,List.getD,List.getElem?_append_left h]
theorem xW (c:UInt8):aMw [c,10]=false:=by
 unfold aMw isIn;apply decide_eq_false
 intro h;simp[jW] at h
theorem aDq {r:List UInt8}{o:Nat} (h0:0<x.length) (h:firstM x = .ok k o m n) (hr:aRm r):firstM (x++r) = .ok k o m n:=by
 unfold firstM at h ⊢;rw[fZ x r h0];split at h
 . rename_i hd
   rw[if_pos hd];unfold iW at h ⊢;rw[uP bE x r (by decide) hr,List.take_append_of_le_length (iK bE x)];exact h
 . rename_i hd
   rw[if_neg hd];split at h
   . rename_i hl
     rw[if_pos hl];unfold pG at h ⊢;rw[uP aY x r (by decide) hr,List.take_append_of_le_length (iK aY x)];exact h
   . rename_i hl
     rw[if_neg hl];split at h
     . rename_i ht
       rw[if_pos ht];unfold lX at h ⊢;rw[List.drop_append_of_le_length (by omega)];by_cases hc:x.length≤runN dD (x.drop 1)+1∨aT x (runN dD (x.drop 1)+1)≠34
       . rw[if_pos hc] at h;cases h
       . rw[if_neg hc] at h
         have h1:¬x.length≤runN dD (x.drop 1)+1:=λe=>hc (.inl e)
         have h2:¬aT x (runN dD (x.drop 1)+1)≠34:=λe=>hc (.inr e)
         rw[qH dD (x.drop 1) r (by rw[List.length_drop];omega),fZ x r (by omega),if_neg]
         . exact h
         . rintro (e|e)
           . rw[List.length_append] at e;omega
           . exact h2 e
     . rename_i ht
       rw[if_neg ht];unfold jX at h ⊢;rw[fZ x r h0];by_cases h2:1<x.length∧aMw (x.take 2)=true
       . rw[if_pos h2] at h
         rw[List.take_append_of_le_length (by omega),List.length_append,if_pos ⟨by omega,h2.2⟩];exact h
       . rw[if_neg h2] at h
         by_cases h1:aLa (aT x 0)=true
         . rw[if_pos h1] at h ⊢
           rw[if_neg]
           . exact h
           . rintro⟨e1,e2⟩
             by_cases hx2:1<x.length
             . rw[List.take_append_of_le_length (by omega)] at e2
               exact h2 ⟨hx2,e2⟩
             have hx1:x.length=1:=by omega
             rcases hr with rfl|⟨r',rfl⟩
             . rw[List.append_nil] at e1;omega
             . match x,hx1 with
               | [c],_=>
                rw[show ([c]++10 :: r').take 2=[c,10] from rfl,xW] at e2;cases e2
         . rw[if_neg h1] at h;cases h
theorem sU (l:List UInt8):cO l=true↔[47,47] <+: l:=by
 unfold cO Lib.hasPrefix;exact List.isPrefixOf_iff_prefix
theorem aCj {r:List UInt8} (h0:0<x.length) (h:cO x=false) (hr:aRm r):cO (x++r)=false:=by
 rcases hr with rfl|⟨r',rfl⟩
 . rwa [List.append_nil]
 . unfold cO Lib.hasPrefix at h ⊢
   match x,h0 with
   | [a],_=>simp[List.isPrefixOf]
   | a :: b :: y,_=>simpa[List.isPrefixOf] using h
theorem aBh (r:List UInt8):fG (aT (10 :: r) 0)=true:=by rw[zY];decide
theorem aLh (b:List UInt8):∀(n:Nat) (l:List UInt8) (p:Nat) (K:List Tok),l.length≤n->lexFrom l p = .good K->K≠[]∧lexFrom (l++10 :: b) p=(lexFrom b (p+l.length+1)).pre K.dropLast:=by
 intro n;induction n with
 | zero=>
  intro l p K h hl;have:l=[]:=List.eq_nil_of_length_eq_zero (by omega);subst this;rw[lex_nil] at hl;injection hl with hl;subst hl;refine⟨by simp,?_⟩;rw[List.nil_append,fP (by simp) (aBh b),show List.dropLast [(⟨0,[],p⟩:Tok)]=[] from rfl,pre_nil];rfl
 | succ n ih=>
  intro l p K h;refine lQ (Mo:=λl p=>l.length≤n+1->lexFrom l p = .good K->K≠[]∧lexFrom (l++10 :: b) p=(lexFrom b (p+l.length+1)).pre K.dropLast) l p ?_ ?_ ?_ ?_ ?_ h
  . intro _ _ hl
    rw[lex_nil] at hl;injection hl with hl;subst hl;refine⟨by simp,?_⟩;rw[List.nil_append,fP (by simp) (aBh b),show List.dropLast [(⟨0,[],_⟩:Tok)]=[] from rfl,pre_nil];rfl
  . intro h0 hb h hl
    rw[fP h0 hb] at hl;obtain⟨a1,a2⟩:=ih _ _ K (by rw[List.length_drop];omega) hl;refine⟨a1,?_⟩;rw[fP (by rw[List.length_append];omega) (by rw[fZ _ _ h0];exact hb),List.drop_append_of_le_length (by omega),a2,List.length_drop];congr 2
    omega
  . intro h0 hb hr h1 h hl
    rw[fV h0 hb hr] at hl;obtain⟨a1,a2⟩:=ih _ _ K (by rw[List.length_drop];omega) hl;refine⟨a1,?_⟩;have hle:=iK cZ l;have hrn:runN cZ (l++10 :: b)=runN cZ l:=uP cZ l _ (by decide) (.inr ⟨_,rfl⟩);have hr2:cO (l++10 :: b)=true:=(sU _).2 (((sU _).1 hr).trans (List.prefix_append _ _));rw[fV (by rw[List.length_append];omega) (by rw[fZ _ _ h0];exact hb) hr2,hrn,List.drop_append_of_le_length hle,a2,List.length_drop];congr 2
    omega
  . intro e h0 hb hr hf _ hl
    rw[kX h0 hb hr hf] at hl;cases hl
  . intro k o m n' h0 hb hr hf h hl
    obtain⟨hn1,hn2,hom⟩:=iF h0 hf;rw[nJ h0 hb hr hf] at hl;cases hx:lexFrom (l.drop n') (p+n') with
    | bad i e'=>rw[hx] at hl;cases hl
    | good J=>
     rw[hx] at hl;injection hl with hl;subst hl;obtain⟨a1,a2⟩:=ih _ _ J (by rw[List.length_drop];omega) hx;refine⟨by simp,?_⟩;have hend:aRm (10 :: b):= .inr ⟨_,rfl⟩;rw[nJ (by rw[List.length_append];omega) (by rw[fZ _ _ h0];exact hb) (aCj h0 hr hend) (aDq h0 hf hend),List.drop_append_of_le_length hn2,a2,
      List.singleton_append,List.dropLast_cons_of_ne_nil a1,List.drop_append_of_le_length (by omega),List.take_append_of_le_length (by rw[List.length_drop];omega),yX,List.length_drop,List.singleton_append]
     congr 2
     omega
end Go.Proofs.YtlbjicjinnnboaaGreatDoor
