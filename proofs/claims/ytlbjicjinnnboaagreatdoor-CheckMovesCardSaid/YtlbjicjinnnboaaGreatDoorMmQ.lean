/- MmQ: CkSim2, RlA, RlB, RlC, RlD, LjR, LjP, LjA. -/
import Derived.Test.YtlbjicjinnnboaaGreatDoorMmP
import Derived.Test.YtlbjicjinnnboaaGreatDoorMmO
import Derived.Test.YtlbjicjinnnboaaGreatDoorMmC
import Derived.Test.YtlbjicjinnnboaaGreatDoorMmE
set_option maxHeartbeats 8000000
set_option linter.unusedVariables false
set_option linter.unusedSimpArgs false
/- The checker of a tree, and of one with more ahead and behind: statements, blocks, functions, heads. -/
namespace Go.Proofs.YtlbjicjinnnboaaGreatDoor
open Go.RowKit
open Pw
section
variable {N d c k x:Nat}{s s':CkS}{ns ns':List aF}{fs fs':List aD}{ex ex':Nat→CkS→CkR (Nat×CkS)}{bl bl':Nat→CkS→CkR CkS}
theorem aFs {st st':Nat→CkS→CkR CkS}:∀(l:List Nat),(∀a∈l,aRe N d c st st' a)→∀s s',SS N d c s s'→RK d (SS N d c) (iG st l s) (iG st' (l.map (· + d)) s')
 | [],_,s,s',h=>h
 | a :: l,hl,s,s',h=>(hl a (by simp) s s' h).bind fun u v h2=>aFs l (fun b hb=>hl b (by simp[hb])) u v h2
theorem aPo {x line line' a:Nat}{nm:List UInt8} (ha:aOu N d c ex ex' a) (h:SS N d c s s'):RK d (SS N d c) (aOd ex x ⟨10,line,0,nm,[a]⟩ s) (aOd ex' (x+d) ⟨10,line',0,nm,[a+d]⟩ s'):=by
 unfold aOd;refine (ha s s' h).bind ?_;rintro⟨t,u⟩ ⟨t',v⟩ ⟨h1,h2⟩;dsimp only at h1 h2 ⊢;subst h1;rw[h2.vars,h2.size];exact RK.ite Iff.rfl (fun _=>RK.bad _ _) fun _=>RK.ite Iff.rfl (fun _=>RK.bad _ _) fun _=>RK.ite Iff.rfl (fun _=>RK.bad _ _) fun _=>(h2.aPg x (u.size:Int)).aQs _ _
theorem aNb {zz:List UInt8} (hF:FS d c zz fs fs') (hk:k<fs.length):(fs'[k+c]?.map (·.ret)).getD 0=(fs[k]?.map (·.ret)).getD 0:=by
 obtain⟨g,g1,g2,g3,_⟩:=hF.at_ k fs[k] (gE hk);rw[g1,gE hk];simp[g3]
theorem aPd {zz:List UInt8} (hF:FS d c zz fs fs') (hk:k<fs.length){x line':Nat}{nd:aF}{ms:List aF} (hok:dO ms nd) (hS:xG nd.kind=true) (hE:∀a,Kid ms nH a→aOu N d c ex ex' a) (hB:∀a,Kid ms nY a→aRe N d c bl bl' a) (h:SS N d c s s'):
  RK d (SS N d c) (jF fs k ex bl x nd s) (jF fs' (k+c) ex' bl' (x+d) ⟨nd.kind,line',nd.n,nd.name,nd.l.map (· + d)⟩ s'):=by
 have h0:=h.mE x k;have kE:∀{a:Nat},Kid ms iQ a→aOu N d c ex ex' a:=fun ⟨q,h1,h2⟩=>hE _ ⟨q,h1,xH h2⟩
 have test:∀{a:Nat} {m:List Nat},Kid ms iQ a→(∀y∈m,Kid ms nY y)→RK d (SS N d c) ((ex a { s with fn:=s.fn.set x k }).bind fun r=>if r.1=2 then iG bl m r.2 else .bad 42 x) ((ex' (a+d) { s' with fn:=s'.fn.set (x+d) (k+c) }).bind fun r=>if r.1=2 then iG bl' (m.map (· + d)) r.2 else .bad 42 (x+d)):=fun {a m} ha hm=>
  (kE ha _ _ h0).bind fun r r' ⟨h3,h4⟩=>RK.ite (by rw[h3]) (fun _=>aFs m (fun y hy=>hB y (hm y hy)) _ _ h4) (fun _=>RK.bad _ _)
 cases hok with
 | let_ line nm a ha=>exact aPo (hE a ha) h0
 | set line nm a ha=>exact (pF h0 x nm).bind fun t t' ⟨h1,h2⟩=>(hE a ha _ _ h2).bind fun r r' ⟨h3,h4⟩=>RK.ite (by rw[h1,h3]) (fun _=>h4) (fun _=>RK.bad _ _)
 | put line nm a b ha hb=>exact (pF h0 x nm).bind fun t t' ⟨h1,h2⟩=>(kE ha _ _ h2).bind fun r r' ⟨h3,h4⟩=>(kE hb _ _ h4).bind fun q q' ⟨h5,h6⟩=>RK.ite (by rw[h1,h3,h5]) (fun _=>h6) (fun _=>RK.bad _ _)
 | do_ line a ha=>exact (hE a (by obtain⟨q,h1,h2⟩:=ha;exact⟨q,h1,by simp[aOn] at h2;rw[h2];rfl⟩) _ _ h0).map fun r r' ⟨_,h4⟩=>h4
 | print line a ha=>exact (kE ha _ _ h0).bind fun r r' ⟨h3,h4⟩=>RK.ite (by rw[h3]) (fun _=>h4) (fun _=>RK.bad _ _)
 | ret0 line=>
  show RK d (SS N d c) (aCy fs k ex x ⟨17,line,0,[],[]⟩ _) (aCy fs' (k+c) ex' (x+d) ⟨17,line',0,[],[]⟩ _)
  unfold aCy;rw[aNb hF hk];exact RK.ite Iff.rfl (fun _=>h0) (fun _=>RK.bad _ _)
 | ret1 line a ha=>
  show RK d (SS N d c) (aCy fs k ex x ⟨17,line,0,[],[a]⟩ _) (aCy fs' (k+c) ex' (x+d) ⟨17,line',0,[],[a+d]⟩ _)
  unfold aCy;rw[aNb hF hk];refine RK.ite Iff.rfl (fun _=>?_) (fun _=>RK.bad _ _);exact (kE ha _ _ h0).bind fun r r' ⟨h3,h4⟩=>RK.ite (by rw[h3]) (fun _=>h4) (fun _=>RK.bad _ _)
 | if2 line a b ha hb=>exact test (m:=[b]) ha (fun y hy=>by rw[List.mem_singleton.1 hy];exact hb)
 | if3 line a b e ha hb he=>exact test (m:=[b,e]) ha (fun y hy=>by
    rcases List.mem_cons.1 hy with rfl|hy
    · exact hb
    · rw[List.mem_singleton.1 hy];exact he)
 | loop line a b ha hb=>exact test (m:=[b]) ha (fun y hy=>by rw[List.mem_singleton.1 hy];exact hb)
 | _=>simp[xG] at hS
theorem aBu {zz:List UInt8} (hn:aZ ns) (hN:NS d ns ns') (hle:ns.length+d≤ns'.length) (hF:FS d c zz fs fs') (hz:∀nd∈ns,nd.name≠zz) (hk:k<fs.length):∀(f f' x:Nat) (nd:aF),ns[x]?=some nd→nd.kind=18→x<f→x+d<f'→aRe N d c (gM ns fs k f) (gM ns' fs' (k+c) f') x
 | 0,_,_,_,_,_,h,_=>absurd h (Nat.not_lt_zero _)
 | _,0,_,_,_,_,_,h=>absurd h (Nat.not_lt_zero _)
 | f+1,f'+1,x,nd,hx,hb,h1,h2=>fun s s' h=>by
  obtain⟨line,hx'⟩:=hN x nd hx;unfold gM;rw[hx,hx'];have hok:=hn x nd hx;have hl:∀a∈nd.l,Kid (ns.take x) xG a:=by
    cases hok with
    | block line l hk=>exact hk
    | _=>simp at hb
  refine (aFs nd.l (fun a ha=>?_) _ _ (h.mE x k)).map fun u v h3=>?_
  · obtain⟨hax,na,hna,hS⟩:=(hl a ha).take
    obtain⟨line2,hna'⟩:=hN a na hna;intro u v huv;simp only[hna,hna'];refine aPd hF hk (hn a na hna) hS (fun b hb=>?_) (fun b hb=>?_) huv
    · obtain⟨hba,nb,hnb,hR⟩:=hb.take
      have:=(gK hna);exact aIq hn hN hF hz _ _ b nb hnb hR (by omega) (by omega)
    · obtain⟨hba,nb,hnb,hB⟩:=hb.take
      exact aBu hn hN hle hF hz hk f f' b nb hnb (by simpa[nY] using hB) (by omega) (by omega)
  · have:=h3.aQs (u.vars.take s.vars.length) u.size
    rw[h.vars,h3.vars]
    show SS N d c _ { v with vars:=u.vars.take s.vars.length,size:=v.size }
    rw[h3.size];exact this
theorem aHc (body:Nat):∀(l:List (List UInt8×Nat)) (vs:List dL),RK d Eq (jL body l vs) (jL (body+d) l vs)
 | [],vs=>rfl
 | p :: l,vs=>RK.ite Iff.rfl (fun _=>RK.bad _ _) (fun _=>aHc body l _)
theorem aOh {zz:List UInt8} (hn:aZ ns) (hN:NS d ns ns') (hle:ns.length+d≤ns'.length) (hF:FS d c zz fs fs') (hz:∀nd∈ns,nd.name≠zz) (hk:k<fs.length){f g:aD} (hb:Kid ns nY f.body) (hp:g.params=f.params) (hg:g.body=f.body+d) (h:SS N d c s s'):RK d (SS N d c) (iA ns fs k f s) (iA ns' fs' (k+c) g s'):=by
 unfold iA;rw[hp,hg];refine (aHc f.body f.params []).bind ?_;rintro vs _ rfl;obtain⟨nd,hx,hB⟩:=hb;have:=(gK hx);exact aBu hn hN hle hF hz hk _ _ f.body nd hx (by simpa[nY] using hB) this (by omega) _ _ (h.aQs vs vs.length)
def FL (d:Nat):List aD→List aD→Prop
 | [],[]=>True
 | f :: l,g :: m=>(g.params=f.params∧g.body=f.body+d)∧FL d l m
 | _,_=>False
theorem FL.of:∀{l m:List aD},l.length=m.length→(∀(i:Nat) (f g:aD),l[i]?=some f→m[i]?=some g→g.params=f.params∧g.body=f.body+d)→FL d l m
 | [],[],_,_=>trivial
 | f :: l,g :: m,hl,h=>⟨h 0 f g rfl rfl,FL.of (by simpa using hl) fun i f g hf hg=>h (i+1) f g (by simpa using hf) (by simpa using hg)⟩
 | [],g :: m,hl,_=>by simp at hl
 | f :: l,[],hl,_=>by simp at hl
theorem vC {zz:List UInt8} (hn:aZ ns) (hN:NS d ns ns') (hle:ns.length+d≤ns'.length) (hF:FS d c zz fs fs') (hz:∀nd∈ns,nd.name≠zz) (pre:List Nat):∀(l m:List aD) (k:Nat) (zs zs':List Nat) (s s':CkS),FL d l m→(∀f∈l,Kid ns nY f.body)→k+l.length≤fs.length→zs'=pre++zs→SS N d c s s' →
  RK d (fun a b=>b.1=pre++a.1∧SS N d c a.2 b.2) (dN ns fs k l zs s) (dN ns' fs' (k+c) m zs' s')
 | [],[],k,zs,zs',s,s',_,_,_,e,h=>⟨e,h⟩
 | f :: l,g :: m,k,zs,zs',s,s',hl,hb,hk,e,h=>by
  unfold dN;rw[List.length_cons] at hk;refine (aOh hn hN hle hF hz (by omega) (hb f (by simp)) hl.1.1 hl.1.2 h).bind fun u v h2=>?_
  rw[show k+c+1=k+1+c by omega];exact vC hn hN hle hF hz pre l m (k+1) _ _ u v hl.2 (fun f hf=>hb f (by simp[hf])) (by omega) (by rw[e,h2.size,List.append_assoc]) h2
 | [],g :: m,_,_,_,_,_,hl,_,_,_,_=>hl.elim
 | f :: l,[],_,_,_,_,_,hl,_,_,_,_=>hl.elim
theorem aIe (l1 l2:List aD):∀(k:Nat) (zs:List Nat) (s:CkS),dN ns fs k (l1++l2) zs s=(dN ns fs k l1 zs s).bind fun r=>dN ns fs (k+l1.length) l2 r.1 r.2:=by
 induction l1 with
 | nil=>intro k zs s;rfl
 | cons f l ih=>
  intro k zs s
  show (iA ns fs k f s).bind (fun r=>dN ns fs (k+1) (l++l2) (zs++[r.size]) r)=((iA ns fs k f s).bind fun r=>dN ns fs (k+1) l (zs++[r.size]) r).bind fun r=>dN ns fs (k+(f :: l).length) l2 r.1 r.2
  cases hq:iA ns fs k f s with
  | bad e p=>rfl
  | good r=>
   simp only[CkR.aJ];rw[ih,show k+(f :: l).length=k+1+l.length by rw[List.length_cons];omega]
theorem aBe {K n line:Nat} (hx:ns[n]?=some ⟨18,line,0,[],[]⟩){f:aD} (hp:f.params=[]) (hb:f.body=n) (s:CkS):iA ns fs K f s = .good { s with fn:=s.fn.set n K,vars:=[],size:=0 }:=by
 unfold iA;rw[hp,hb];obtain⟨q,hq⟩:∃q,ns.length=q+1:=⟨ns.length - 1,by have:=(gK hx);omega⟩;rw[hq];simp only[jL,CkR.aJ];unfold gM;rw[hx];simp[iG]
def HL (d:Nat) (fs gs:List aD):Prop:=fs.length=gs.length∧∀(i:Nat) (f g:aD),fs[i]?=some f→gs[i]?=some g→g.name=f.name∧g.params=f.params∧g.ret=f.ret∧g.body=f.body+d
theorem HL.tail {f g:aD}{l m:List aD} (h:HL d (f :: l) (g :: m)):HL d l m:=⟨by simpa using h.1,fun i f g hf hg=>h.2 (i+1) f g (by simpa using hf) (by simpa using hg)⟩
theorem uF (zz:List UInt8):∀(l m:List aD) (seen seen':List (List UInt8)),HL d l m→(∀f∈l,f.name≠zz)→(∀nm,nm≠zz→(nm∈seen'↔nm∈seen))→dJ seen' m=(dJ seen l).map (· + d)
 | [],[],_,_,_,_,_=>rfl
 | [],g :: m,_,_,h,_,_=>by simp[HL] at h
 | f :: l,[],_,_,h,_,_=>by simp[HL] at h
 | f :: l,g :: m,seen,seen',h,hz,hs=>by
  obtain⟨e1,e2,e3,e4⟩:=h.2 0 f g rfl rfl;unfold dJ;rw[e1];by_cases hm:f.name∈seen
  · rw[if_pos hm,if_pos ((hs _ (hz f (by simp))).2 hm),e4];rfl
  · rw[if_neg hm,if_neg (fun e=>hm ((hs _ (hz f (by simp))).1 e))]
    exact uF zz l m _ _ h.tail (fun f hf=>hz f (by simp[hf])) fun nm hn=>by
     simp only[List.mem_append,List.mem_singleton];rw[hs nm hn]
theorem vT {f:aD}:∀(l:List aD) (seen:List (List UInt8)),f.name∉seen→(∀g∈l,g.name≠f.name)→dJ seen (l++[f])=dJ seen l
 | [],seen,h,_=>by simp[dJ,h]
 | g :: l,seen,h,hl=>by
  rw[List.cons_append];unfold dJ;by_cases hm:g.name∈seen
  · rw[if_pos hm,if_pos hm]
  · rw[if_neg hm,if_neg hm]
    exact vT l _ (by simp only[List.mem_append,List.mem_singleton,not_or];exact⟨h,fun e=>hl g (by simp) e.symm⟩) (fun g hg=>hl g (by simp[hg]))
theorem zM:∀{l m:List aD},HL d l m→m.any fH=l.any fH
 | [],[],_=>rfl
 | [],g :: m,h=>by simp[HL] at h
 | f :: l,[],h=>by simp[HL] at h
 | f :: l,g :: m,h=>by
  obtain⟨e1,e2,e3,e4⟩:=h.2 0 f g rfl rfl;rw[List.any_cons,List.any_cons,zM h.tail];unfold fH;rw[e1,e2,e3]
theorem FL.aRl {l m:List aD} (h:HL d l m):FL d l m:=FL.of h.1 fun i f g hf hg=>⟨(h.2 i f g hf hg).2.1,(h.2 i f g hf hg).2.2.2⟩
theorem tK {fs gs:List aD} (h:HL d fs gs) (y:List UInt8):findF gs y=findF fs y:=by
 have e:∀l:List aD,findF l y=(l.map (·.name)).findIdx? fun n=>decide (n=y):=fun l=>by
  unfold findF;rw[List.findIdx?_map];rfl
 have:gs.map (·.name)=fs.map (·.name):=List.ext_getElem? fun i=>by
  rw[List.getElem?_map,List.getElem?_map];by_cases hi:i<fs.length
  · have hi2:i<gs.length:=by have:=h.1;omega
    rw[gE hi,gE hi2];have:=(h.2 i _ _ (gE hi) (gE hi2)).1;simp[this]
  · rw[List.getElem?_eq_none (by have:=h.1;omega),List.getElem?_eq_none (by omega)]
 rw[e,e,this]
theorem FS.behind {z:aD}{gs:List aD} (h:HL d fs gs):FS d 0 z.name fs (gs++[z]):=by
 refine⟨fun nm hn=>?_,fun j f hf=>?_⟩
 · have e:=tK h nm
   unfold findF at e ⊢;rw[List.findIdx?_append,e];cases hq:List.findIdx? (fun f=>decide (f.name=nm)) fs with
   | some j=>rfl
   | none=>simp[List.findIdx?_cons,Ne.symm hn]
 · have hj:=(gK hf)
   obtain⟨g,hg⟩:∃g,gs[j]?=some g:=⟨_,gE (by have:=h.1;omega)⟩;obtain⟨e1,e2,e3,e4⟩:=h.2 j f g hf hg;exact⟨g,by rw[List.getElem?_append_left (by have:=h.1;omega)];exact hg,e2,e3,e4⟩
theorem FS.ahead {z:aD}{gs:List aD} (h:HL d fs gs):FS d 1 z.name fs (z :: gs):=by
 refine⟨fun nm hn=>?_,fun j f hf=>?_⟩
 · have e:=tK h nm
   unfold findF at e ⊢;rw[List.findIdx?_cons,if_neg (by simpa using Ne.symm hn),e]
 · have hj:=(gK hf)
   obtain⟨g,hg⟩:∃g,gs[j]?=some g:=⟨_,gE (by have:=h.1;omega)⟩;obtain⟨e1,e2,e3,e4⟩:=h.2 j f g hf hg;exact⟨g,by simpa using hg,e2,e3,e4⟩
end
end Go.Proofs.YtlbjicjinnnboaaGreatDoor
/- The parser on two rows of tokens that are alike up to a place: the steps. -/
namespace Go.Proofs.YtlbjicjinnnboaaGreatDoor
open Go.RowKit
def shN (b:Nat) (n:aF):aF:={ n with line:=0,l:=n.l.map (· + b) }
def zlN (n:aF):aF:={ n with line:=0 }
def Mt (ts ts':List Tok) (d m:Nat):Prop:=∀i,i<m→(ts'.getD (i+d) lQ).kind=(ts.getD i lQ).kind∧(ts'.getD (i+d) lQ).text=(ts.getD i lQ).text
structure EO (ts:List Tok) (m:Nat) (s:PS):Prop where
 ok:bO ts s
 esc:(s.e=0∧m≤s.i)∨(s.e≠0∧∃j,m≤j∧j<ts.length∧s.place=(ts.getD j lQ).place)
structure Rl (ts ts':List Tok) (d m b:Nat) (P:List aF) (s s':PS):Prop where
 e:s'.e=s.e
 deep:s'.deep=s.deep
 i:s.e=0→s'.i=s.i+d
 nodes:s.e=0→s'.nodes.map zlN=P++s.nodes.map (shN b)
 place:s.e≠0→∃j,j<m∧s.place=(ts.getD j lQ).place∧s'.place=(ts'.getD (j+d) lQ).place
 lt:s.e=0→s.i<m
def S2 (ts ts':List Tok) (d m b:Nat) (P:List aF) (s s':PS):Prop:=EO ts m s∨(bO ts s∧Rl ts ts' d m b P s s')
def Out (ts ts':List Tok) (d m b:Nat) (P:List aF) (r r':List Nat×PS):Prop:=EO ts m r.2∨(bO ts r.2∧Rl ts ts' d m b P r.2 r'.2∧(r.2.e=0→r'.1=r.1.map (· + b)))
section
variable {ts ts':List Tok}{d m b:Nat}{P:List aF}{s s':PS}
theorem EO.go (h:EO ts m s) (hk:bO ts (pGo s)):EO ts m (pGo s):=by
 refine⟨hk,?_⟩;rcases h.esc with ⟨h0,hi⟩|⟨h0,j,hj⟩
 · exact .inl ⟨h0,by show m≤s.i+1;omega⟩
 · exact .inr ⟨h0,j,hj⟩
theorem EO.fail (h:EO ts m s) (ht:aQ ts) (k:Nat) (hk:k≤21) (hk1:1≤k):EO ts m (aO ts k s):=by
 refine⟨h.ok.fail ht k hk hk1,?_⟩;unfold aO;rcases h.esc with ⟨h0,hi⟩|⟨h0,j,hj⟩
 · rw[if_pos h0]
   exact .inr ⟨by show k≠0;omega,s.i,hi,h.ok.room,rfl⟩
 · rw[if_neg h0]
   exact .inr ⟨h0,j,hj⟩
theorem EO.must (h:EO ts m s) (ht:aQ ts) (x:List UInt8):EO ts m (aA ts x s):=by
 by_cases hp:pIs ts x s=true
 · have e:aA ts x s=pGo s:=by unfold aA;rw[if_pos hp]
   rw[e];exact h.go (h.ok.iZ ht hp)
 · have e:aA ts x s=aO ts 20 s:=by unfold aA;rw[if_neg hp]
   rw[e];exact h.fail ht 20 (by decide) (by decide)
theorem EO.named (h:EO ts m s) (ht:aQ ts):EO ts m (aC ts s):=by
 by_cases hp:bA ts 3 s=true
 · have e:aC ts s=pGo s:=by unfold aC;rw[if_pos hp]
   rw[e];exact h.go (h.ok.fU ht (aM hp).2 (by decide))
 · have e:aC ts s=aO ts 20 s:=by unfold aC;rw[if_neg hp]
   rw[e];exact h.fail ht 20 (by decide) (by decide)
theorem EO.typed (h:EO ts m s) (ht:aQ ts):EO ts m (aR ts s):=by
 have hk:=h.ok.typed ht;unfold aR at hk ⊢;by_cases hp:bQ ts s=0
 · rw[if_pos hp];exact h.fail ht 20 (by decide) (by decide)
 · rw[if_neg hp] at hk ⊢;exact h.go hk
theorem EO.eU {x:List UInt8} (h:EO ts m s) (ht:aQ ts) (hx:pIs ts x s=true):EO ts m (aW ts s):=by
 refine⟨h.ok.eU ht hx,?_⟩;have h0:=(aN hx).1;by_cases hd:16≤s.deep
 · have:=(h.fail ht 21 (by decide) (by decide)).esc
   unfold aW;simp only;rw[if_pos hd];exact this
 · unfold aW
   simp only;rw[if_neg hd];exact h.esc
theorem EO.goDown {x:List UInt8} (h:EO ts m s) (ht:aQ ts) (hx:pIs ts x s=true):EO ts m (pGo (aW ts s)):=(h.eU ht hx).go (h.ok.goDown ht hx)
theorem EO.up (h:EO ts m s):EO ts m (pUp s):=⟨h.ok.up,h.esc⟩
theorem EO.put (h:EO ts m s) (k line n:Nat) (name:List UInt8) (l:List Nat):EO ts m (bM k line n name l s).2:=⟨h.ok.put ..,h.esc⟩
theorem EO.iZ {x:List UInt8} (h:EO ts m s) (ht:aQ ts) (hx:pIs ts x s=true):EO ts m (pGo s):=h.go (h.ok.iZ ht hx)
theorem EO.lK {lv:Nat} (h:EO ts m s) (ht:aQ ts) (hx:eG ts lv s≠[]):EO ts m (pGo s):=h.go (h.ok.lK ht hx)
theorem EO.fA {x:List UInt8} (h:EO ts m s) (ht:aQ ts) (hw:bH ts s=x) (hx:x≠[]):EO ts m (pGo s):=h.go (h.ok.fA ht hw hx)
theorem EO.fU {k:Nat} (h:EO ts m s) (ht:aQ ts) (hk:(bE ts s).kind=k) (h0:k≠0):EO ts m (pGo s):=h.go (h.ok.fU ht hk h0)
theorem dM {src:List UInt8} (ht:aQ ts):∀(n:Nat) (k:Task) (s:PS) (r:List Nat×PS),run src ts n k s=some r→EO ts m s→EO ts m r.2:=by
 intro n;induction n with
 | zero=>intro k s r h;simp[run] at h
 | succ n ih=>
  intro k s r h hs;cases k<;>simp only[run] at h<;>
   (repeat' split at h)<;>
   (try simp only[mS,bS,Option.some.injEq] at h)<;>
   (try (obtain⟨q1,h1,h⟩:=h))<;>
   (repeat' split at h)<;>
   (try simp only[mS,bS,Option.some.injEq] at h)<;>
   (try (obtain⟨q2,h2,h⟩:=h))<;>
   (repeat' split at h)<;>
   (try simp only[mS,bS,Option.some.injEq] at h)<;>
   (try (obtain⟨q3,h3,h⟩:=h))<;>
   (try subst h)<;>
   (try subst h1)<;>
   (repeat (first
     | assumption
     | apply EO.put
     | apply EO.up
     | (refine EO.must ?_ ht _)
     | (refine EO.named ?_ ht)
     | (refine EO.typed ?_ ht)
     | (refine EO.fail ?_ ht 20 (by decide) (by decide))
     | (refine EO.goDown ?_ ht (by assumption))
     | (refine EO.eU ?_ ht (by assumption))
     | (refine EO.iZ ?_ ht (by assumption))
     | (refine EO.lK ?_ ht (by assumption))
     | (refine EO.fA ?_ ht (by assumption) (by simp))
     | (refine EO.fU ?_ ht (by assumption) (by decide))
     | (refine ih _ _ _ (by assumption) ?_)
     | dsimp only))
end
/- Two readers: what they see. -/
section
variable {ts ts':List Tok}{d m b:Nat}{P:List aF}{s s':PS}
theorem Rl.tok (hm:Mt ts ts' d m) (h:Rl ts ts' d m b P s s') (h0:s.e=0):(bE ts' s').kind=(bE ts s).kind∧(bE ts' s').text=(bE ts s).text:=by
 unfold bE;rw[h.i h0];exact hm _ (h.lt h0)
theorem Rl.is (hm:Mt ts ts' d m) (h:Rl ts ts' d m b P s s') (x:List UInt8):pIs ts' x s'=pIs ts x s:=by
 unfold pIs;rw[h.e];by_cases h0:s.e=0
 · rw[(h.tok hm h0).1,(h.tok hm h0).2]
 · rw[decide_eq_false h0];simp
theorem Rl.kind (hm:Mt ts ts' d m) (h:Rl ts ts' d m b P s s') (k:Nat):bA ts' k s'=bA ts k s:=by
 unfold bA;rw[h.e];by_cases h0:s.e=0
 · rw[(h.tok hm h0).1]
 · rw[decide_eq_false h0];simp
theorem Rl.word (hm:Mt ts ts' d m) (h:Rl ts ts' d m b P s s'):bH ts' s'=bH ts s:=by
 unfold bH;rw[h.kind hm];by_cases hk:bA ts 4 s=true
 · rw[if_pos hk,if_pos hk,(h.tok hm (aM hk).1).2]
 · rw[if_neg hk,if_neg hk]
theorem Rl.type (hm:Mt ts ts' d m) (h:Rl ts ts' d m b P s s'):bQ ts' s'=bQ ts s:=by
 unfold bQ;rw[h.word hm]
theorem Rl.name (hm:Mt ts ts' d m) (h:Rl ts ts' d m b P s s'):bK ts' s'=bK ts s:=by
 unfold bK;rw[h.kind hm];by_cases hk:bA ts 3 s=true
 · rw[if_pos hk,if_pos hk,(h.tok hm (aM hk).1).2]
 · rw[if_neg hk,if_neg hk]
theorem Rl.next (hm:Mt ts ts' d m) (h:Rl ts ts' d m b P s s') (lv:Nat):eG ts' lv s'=eG ts lv s:=by
 unfold eG;rw[show (fun x=>pIs ts' x s')=fun x=>pIs ts x s from funext fun x=>h.is hm x]
theorem Rl.calls (hm:Mt ts ts' d m) (h:Rl ts ts' d m b P s s') (hi:s.i+1<m):dU ts' s'=dU ts s:=by
 unfold dU;rw[h.kind hm];by_cases hk:bA ts 3 s=true
 · have h1:=hm _ hi
   rw[h.i (aM hk).1,show s.i+d+1=s.i+1+d by omega,h1.1,h1.2]
 · rw[show bA ts 3 s=false by simpa using hk];rfl
/- Their steps. -/
theorem Rl.go (h:Rl ts ts' d m b P s s') (hk:bO ts (pGo s)):S2 ts ts' d m b P (pGo s) (pGo s'):=by
 by_cases h0:s.e=0
 · by_cases hi:s.i+1<m
   · exact .inr ⟨hk,h.e,h.deep,fun _=>by show s'.i+1=s.i+1+d;have:=h.i h0;omega,h.nodes,fun he=>absurd h0 he,fun _=>hi⟩
   · exact .inl ⟨hk,.inl ⟨h0,by show m≤s.i+1;omega⟩⟩
 · exact .inr ⟨hk,h.e,h.deep,fun e=>absurd e h0,fun e=>absurd e h0,h.place,fun e=>absurd e h0⟩
theorem Rl.fail (h:Rl ts ts' d m b P s s') (k:Nat) (hk:1≤k):Rl ts ts' d m b P (aO ts k s) (aO ts' k s'):=by
 unfold aO;rw[h.e];by_cases h0:s.e=0
 · rw[if_pos h0,if_pos h0]
   have hk0:k≠0:=by omega
   refine⟨rfl,h.deep,fun e=>absurd e hk0,fun e=>absurd e hk0,fun _=>⟨s.i,h.lt h0,rfl,?_⟩,fun e=>absurd e hk0⟩
   show (bE ts' s').place=_
   unfold bE;rw[h.i h0]
 · rw[if_neg h0,if_neg h0]
   exact h
theorem S2.go (h:S2 ts ts' d m b P s s') (hk:bO ts (pGo s)):S2 ts ts' d m b P (pGo s) (pGo s'):=by
 rcases h with h|⟨_,h⟩
 · exact .inl (h.go hk)
 · exact h.go hk
theorem S2.fail (h:S2 ts ts' d m b P s s') (ht:aQ ts) (k:Nat) (hk:k≤21) (hk1:1≤k):S2 ts ts' d m b P (aO ts k s) (aO ts' k s'):=by
 rcases h with h|⟨ho,h⟩
 · exact .inl (h.fail ht k hk hk1)
 · exact .inr ⟨ho.fail ht k hk hk1,h.fail k hk1⟩
theorem S2.must (hm:Mt ts ts' d m) (h:S2 ts ts' d m b P s s') (ht:aQ ts) (x:List UInt8):S2 ts ts' d m b P (aA ts x s) (aA ts' x s'):=by
 rcases h with h|⟨ho,h⟩
 · exact .inl (h.must ht x)
 · unfold aA
   rw[h.is hm x];by_cases hp:pIs ts x s=true
   · rw[if_pos hp,if_pos hp];exact h.go (ho.iZ ht hp)
   · rw[if_neg hp,if_neg hp];exact S2.fail (.inr ⟨ho,h⟩) ht 20 (by decide) (by decide)
theorem S2.named (hm:Mt ts ts' d m) (h:S2 ts ts' d m b P s s') (ht:aQ ts):S2 ts ts' d m b P (aC ts s) (aC ts' s'):=by
 rcases h with h|⟨ho,h⟩
 · exact .inl (h.named ht)
 · unfold aC
   rw[h.kind hm];by_cases hp:bA ts 3 s=true
   · rw[if_pos hp,if_pos hp];exact h.go (ho.fU ht (aM hp).2 (by decide))
   · rw[if_neg hp,if_neg hp];exact S2.fail (.inr ⟨ho,h⟩) ht 20 (by decide) (by decide)
theorem S2.typed (hm:Mt ts ts' d m) (h:S2 ts ts' d m b P s s') (ht:aQ ts):S2 ts ts' d m b P (aR ts s) (aR ts' s'):=by
 rcases h with h|⟨ho,h⟩
 · exact .inl (h.typed ht)
 · have hk:=ho.typed ht
   unfold aR at hk ⊢;rw[h.type hm];by_cases hp:bQ ts s=0
   · rw[if_pos hp,if_pos hp];exact S2.fail (.inr ⟨ho,h⟩) ht 20 (by decide) (by decide)
   · rw[if_neg hp] at hk
     rw[if_neg hp,if_neg hp];exact h.go hk
theorem S2.eU {x:List UInt8} (h:S2 ts ts' d m b P s s') (ht:aQ ts) (hx:pIs ts x s=true):S2 ts ts' d m b P (aW ts s) (aW ts' s'):=by
 rcases h with h|⟨ho,h⟩
 · exact .inl (h.eU ht hx)
 · refine .inr ⟨ho.eU ht hx,?_⟩
   unfold aW;simp only;rw[h.deep];by_cases hd:16≤s.deep
   · rw[if_pos hd,if_pos hd]
     have h1:=h.fail 21 (by decide);exact⟨h1.e,by show (aO ts' 21 s').deep+1=(aO ts 21 s).deep+1;rw[h1.deep],h1.i,h1.nodes,h1.place,h1.lt⟩
   · rw[if_neg hd,if_neg hd]
     exact⟨h.e,by show s'.deep+1=s.deep+1;rw[h.deep],h.i,h.nodes,h.place,h.lt⟩
theorem S2.up (h:S2 ts ts' d m b P s s'):S2 ts ts' d m b P (pUp s) (pUp s'):=by
 rcases h with h|⟨ho,h⟩
 · exact .inl h.up
 · exact .inr ⟨ho.up,h.e,by show s'.deep - 1=s.deep - 1;rw[h.deep],h.i,h.nodes,h.place,h.lt⟩
theorem S2.put (hP:P.length=b) (h:S2 ts ts' d m b P s s') (k n line line':Nat) (name:List UInt8){l l':List Nat} (hl:s.e=0→l'=l.map (· + b)):Out ts ts' d m b P (bM k line n name l s) (bM k line' n name l' s'):=by
 rcases h with h|⟨ho,h⟩
 · exact .inl (h.put ..)
 · refine .inr ⟨ho.put ..,⟨h.e,h.deep,h.i,fun h0=>?_,h.place,h.lt⟩,fun h0=>?_⟩
   · show (s'.nodes++[_]).map zlN=P++(s.nodes++[_]).map (shN b)
     rw[List.map_append,List.map_append,h.nodes h0,List.append_assoc,hl h0];rfl
   · have h1:=congrArg List.length (h.nodes h0)
     simp only[List.length_map,List.length_append] at h1
     show [s'.nodes.length]=[s.nodes.length+b]
     rw[h1,hP,Nat.add_comm]
theorem Out.st {r r':List Nat×PS} (h:Out ts ts' d m b P r r'):S2 ts ts' d m b P r.2 r'.2:=by
 rcases h with h|⟨a,c,_⟩
 · exact .inl h
 · exact .inr ⟨a,c⟩
end
inductive TR (b:Nat) (s:PS):Task→Task→Prop
 | atom:TR b s .atom .atom
 | factor:TR b s .factor .factor
 | chain (lv:Nat):TR b s (.chain lv) (.chain lv)
 | more (lv l l' x x':Nat) (h:s.e=0→x'=x+b):TR b s (.more lv l x) (.more lv l' x')
 | args (l l':List Nat) (h:s.e=0→l'=l.map (· + b)):TR b s (.args l) (.args l')
 | call:TR b s .call .call
 | right:TR b s .right .right
 | block:TR b s .block .block
 | stmts (l l':List Nat) (h:s.e=0→l'=l.map (· + b)):TR b s (.stmts l) (.stmts l')
 | named (l l':Nat):TR b s (.named l) (.named l')
 | stmt:TR b s .stmt .stmt
section
variable {src src':List UInt8}{ts ts':List Tok}{d m b:Nat}{P:List aF}
def RR (src':List UInt8) (ts ts':List Tok) (d m b:Nat) (P:List aF) (n:Nat) (k':Task) (s':PS) (r:List Nat×PS):Prop:=
 EO ts m r.2∨∃r',run src' ts' n k' s'=some r'∧bO ts r.2∧Rl ts ts' d m b P r.2 r'.2∧(r.2.e=0→r'.1=r.1.map (· + b))
theorem Out.rr {n:Nat}{k':Task}{s':PS}{r r':List Nat×PS} (h:Out ts ts' d m b P r r') (hr:run src' ts' n k' s'=some r'):RR src' ts ts' d m b P n k' s' r:=by
 rcases h with h|⟨a,c,e⟩
 · exact .inl h
 · exact .inr ⟨r',hr,a,c,e⟩
theorem S2.err {s s':PS} (h:S2 ts ts' d m b P s s') (l l':List Nat) (he:s.e≠0):Out ts ts' d m b P (l,s) (l',s'):=by
 rcases h with h|⟨a,c⟩
 · exact .inl h
 · exact .inr ⟨a,c,fun e=>absurd e he⟩
theorem S2.ok {s s':PS} (h:S2 ts ts' d m b P s s'){l l':List Nat} (he:s.e=0→l'=l.map (· + b)):Out ts ts' d m b P (l,s) (l',s'):=by
 rcases h with h|⟨a,c⟩
 · exact .inl h
 · exact .inr ⟨a,c,he⟩
theorem tN (k:Nat) (hk:k≠0) (s:PS):(aO ts k s).e≠0:=by
 unfold aO;split
 · exact hk
 · assumption
theorem pK {l l':List Nat} (h1:l=[oneOf l]) (h:l'=l.map (· + b)):l'.headD 0=l.headD 0+b:=by
 rw[h,h1];rfl
theorem aIp (ht:aQ ts){n:Nat}{s:PS}{r:List Nat×PS} (h:run src ts n .factor s=some r) (hk:bA ts 3 s=true) (hE:EO ts m (pGo s)):EO ts m r.2:=by
 have hno:∀x,pIs ts x s=false:=fun x=>by
  unfold pIs;rw[(aM hk).2];simp
 cases n with
 | zero=>simp[run] at h
 | succ n=>
  simp only[run] at h;rw[if_neg (by rw[hno];decide),if_neg (by rw[hno];decide)] at h;cases n with
  | zero=>simp[run] at h
  | succ n=>
   simp only[run] at h;rw[if_neg (by have:=(aM hk).1;omega),if_neg (by rw[(aM hk).2];decide),if_neg (by rw[(aM hk).2];decide),if_pos (aM hk).2] at h;by_cases i1:pIs ts [91] (pGo s)=true
   · rw[if_pos i1] at h
     simp only[mS] at h;obtain⟨q,hq,rfl⟩:=h;exact ((dM ht _ _ _ _ hq ((hE.eU ht i1).must ht _)).must ht _).up.put ..
   · rw[if_neg i1] at h
     simp only[Option.some.injEq] at h;subst h;exact hE.put ..
theorem aBr (ht:aQ ts):∀{n lv:Nat}{s:PS}{r:List Nat×PS},run src ts n (.chain lv) s=some r→bA ts 3 s=true→EO ts m (pGo s)→EO ts m r.2
 | 0,_,_,_,h,_,_=>by simp[run] at h
 | n+1,lv,s,r,h,hk,hE=>by
  simp only[run] at h;by_cases h5:lv=5
  · rw[if_pos h5] at h
    exact aIp ht h hk hE
  · rw[if_neg h5] at h
    simp only[bS] at h;obtain⟨q,hq,h⟩:=h;exact dM ht _ _ _ _ h (aBr ht hq hk hE)
theorem aJa (ht:aQ ts){n:Nat}{s:PS}{r:List Nat×PS} (h:run src ts n .call s=some r) (hE:EO ts m (aC ts s)):EO ts m r.2:=by
 cases n with
 | zero=>simp[run] at h
 | succ n=>
  simp only[run,mS] at h;obtain⟨q,hq,rfl⟩:=h;refine EO.put (EO.must ?_ ht _) ..;split at hq
  · exact dM ht _ _ _ _ hq (hE.must ht _)
  · simp only[Option.some.injEq] at hq
    subst hq;exact hE.must ht _
theorem aKw (ht:aQ ts){n:Nat}{s:PS}{r:List Nat×PS} (h:run src ts n .right s=some r) (hk:bA ts 3 s=true) (hE:EO ts m (pGo s)):EO ts m r.2:=by
 have hno:∀x,pIs ts x s=false:=fun x=>by
  unfold pIs;rw[(aM hk).2];simp
 cases n with
 | zero=>simp[run] at h
 | succ n=>
  simp only[run] at h;rw[if_neg (by rw[hno];decide),if_neg (by rw[hno];decide)] at h;split at h
  · exact aJa ht h (by unfold aC;rw[if_pos hk];exact hE)
  · exact aBr ht h hk hE
theorem aLo (ht:aQ ts){n l:Nat}{s:PS}{r:List Nat×PS} (h:run src ts n (.named l) s=some r) (hE:EO ts m (aC ts s)):EO ts m r.2:=by
 cases n with
 | zero=>simp[run] at h
 | succ n=>
  simp only[run] at h;split at h
  · simp only[mS] at h
    obtain⟨q,hq,rfl⟩:=h;exact ((aJa ht hq hE).must ht _).put ..
  · split at h
    · rename_i i1
      simp only[bS,mS] at h;obtain⟨q,hq,u,hu,rfl⟩:=h;exact ((dM ht _ _ _ _ hu (((dM ht _ _ _ _ hq ((hE.eU ht i1).must ht _)).must ht _).up.must ht _)).must ht _).put ..
    · simp only[mS] at h
      obtain⟨q,hq,rfl⟩:=h;exact ((dM ht _ _ _ _ hq (hE.must ht _)).must ht _).put ..
theorem Rl.aNf {s s':PS} (hm:Mt ts ts' d m) (ho:bO ts s) (ht:aQ ts) (h:Rl ts ts' d m b P s s'):dU ts' s'=dU ts s∨(bA ts 3 s=true∧EO ts m (pGo s)):=by
 by_cases hk:bA ts 3 s=true
 · by_cases hi:s.i+1<m
   · exact .inl (h.calls hm hi)
   · exact .inr ⟨hk,ho.fU ht (aM hk).2 (by decide),.inl ⟨(aM hk).1,by show m≤s.i+1;omega⟩⟩
 · refine .inl ?_
   unfold dU;rw[h.kind hm,show bA ts 3 s=false by simpa using hk];rfl
theorem aFw (hm:Mt ts ts' d m) (hP:P.length=b) (ht:aQ ts):∀(n:Nat) (k:Task) (s:PS) (r:List Nat×PS),run src ts n k s=some r→∀(k':Task) (s':PS),TR b s k k'→bO ts s→Rl ts ts' d m b P s s'→RR src' ts ts' d m b P n k' s' r:=by
 intro n;induction n with
 | zero=>intro k s r h;simp[run] at h
 | succ n ih=>
  intro k s r h k' s' hk ho hl;have sub:∀{k k':Task} {u u':PS} {q:List Nat×PS},S2 ts ts' d m b P u u'→run src ts n k u=some q→TR b u k k'→RR src' ts ts' d m b P n k' u' q:=by
   intro k k' u u' q hs hq hk;rcases hs with hs|⟨ho,hl⟩
   · exact .inl (dM ht _ _ _ _ hq hs)
   · exact ih _ _ _ hq _ _ hk ho hl
  have h2:S2 ts ts' d m b P s s':= .inr ⟨ho,hl⟩;have hI:=fun x=>hl.is hm x
  cases hk with
  | atom=>
   simp only[run] at h;by_cases he:s.e≠0
   · rw[if_pos he] at h
     simp only[Option.some.injEq] at h;subst h;exact (h2.err _ [0] he).rr (by simp only[run];rw[if_pos (by rw[hl.e];exact he)])
   · rw[if_neg he] at h
     have h0:s.e=0:=by omega
     have he':¬s'.e≠0:=by rw[hl.e];exact he
     obtain⟨tk,tt⟩:=hl.tok hm h0;by_cases k1:(bE ts s).kind=1
     · rw[if_pos k1] at h
       simp only[Option.some.injEq] at h;subst h;exact ((h2.go (ho.fU ht k1 (by decide))).put hP 1 _ _ (aS src' ts' s') [] (l':=[]) (fun _=>rfl)).rr (by simp only[run];rw[if_neg he',tk,if_pos k1,tt])
     · rw[if_neg k1] at h
       by_cases k2:(bE ts s).kind=2
       · rw[if_pos k2] at h
         simp only[Option.some.injEq] at h;subst h;exact ((h2.go (ho.fU ht k2 (by decide))).put hP 3 _ _ (aS src' ts' s') _ (l':=[]) (fun _=>rfl)).rr (by simp only[run];rw[if_neg he',tk,if_neg k1,if_pos k2,tt])
       · rw[if_neg k2] at h
         by_cases k3:(bE ts s).kind=3
         · rw[if_pos k3] at h
           rcases h2.go (ho.fU ht k3 (by decide)) with hE|⟨ho1,hl1⟩
           · -- past what is alike
             refine .inl ?_;by_cases i1:pIs ts [91] (pGo s)=true
             · rw[if_pos i1] at h
               simp only[mS] at h;obtain⟨q,hq,rfl⟩:=h;exact ((dM ht _ _ _ _ hq ((hE.eU ht i1).must ht _)).must ht _).up.put ..
             · rw[if_neg i1] at h
               simp only[Option.some.injEq] at h;subst h;exact hE.put ..
           · by_cases i1:pIs ts [91] (pGo s)=true
             · rw[if_pos i1] at h
               simp only[mS] at h;obtain⟨q,hq,rfl⟩:=h;rcases sub (S2.must hm (S2.eU (.inr ⟨ho1,hl1⟩) ht i1) ht [91]) hq (TR.chain 0) with hE|⟨q',hq',a,c,e⟩
               · exact .inl ((hE.must ht _).up.put ..)
               · exact ((S2.must hm (.inr ⟨a,c⟩) ht [93]).up.put hP 5 0 _ (aS src' ts' s') _ (fun e0=>e (((Ext.refl q.2).must (ts:=ts) [93]).up.e0 e0))).rr (by
                   simp only[run];rw[if_neg he',tk,if_neg k1,if_neg k2,if_pos k3,hl1.is hm,if_pos i1,hq',tt];rfl)
             · rw[if_neg i1] at h
               simp only[Option.some.injEq] at h;subst h;exact (S2.put hP (.inr ⟨ho1,hl1⟩) 4 _ _ (aS src' ts' s') _ (l':=[]) (fun _=>rfl)).rr (by
                   simp only[run];rw[if_neg he',tk,if_neg k1,if_neg k2,if_pos k3,hl1.is hm,if_neg i1,tt])
         · rw[if_neg k3] at h
           by_cases i1:pIs ts [116,114,117,101] s=true
           · rw[if_pos i1] at h
             simp only[Option.some.injEq] at h;subst h;exact ((h2.go (ho.iZ ht i1)).put hP 2 _ _ (aS src' ts' s') [] (l':=[]) (fun _=>rfl)).rr (by simp only[run];rw[if_neg he',tk,if_neg k1,if_neg k2,if_neg k3,hI,if_pos i1])
           · rw[if_neg i1] at h
             by_cases i2:pIs ts [102,97,108,115,101] s=true
             · rw[if_pos i2] at h
               simp only[Option.some.injEq] at h;subst h;exact ((h2.go (ho.iZ ht i2)).put hP 2 _ _ (aS src' ts' s') [] (l':=[]) (fun _=>rfl)).rr (by simp only[run];rw[if_neg he',tk,if_neg k1,if_neg k2,if_neg k3,hI,if_neg i1,hI,if_pos i2])
             · rw[if_neg i2] at h
               by_cases i3:pIs ts [108,101,110] s=true
               · rw[if_pos i3] at h
                 rcases h2.go (ho.iZ ht i3) with hE|⟨ho1,hl1⟩
                 · refine .inl ?_
                   by_cases i4:pIs ts [40] (pGo s)=true
                   · rw[if_pos i4] at h
                     simp only[mS] at h;obtain⟨q,hq,rfl⟩:=h;exact ((dM ht _ _ _ _ hq ((hE.eU ht i4).must ht _)).must ht _).up.put ..
                   · rw[if_neg i4] at h
                     simp only[Option.some.injEq] at h;subst h;exact hE.fail ht 20 (by decide) (by decide)
                 · by_cases i4:pIs ts [40] (pGo s)=true
                   · rw[if_pos i4] at h
                     simp only[mS] at h;obtain⟨q,hq,rfl⟩:=h;rcases sub (S2.must hm (S2.eU (.inr ⟨ho1,hl1⟩) ht i4) ht [40]) hq (TR.chain 0) with hE|⟨q',hq',a,c,e⟩
                     · exact .inl ((hE.must ht _).up.put ..)
                     · exact ((S2.must hm (.inr ⟨a,c⟩) ht [41]).up.put hP 6 0 _ (aS src' ts' s') _ (fun e0=>e (((Ext.refl q.2).must (ts:=ts) [41]).up.e0 e0))).rr (by
                        simp only[run];rw[if_neg he',tk,if_neg k1,if_neg k2,if_neg k3,hI,if_neg i1,hI,if_neg i2,hI,if_pos i3,hl1.is hm,if_pos i4,hq'];rfl)
                   · rw[if_neg i4] at h
                     simp only[Option.some.injEq] at h;subst h;exact ((S2.fail (.inr ⟨ho1,hl1⟩) ht 20 (by decide) (by decide)).err _ [0] (tN 20 (by decide) _)).rr (by
                        simp only[run];rw[if_neg he',tk,if_neg k1,if_neg k2,if_neg k3,hI,if_neg i1,hI,if_neg i2,hI,if_pos i3,hl1.is hm,if_neg i4])
               · rw[if_neg i3] at h
                 by_cases i4:pIs ts [40] s=true
                 · rw[if_pos i4] at h
                   simp only[mS] at h;obtain⟨q,hq,rfl⟩:=h;rcases sub (S2.must hm (h2.eU ht i4) ht [40]) hq (TR.chain 0) with hE|⟨q',hq',a,c,e⟩
                   · exact .inl (hE.must ht _).up
                   · exact ((S2.must hm (.inr ⟨a,c⟩) ht [41]).up.ok (l:=q.1) (l':=q'.1) (fun e0=>e (((Ext.refl q.2).must (ts:=ts) [41]).up.e0 e0))).rr (by
                       simp only[run];rw[if_neg he',tk,if_neg k1,if_neg k2,if_neg k3,hI,if_neg i1,hI,if_neg i2,hI,if_neg i3,hI,if_pos i4,hq'];rfl)
                 · rw[if_neg i4] at h
                   simp only[Option.some.injEq] at h;subst h;exact ((h2.fail ht 20 (by decide) (by decide)).err _ [0] (tN 20 (by decide) _)).rr (by
                       simp only[run];rw[if_neg he',tk,if_neg k1,if_neg k2,if_neg k3,hI,if_neg i1,hI,if_neg i2,hI,if_neg i3,hI,if_neg i4])
  | factor=>
   simp only[run] at h;by_cases i1:pIs ts [45] s=true
   · rw[if_pos i1] at h
     simp only[mS] at h;obtain⟨q,hq,rfl⟩:=h;rcases sub ((h2.eU ht i1).go (ho.goDown ht i1)) hq TR.factor with hE|⟨q',hq',a,c,e⟩
     · exact .inl (hE.up.put ..)
     · exact ((S2.up (.inr ⟨a,c⟩)).put hP 7 0 _ (aS src' ts' s') _ (fun e0=>e e0)).rr (by simp only[run];rw[hI,if_pos i1,hq'];rfl)
   · rw[if_neg i1] at h
     by_cases i2:pIs ts [33] s=true
     · rw[if_pos i2] at h
       simp only[mS] at h;obtain⟨q,hq,rfl⟩:=h;rcases sub ((h2.eU ht i2).go (ho.goDown ht i2)) hq TR.factor with hE|⟨q',hq',a,c,e⟩
       · exact .inl (hE.up.put ..)
       · exact ((S2.up (.inr ⟨a,c⟩)).put hP 8 0 _ (aS src' ts' s') _ (fun e0=>e e0)).rr (by simp only[run];rw[hI,if_neg i1,hI,if_pos i2,hq'];rfl)
     · rw[if_neg i2] at h
       rcases sub h2 h TR.atom with hE|⟨q',hq',a,c,e⟩
       · exact .inl hE
       · exact .inr ⟨q',by simp only[run];rw[hI,if_neg i1,hI,if_neg i2,hq'],a,c,e⟩
  | chain lv=>
   simp only[run] at h;by_cases h5:lv=5
   · rw[if_pos h5] at h
     rcases sub h2 h TR.factor with hE|⟨q',hq',a,c,e⟩
     · exact .inl hE
     · exact .inr ⟨q',by simp only[run];rw[if_pos h5,hq'],a,c,e⟩
   · rw[if_neg h5] at h
     simp only[bS] at h;obtain⟨q,hq,h⟩:=h;rcases sub h2 hq (TR.chain (lv+1)) with hE|⟨q',hq',a,c,e⟩
     · exact .inl (dM ht _ _ _ _ h hE)
     · rcases sub (.inr ⟨a,c⟩) h (TR.more lv (aS src ts s) (aS src' ts' s') (q.1.headD 0) (q'.1.headD 0) (fun e0=>pK (aK _ _ _ _ hq trivial) (e e0))) with hE|⟨r',hr',a2,c2,e2⟩
       · exact .inl hE
       · exact .inr ⟨r',by simp only[run];rw[if_neg h5,hq'];exact hr',a2,c2,e2⟩
  | more lv l l' x x' hx=>
   simp only[run] at h;have hn:=hl.next hm lv;by_cases hp:eG ts lv s=[]
   · rw[if_pos hp] at h
     simp only[Option.some.injEq] at h;subst h;exact (h2.ok (l:=[x]) (l':=[x']) (fun e0=>by rw[hx e0];rfl)).rr (by simp only[run];rw[hn,if_pos hp])
   · rw[if_neg hp] at h
     simp only[bS] at h;obtain⟨q,hq,h⟩:=h;have h0:=(tC hp).1;rcases sub (h2.go (ho.lK ht hp)) hq (TR.chain (lv+1)) with hE|⟨q',hq',a,c,e⟩
     · refine .inl ?_
       by_cases h2':lv=2
       · rw[if_pos h2'] at h
         simp only[Option.some.injEq] at h;subst h;exact hE.put ..
       · rw[if_neg h2'] at h
         exact dM ht _ _ _ _ h (hE.put ..)
     · have hput:=S2.put hP (.inr ⟨a,c⟩) 9 0 l l' (eG ts lv s) (l:=[x,q.1.headD 0]) (l':=[x',q'.1.headD 0]) (fun e0=>by rw[hx h0,pK (aK _ _ _ _ hq trivial) (e e0)];rfl)
       by_cases h2':lv=2
       · rw[if_pos h2'] at h
         simp only[Option.some.injEq] at h;subst h;exact hput.rr (by simp only[run];rw[hn,if_neg hp,hq'];simp only[Option.bind_some];rw[if_pos h2'])
       · rw[if_neg h2'] at h
         rcases hput with hE|⟨a3,c3,e3⟩
         · exact .inl (dM ht _ _ _ _ h hE)
         · rcases sub (.inr ⟨a3,c3⟩) h (TR.more lv l l' _ _ (fun e0=>pK rfl (e3 e0))) with hE|⟨r',hr',a2,c2,e2⟩
           · exact .inl hE
           · exact .inr ⟨r',by simp only[run];rw[hn,if_neg hp,hq'];simp only[Option.bind_some];rw[if_neg h2'];exact hr',a2,c2,e2⟩
  | args l l' hx=>
   simp only[run] at h;simp only[bS] at h;obtain⟨q,hq,h⟩:=h;rcases sub h2 hq (TR.chain 0) with hE|⟨q',hq',a,c,e⟩
   · refine .inl ?_
     by_cases i1:pIs ts [44] q.2=true
     · rw[if_pos i1] at h
       exact dM ht _ _ _ _ h (hE.iZ ht i1)
     · rw[if_neg i1] at h
       simp only[Option.some.injEq] at h;subst h;exact hE
   · have hll:q.2.e=0→l'++q'.1=(l++q.1).map (· + b):=fun e0=>by rw[List.map_append,e e0,hx ((aI _ _ _ _ hq).e0 e0)]
     by_cases i1:pIs ts [44] q.2=true
     · rw[if_pos i1] at h
       rcases sub (S2.go (.inr ⟨a,c⟩) (a.iZ ht i1)) h (TR.args (l++q.1) (l'++q'.1) (fun e0=>hll e0)) with hE|⟨r',hr',a2,c2,e2⟩
       · exact .inl hE
       · exact .inr ⟨r',by simp only[run];rw[hq'];simp only[Option.bind_some];rw[c.is hm,if_pos i1];exact hr',a2,c2,e2⟩
     · rw[if_neg i1] at h
       simp only[Option.some.injEq] at h;subst h;exact (S2.ok (.inr ⟨a,c⟩) hll).rr (by simp only[run];rw[hq'];simp only[Option.bind_some];rw[c.is hm,if_neg i1])
  | call=>
   simp only[run,mS] at h;obtain⟨q,hq,rfl⟩:=h;have hs2:=S2.must hm (S2.named hm h2 ht) ht [40];rcases hs2 with hE|⟨a,c⟩
   · refine .inl (EO.put (EO.must ?_ ht _) ..)
     split at hq
     · exact dM ht _ _ _ _ hq hE
     · simp only[Option.some.injEq] at hq
       subst hq;exact hE
   · by_cases hc:pIs ts [41] (aA ts [40] (aC ts s))=false∧(aA ts [40] (aC ts s)).e=0
     · rw[if_pos hc] at hq
       rcases sub (.inr ⟨a,c⟩) hq (TR.args [] [] (fun _=>rfl)) with hE|⟨q',hq',a2,c2,e2⟩
       · exact .inl ((hE.must ht _).put ..)
       · exact ((S2.must hm (.inr ⟨a2,c2⟩) ht [41]).put hP 21 0 _ (aS src' ts' s') _ (fun e0=>e2 (((Ext.refl q.2).must (ts:=ts) [41]).e0 e0))).rr (by
           simp only[run];rw[c.is hm,c.e,if_pos hc,hq',hl.name hm];rfl)
     · rw[if_neg hc] at hq
       simp only[Option.some.injEq] at hq;subst hq;exact ((S2.must hm (.inr ⟨a,c⟩) ht [41]).put hP 21 0 _ (aS src' ts' s') _ (l:=[]) (l':=[]) (fun e0=>rfl)).rr (by
           simp only[run];rw[c.is hm,c.e,if_neg hc,hl.name hm];rfl)
  | right=>
   rcases hl.aNf hm ho ht with hc|⟨hk3,hE⟩
   case inr=>exact .inl (aKw ht h hk3 hE)
   simp only[run] at h;by_cases i1:pIs ts [105,110,112,117,116] s=true
   · rw[if_pos i1] at h
     simp only[Option.some.injEq] at h;subst h;exact ((h2.go (ho.iZ ht i1)).put hP 19 0 _ (aS src' ts' s') [] (l':=[]) (fun _=>rfl)).rr (by simp only[run];rw[hI,if_pos i1])
   · rw[if_neg i1] at h
     by_cases i2:pIs ts [110,101,119] s=true
     · rw[if_pos i2] at h
       simp only[mS] at h;obtain⟨q,hq,rfl⟩:=h;rcases sub (S2.must hm (h2.go (ho.iZ ht i2)) ht [40]) hq (TR.chain 0) with hE|⟨q',hq',a,c,e⟩
       · exact .inl ((hE.must ht _).put ..)
       · exact ((S2.must hm (.inr ⟨a,c⟩) ht [41]).put hP 20 0 _ (aS src' ts' s') _ (fun e0=>e (((Ext.refl q.2).must (ts:=ts) [41]).e0 e0))).rr (by simp only[run];rw[hI,if_neg i1,hI,if_pos i2,hq'];rfl)
     · rw[if_neg i2] at h
       by_cases i3:dU ts s=true
       · rw[if_pos i3] at h
         rcases sub h2 h TR.call with hE|⟨q',hq',a,c,e⟩
         · exact .inl hE
         · exact .inr ⟨q',by simp only[run];rw[hI,if_neg i1,hI,if_neg i2,hc,if_pos i3,hq'],a,c,e⟩
       · rw[if_neg i3] at h
         rcases sub h2 h (TR.chain 0) with hE|⟨q',hq',a,c,e⟩
         · exact .inl hE
         · exact .inr ⟨q',by simp only[run];rw[hI,if_neg i1,hI,if_neg i2,hc,if_neg i3,hq'],a,c,e⟩
  | block=>
   simp only[run] at h;by_cases i1:pIs ts [123] s=true
   · rw[if_pos i1] at h
     simp only[mS] at h;obtain⟨q,hq,rfl⟩:=h;rcases sub (S2.must hm (h2.eU ht i1) ht [123]) hq (TR.stmts [] [] (fun _=>rfl)) with hE|⟨q',hq',a,c,e⟩
     · exact .inl ((hE.must ht _).up.put ..)
     · exact ((S2.must hm (.inr ⟨a,c⟩) ht [125]).up.put hP 18 0 _ (aS src' ts' s') _ (fun e0=>e (((Ext.refl q.2).must (ts:=ts) [125]).up.e0 e0))).rr (by simp only[run];rw[hI,if_pos i1,hq'];rfl)
   · rw[if_neg i1] at h
     simp only[Option.some.injEq] at h;subst h;exact ((h2.fail ht 20 (by decide) (by decide)).err _ [0] (tN 20 (by decide) _)).rr (by simp only[run];rw[hI,if_neg i1])
  | stmts l l' hx=>
   simp only[run] at h;by_cases he:s.e≠0
   · rw[if_pos he] at h
     simp only[Option.some.injEq] at h;subst h;exact (h2.err _ l' he).rr (by simp only[run];rw[if_pos (by rw[hl.e];exact he)])
   · rw[if_neg he] at h
     have he':¬s'.e≠0:=by rw[hl.e];exact he
     by_cases i1:pIs ts [125] s=true
     · rw[if_pos i1] at h
       simp only[Option.some.injEq] at h;subst h;exact (h2.ok hx).rr (by simp only[run];rw[if_neg he',hI,if_pos i1])
     · rw[if_neg i1] at h
       simp only[bS] at h;obtain⟨q,hq,h⟩:=h;rcases sub h2 hq TR.stmt with hE|⟨q',hq',a,c,e⟩
       · exact .inl (dM ht _ _ _ _ h hE)
       · rcases sub (.inr ⟨a,c⟩) h (TR.stmts (l++q.1) (l'++q'.1) (fun e0=>by rw[List.map_append,e e0,hx ((aI _ _ _ _ hq).e0 e0)])) with hE|⟨r',hr',a2,c2,e2⟩
         · exact .inl hE
         · exact .inr ⟨r',by simp only[run];rw[if_neg he',hI,if_neg i1,hq'];exact hr',a2,c2,e2⟩
  | named l l'=>
   rcases hl.aNf hm ho ht with hc|⟨hk3,hE⟩
   case inr=>exact .inl (aLo ht h (by unfold aC;rw[if_pos hk3];exact hE))
   simp only[run] at h;by_cases i1:dU ts s=true
   · rw[if_pos i1] at h
     simp only[mS] at h;obtain⟨q,hq,rfl⟩:=h;rcases sub h2 hq TR.call with hE|⟨q',hq',a,c,e⟩
     · exact .inl ((hE.must ht _).put ..)
     · exact ((S2.must hm (.inr ⟨a,c⟩) ht [59]).put hP 13 0 l l' _ (fun e0=>e (((Ext.refl q.2).must (ts:=ts) [59]).e0 e0))).rr (by simp only[run];rw[hc,if_pos i1,hq'];rfl)
   · rw[if_neg i1] at h
     rcases S2.named hm h2 ht with hE|⟨ho1,hl1⟩
     · refine .inl ?_
       by_cases i2:pIs ts [91] (aC ts s)=true
       · rw[if_pos i2] at h
         simp only[bS,mS] at h;obtain⟨q,hq,u,hu,rfl⟩:=h;exact ((dM ht _ _ _ _ hu (((dM ht _ _ _ _ hq ((hE.eU ht i2).must ht _)).must ht _).up.must ht _)).must ht _).put ..
       · rw[if_neg i2] at h
         simp only[mS] at h;obtain⟨q,hq,rfl⟩:=h;exact ((dM ht _ _ _ _ hq (hE.must ht _)).must ht _).put ..
     · by_cases i2:pIs ts [91] (aC ts s)=true
       · rw[if_pos i2] at h
         simp only[bS,mS] at h;obtain⟨q,hq,u,hu,rfl⟩:=h;rcases sub (S2.must hm (S2.eU (.inr ⟨ho1,hl1⟩) ht i2) ht [91]) hq (TR.chain 0) with hE|⟨q',hq',a,c,e⟩
         · exact .inl (((dM ht _ _ _ _ hu ((hE.must ht _).up.must ht _)).must ht _).put ..)
         · rcases sub (S2.must hm (S2.up (S2.must hm (.inr ⟨a,c⟩) ht [93])) ht [61]) hu (TR.chain 0) with hE|⟨u',hu',a2,c2,e2⟩
           · exact .inl ((hE.must ht _).put ..)
           · exact ((S2.must hm (.inr ⟨a2,c2⟩) ht [59]).put hP 12 0 l l' _ (l:=q.1++u.1) (l':=q'.1++u'.1) (fun e0=>by
               have h5:=((Ext.refl u.2).must (ts:=ts) [59]).e0 e0;have h6:=((Ext.refl _).must (ts:=ts) [61]).e0 ((aI _ _ _ _ hu).e0 h5);rw[List.map_append,e2 h5,e (((Ext.refl q.2).must (ts:=ts) [93]).up.e0 h6)])).rr (by
                 simp only[run];rw[hc,if_neg i1,hl1.is hm,if_pos i2,hq'];simp only[Option.bind_some];rw[hu',hl.name hm];rfl)
       · rw[if_neg i2] at h
         simp only[mS] at h;obtain⟨q,hq,rfl⟩:=h;rcases sub (S2.must hm (.inr ⟨ho1,hl1⟩) ht [61]) hq TR.right with hE|⟨q',hq',a,c,e⟩
         · exact .inl ((hE.must ht _).put ..)
         · exact ((S2.must hm (.inr ⟨a,c⟩) ht [59]).put hP 11 0 l l' _ (fun e0=>e (((Ext.refl q.2).must (ts:=ts) [59]).e0 e0))).rr (by
             simp only[run];rw[hc,if_neg i1,hl1.is hm,if_neg i2,hq',hl.name hm];rfl)
  | stmt=>
   simp only[run] at h;have hw:=hl.word hm;by_cases j0:bH ts s=[108,101,116]
   · rw[if_pos j0] at h
     simp only[mS] at h;obtain⟨q,hq,rfl⟩:=h;rcases h2.go (ho.fA ht j0 (by decide)) with hE|⟨ho1,hl1⟩
     · exact .inl (((dM ht _ _ _ _ hq ((hE.named ht).must ht _)).must ht _).put ..)
     · rcases sub (S2.must hm (S2.named hm (.inr ⟨ho1,hl1⟩) ht) ht [61]) hq TR.right with hE|⟨q',hq',a,c,e⟩
       · exact .inl ((hE.must ht _).put ..)
       · exact ((S2.must hm (.inr ⟨a,c⟩) ht [59]).put hP 10 0 _ (aS src' ts' s') _ (fun e0=>e (((Ext.refl q.2).must (ts:=ts) [59]).e0 e0))).rr (by
           simp only[run];rw[hw,if_pos j0,hq',hl1.name hm];rfl)
   · rw[if_neg j0] at h
     by_cases j1:bH ts s=[112,114,105,110,116]
     · rw[if_pos j1] at h
       simp only[mS] at h;obtain⟨q,hq,rfl⟩:=h;rcases sub (h2.go (ho.fA ht j1 (by decide))) hq (TR.chain 0) with hE|⟨q',hq',a,c,e⟩
       · exact .inl ((hE.must ht _).put ..)
       · exact ((S2.must hm (.inr ⟨a,c⟩) ht [59]).put hP 14 0 _ (aS src' ts' s') _ (fun e0=>e (((Ext.refl q.2).must (ts:=ts) [59]).e0 e0))).rr (by
           simp only[run];rw[hw,if_neg j0,if_pos j1,hq'];rfl)
     · rw[if_neg j1] at h
       by_cases j2:bH ts s=[119,104,105,108,101]
       · rw[if_pos j2] at h
         simp only[bS,mS] at h;obtain⟨q,hq,u,hu,rfl⟩:=h;rcases sub (h2.go (ho.fA ht j2 (by decide))) hq (TR.chain 0) with hE|⟨q',hq',a,c,e⟩
         · exact .inl ((dM ht _ _ _ _ hu hE).put ..)
         · rcases sub (.inr ⟨a,c⟩) hu TR.block with hE|⟨u',hu',a2,c2,e2⟩
           · exact .inl (hE.put ..)
           · exact (S2.put hP (.inr ⟨a2,c2⟩) 16 0 _ (aS src' ts' s') _ (l:=q.1++u.1) (l':=q'.1++u'.1) (fun e0=>by
               rw[List.map_append,e2 e0,e ((aI _ _ _ _ hu).e0 e0)])).rr (by
                 simp only[run];rw[hw,if_neg j0,if_neg j1,if_pos j2,hq'];simp only[Option.bind_some];rw[hu'];rfl)
       · rw[if_neg j2] at h
         by_cases j3:bH ts s=[105,102]
         · rw[if_pos j3] at h
           simp only[bS] at h;obtain⟨q,hq,u,hu,h⟩:=h;rcases sub (h2.go (ho.fA ht j3 (by decide))) hq (TR.chain 0) with hE|⟨q',hq',a,c,e⟩
           · refine .inl ?_
             have hE2:=dM ht _ _ _ _ hu hE;split at h
             · rename_i ie
               simp only[mS] at h;obtain⟨v,hv,rfl⟩:=h;exact (dM ht _ _ _ _ hv (hE2.iZ ht ie)).put ..
             · simp only[Option.some.injEq] at h
               subst h;exact hE2.put ..
           · rcases sub (.inr ⟨a,c⟩) hu TR.block with hE|⟨u',hu',a2,c2,e2⟩
             · refine .inl ?_
               split at h
               · rename_i ie
                 simp only[mS] at h;obtain⟨v,hv,rfl⟩:=h;exact (dM ht _ _ _ _ hv (hE.iZ ht ie)).put ..
               · simp only[Option.some.injEq] at h
                 subst h;exact hE.put ..
             · by_cases ie:pIs ts [101,108,115,101] u.2=true
               · rw[if_pos ie] at h
                 simp only[mS] at h;obtain⟨v,hv,rfl⟩:=h;rcases sub (S2.go (.inr ⟨a2,c2⟩) (a2.iZ ht ie)) hv TR.block with hE|⟨v',hv',a3,c3,e3⟩
                 · exact .inl (hE.put ..)
                 · exact (S2.put hP (.inr ⟨a3,c3⟩) 15 0 _ (aS src' ts' s') _ (l:=q.1++u.1++v.1) (l':=q'.1++u'.1++v'.1) (fun e0=>by
                     have h5:=(aN ie).1;rw[List.map_append,List.map_append,e3 e0,e2 h5,e ((aI _ _ _ _ hu).e0 h5)])).rr (by
                       simp only[run];rw[hw,if_neg j0,if_neg j1,if_neg j2,if_pos j3,hq'];simp only[Option.bind_some];rw[hu'];simp only[Option.bind_some];rw[c2.is hm,if_pos ie,hv'];rfl)
               · rw[if_neg ie] at h
                 simp only[Option.some.injEq] at h;subst h;exact (S2.put hP (.inr ⟨a2,c2⟩) 15 0 _ (aS src' ts' s') _ (l:=q.1++u.1) (l':=q'.1++u'.1) (fun e0=>by
                     rw[List.map_append,e2 e0,e ((aI _ _ _ _ hu).e0 e0)])).rr (by
                       simp only[run];rw[hw,if_neg j0,if_neg j1,if_neg j2,if_pos j3,hq'];simp only[Option.bind_some];rw[hu'];simp only[Option.bind_some];rw[c2.is hm,if_neg ie])
         · rw[if_neg j3] at h
           by_cases j4:bH ts s=[114,101,116,117,114,110]
           · rw[if_pos j4] at h
             rcases h2.go (ho.fA ht j4 (by decide)) with hE|⟨ho1,hl1⟩
             · refine .inl ?_
               split at h
               · simp only[Option.some.injEq] at h
                 subst h;exact (hE.must ht _).put ..
               · simp only[mS] at h
                 obtain⟨q,hq,rfl⟩:=h;exact ((dM ht _ _ _ _ hq hE).must ht _).put ..
             · by_cases ie:pIs ts [59] (pGo s)=true
               · rw[if_pos ie] at h
                 simp only[Option.some.injEq] at h;subst h;exact ((S2.must hm (.inr ⟨ho1,hl1⟩) ht [59]).put hP 17 0 _ (aS src' ts' s') [] (l':=[]) (fun _=>rfl)).rr (by
                   simp only[run];rw[hw,if_neg j0,if_neg j1,if_neg j2,if_neg j3,if_pos j4,hl1.is hm,if_pos ie])
               · rw[if_neg ie] at h
                 simp only[mS] at h;obtain⟨q,hq,rfl⟩:=h;rcases sub (.inr ⟨ho1,hl1⟩) hq (TR.chain 0) with hE|⟨q',hq',a,c,e⟩
                 · exact .inl ((hE.must ht _).put ..)
                 · exact ((S2.must hm (.inr ⟨a,c⟩) ht [59]).put hP 17 0 _ (aS src' ts' s') _ (fun e0=>e (((Ext.refl q.2).must (ts:=ts) [59]).e0 e0))).rr (by
                     simp only[run];rw[hw,if_neg j0,if_neg j1,if_neg j2,if_neg j3,if_pos j4,hl1.is hm,if_neg ie,hq'];rfl)
           · rw[if_neg j4] at h
             rcases sub h2 h (TR.named (aS src ts s) (aS src' ts' s')) with hE|⟨q',hq',a,c,e⟩
             · exact .inl hE
             · exact .inr ⟨q',by simp only[run];rw[hw,if_neg j0,if_neg j1,if_neg j2,if_neg j3,if_neg j4,hq'],a,c,e⟩
end
def LeO {α:Type} (a b:Option α):Prop:=∀r,a=some r→b=some r
theorem LeO.refl {α:Type} (a:Option α):LeO a a:=fun _ h=>h
theorem LeO.map {α β:Type}{a b:Option α} (h:LeO a b) (f:α→β):LeO (a.map f) (b.map f):=fun r hr=>by
 rw[mS] at hr ⊢;obtain⟨q,hq,e⟩:=hr;exact⟨q,h q hq,e⟩
theorem LeO.bind {α β:Type}{a b:Option α}{f g:α→Option β} (h:LeO a b) (hf:∀q,LeO (f q) (g q)):LeO (a.bind f) (b.bind g):=fun r hr=>by
 rw[bS] at hr ⊢;obtain⟨q,hq,e⟩:=hr;exact⟨q,h q hq,hf q r e⟩
theorem LeO.ite {α:Type}{c:Prop} [Decidable c] {a b a' b':Option α} (h:LeO a a') (g:LeO b b'):LeO (if c then a else b) (if c then a' else b'):=by
 split
 · exact h
 · exact g
section
variable {src:List UInt8}{ts:List Tok}
theorem aPh {n m:Nat} (ih:∀k s,LeO (run src ts n k s) (run src ts m k s)) (k:Task) (s:PS):LeO (run src ts (n+1) k s) (run src ts (m+1) k s):=by
 cases k<;>simp only[run]<;>
  (repeat (first
    | exact ih _ _
    | exact LeO.refl _
    | apply LeO.ite
    | apply LeO.map
    | (apply LeO.bind)
    | intro _))
theorem aAw:∀(n:Nat) (k:Task) (s:PS),LeO (run src ts n k s) (run src ts (n+1) k s)
 | 0,_,_=>fun r h=>by simp[run] at h
 | n+1,k,s=>aPh (aAw n) k s
theorem aKt {n m:Nat} (h:n≤m) (k:Task) (s:PS):LeO (run src ts n k s) (run src ts m k s):=by
 induction h with
 | refl=>exact LeO.refl _
 | step _ ih=>exact fun r hr=>aAw _ _ _ r (ih r hr)
end
section
variable {src:List UInt8}{ts:List Tok}{s t:PS}
theorem wN:∀{n m:Nat},n≤m→∀(acc:List (List UInt8×Nat)) (s:PS),LeO (aH ts n acc s) (aH ts m acc s)
 | 0,_,_,_,_=>fun r h=>by simp[aH] at h
 | n+1,0,h,_,_=>by omega
 | n+1,m+1,h,acc,s=>by
  simp only[aH];exact LeO.ite (wN (by omega) _ _) (LeO.refl _)
theorem aIh {n m:Nat} (h:n≤m) (s:PS):LeO (bJ src ts n s) (bJ src ts m s):=by
 simp only[bJ];exact LeO.bind (LeO.ite (wN h _ _) (LeO.refl _)) (fun p=>LeO.map (aKt h _ _) _)
theorem aBo:∀{n m:Nat},n≤m→∀(acc:List aD) (s:PS),LeO (bC src ts n acc s) (bC src ts m acc s)
 | 0,_,_,_,_=>fun r h=>by simp[bC] at h
 | n+1,0,h,_,_=>by omega
 | n+1,m+1,h,acc,s=>by
  simp only[bC];exact LeO.ite (LeO.refl _) (LeO.ite (LeO.refl _) (LeO.bind (aIh (by omega) _) (fun r=>aBo (by omega) _ _)))
variable (src ts) in
def aRf (s:PS) (r:aD×PS):Prop:=∃n,bJ src ts n s=some r
variable (src ts) in
def aJp (acc:List aD) (s:PS) (r:List aD×PS):Prop:=∃n,bC src ts n acc s=some r
theorem aPp {acc:List aD}{f:aD×PS}{z:List aD×PS} (he:s.e=0) (h:bA ts 0 s=false) (h1:aRf src ts s f) (h2:aJp src ts (acc++[f.1]) f.2 z):aJp src ts acc s z:=by
 obtain⟨n,a⟩:=h1;obtain⟨m,c⟩:=h2;have a:=aIh (Nat.le_max_left n m) _ _ a;have c:=aBo (Nat.le_max_right n m) _ _ _ c;exact⟨max n m+1,by simp only[bC];rw[if_neg (by simp[he]),if_neg (by rw[h];decide),a];exact c⟩
def s00:PS:=⟨0,[],0,0,0⟩
theorem aLh {l:List UInt8} (hl:nG l = .good ts){z:List aD×PS} (h:aJp l ts [] s00 z):
  parseM l=some (if z.2.e≠0 then .bad z.2.place z.2.e else if 300<z.2.nodes.length∨6<z.1.length∨z.1.any (fun f=>decide (3<f.params.length))=true then .bad 0 4 else .good z.2.nodes z.1):=by
 obtain⟨r,hr⟩:=nQ l;have h2:=hr;unfold parseM at h2;rw[hl] at h2;simp only[lH,mS] at h2;obtain⟨z',hz,e⟩:=h2;obtain⟨n,hn⟩:=h;have a:=aBo (Nat.le_max_left n (dY ts)) _ _ _ hn;have c:=aBo (Nat.le_max_right n (dY ts)) _ _ _ hz;have e2:z=z':=by
  have c:bC l ts (max n (dY ts)) [] s00=some z':=c;rw[a] at c;exact Option.some.inj c
 rw[hr,e2,←e]
end
structure FR (b:Nat) (f f':aD):Prop where
 name:f'.name=f.name
 params:f'.params=f.params
 ret:f'.ret=f.ret
 body:f'.body=f.body+b
section
variable {src src':List UInt8}{ts ts':List Tok}{d m b:Nat}{P:List aF}
theorem iX (ht:aQ ts):∀(n:Nat) (acc:List (List UInt8×Nat)) (s:PS) (p:List (List UInt8×Nat)×PS),aH ts n acc s=some p→EO ts m s→EO ts m p.2
 | 0,_,_,_,h,_=>by simp[aH] at h
 | n+1,acc,s,p,h,hE=>by
  simp only[aH] at h;have h2:=(hE.named ht).typed ht;by_cases i1:pIs ts [44] (aR ts (aC ts s))=true
  · rw[if_pos i1] at h
    exact iX ht n _ _ _ h (h2.iZ ht i1)
  · rw[if_neg i1] at h
    simp only[Option.some.injEq] at h;subst h;exact h2
theorem sV (hm:Mt ts ts' d m) (ht:aQ ts):∀(n:Nat) (acc:List (List UInt8×Nat)) (s s':PS) (p:List (List UInt8×Nat)×PS),aH ts n acc s=some p→S2 ts ts' d m b P s s' →
  EO ts m p.2∨∃p',aH ts' n acc s'=some p'∧bO ts p.2∧Rl ts ts' d m b P p.2 p'.2∧p'.1=p.1
 | 0,_,_,_,_,h,_=>by simp[aH] at h
 | n+1,acc,s,s',p,h,hs=>by
  have h':=h;simp only[aH] at h;rcases hs with hE|⟨ho,hl⟩
  · exact .inl (iX ht _ _ _ _ h' hE)
  · rcases S2.named hm (.inr ⟨ho,hl⟩) ht with hE|⟨ho1,hl1⟩
    · refine .inl ?_
      have h2:=hE.typed ht;by_cases i1:pIs ts [44] (aR ts (aC ts s))=true
      · rw[if_pos i1] at h
        exact iX ht _ _ _ _ h (h2.iZ ht i1)
      · rw[if_neg i1] at h
        simp only[Option.some.injEq] at h;subst h;exact h2
    · have hacc:acc++[(bK ts' s',bQ ts' (aC ts' s'))]=acc++[(bK ts s,bQ ts (aC ts s))]:=by rw[hl.name hm,hl1.type hm]
      have h2:=S2.typed hm (.inr ⟨ho1,hl1⟩) ht;by_cases i1:pIs ts [44] (aR ts (aC ts s))=true
      · rw[if_pos i1] at h
        rcases h2 with hE|⟨ho2,hl2⟩
        · exact .inl (iX ht _ _ _ _ h (hE.iZ ht i1))
        · rcases sV hm ht n _ _ _ _ h (hl2.go (ho2.iZ ht i1)) with hE|⟨p',a,c,e,f⟩
          · exact .inl hE
          · exact .inr ⟨p',by simp only[aH];rw[hl2.is hm,if_pos i1,hacc,a],c,e,f⟩
      · rw[if_neg i1] at h
        simp only[Option.some.injEq] at h;subst h;rcases h2 with hE|⟨ho2,hl2⟩
        · exact .inl hE
        · exact .inr ⟨(acc++[(bK ts s,bQ ts (aC ts s))],aR ts' (aC ts' s')),by simp only[aH];rw[hl2.is hm,if_neg i1,hacc],ho2,hl2,rfl⟩
theorem wW (hm:Mt ts ts' d m) (ht:aQ ts){n:Nat}{s s':PS}{p:List (List UInt8×Nat)×PS} (hs:S2 ts ts' d m b P s s')
   (hp:(if pIs ts [41] (aA ts [40] (aC ts (aA ts [102,110] s)))=false∧(aA ts [40] (aC ts (aA ts [102,110] s))).e=0 then aH ts n [] (aA ts [40] (aC ts (aA ts [102,110] s))) else some ([],aA ts [40] (aC ts (aA ts [102,110] s))))=some p):
   EO ts m (aA ts [41] p.2)∨∃p',(if pIs ts' [41] (aA ts' [40] (aC ts' (aA ts' [102,110] s')))=false∧(aA ts' [40] (aC ts' (aA ts' [102,110] s'))).e=0 then aH ts' n [] (aA ts' [40] (aC ts' (aA ts' [102,110] s'))) else some ([],aA ts' [40] (aC ts' (aA ts' [102,110] s'))))=some p' ∧
     bK ts' (aA ts' [102,110] s')=bK ts (aA ts [102,110] s)∧p'.1=p.1∧bO ts (aA ts [41] p.2)∧Rl ts ts' d m b P (aA ts [41] p.2) (aA ts' [41] p'.2):=by
 have peo:EO ts m (aA ts [40] (aC ts (aA ts [102,110] s)))→EO ts m (aA ts [41] p.2):=fun hE=>by
   refine EO.must ?_ ht _;split at hp
   · exact iX ht _ _ _ _ hp hE
   · simp only[Option.some.injEq] at hp
     subst hp;exact hE
 rcases S2.must hm hs ht [102,110] with hE|⟨ho1,hl1⟩
 · exact .inl (peo ((hE.named ht).must ht _))
 · rcases S2.must hm (S2.named hm (.inr ⟨ho1,hl1⟩) ht) ht [40] with hE|⟨ho3,hl3⟩
   · exact .inl (peo hE)
   · have hfin:∀p',p'.1=p.1→S2 ts ts' d m b P p.2 p'.2→(if pIs ts' [41] (aA ts' [40] (aC ts' (aA ts' [102,110] s')))=false∧(aA ts' [40] (aC ts' (aA ts' [102,110] s'))).e=0 then aH ts' n [] (aA ts' [40] (aC ts' (aA ts' [102,110] s'))) else some ([],aA ts' [40] (aC ts' (aA ts' [102,110] s'))))=some p' →
         EO ts m (aA ts [41] p.2)∨∃p',(if pIs ts' [41] (aA ts' [40] (aC ts' (aA ts' [102,110] s')))=false∧(aA ts' [40] (aC ts' (aA ts' [102,110] s'))).e=0 then aH ts' n [] (aA ts' [40] (aC ts' (aA ts' [102,110] s'))) else some ([],aA ts' [40] (aC ts' (aA ts' [102,110] s'))))=some p' ∧
          bK ts' (aA ts' [102,110] s')=bK ts (aA ts [102,110] s)∧p'.1=p.1∧bO ts (aA ts [41] p.2)∧Rl ts ts' d m b P (aA ts [41] p.2) (aA ts' [41] p'.2):=fun p' h1 h2 h3=>by
       rcases S2.must hm h2 ht [41] with hE|⟨a,c⟩
       · exact .inl hE
       · exact .inr ⟨p',h3,hl1.name hm,h1,a,c⟩
     by_cases hc:pIs ts [41] (aA ts [40] (aC ts (aA ts [102,110] s)))=false∧(aA ts [40] (aC ts (aA ts [102,110] s))).e=0
     · rw[if_pos hc] at hp
       rcases sV hm ht n [] _ _ p hp (.inr ⟨ho3,hl3⟩) with hE|⟨p',a,c,e,f⟩
       · exact .inl (hE.must ht _)
       · exact hfin p' f (.inr ⟨c,e⟩) (by rw[hl3.is hm,hl3.e,if_pos hc,a])
     · rw[if_neg hc] at hp
       simp only[Option.some.injEq] at hp;subst hp;exact hfin ([],aA ts' [40] (aC ts' (aA ts' [102,110] s'))) rfl (.inr ⟨ho3,hl3⟩) (by rw[hl3.is hm,hl3.e,if_neg hc])
theorem aAo (hm:Mt ts ts' d m) (ht:aQ ts){s s':PS} (ho:bO ts s) (hl:Rl ts ts' d m b P s s'):
   (if pIs ts' [123] s'=true then 0 else bQ ts' s')=(if pIs ts [123] s=true then 0 else bQ ts s)∧S2 ts ts' d m b P (if pIs ts [123] s=true then s else aR ts s) (if pIs ts' [123] s'=true then s' else aR ts' s'):=by
 rw[hl.is hm,hl.type hm];refine⟨rfl,?_⟩;by_cases hp:pIs ts [123] s=true
 · rw[if_pos hp,if_pos hp];exact .inr ⟨ho,hl⟩
 · rw[if_neg hp,if_neg hp];exact S2.typed hm (.inr ⟨ho,hl⟩) ht
theorem yB (ht:aQ ts){s:PS} (hE:EO ts m s):EO ts m (if pIs ts [123] s=true then s else aR ts s):=by
 split
 · exact hE
 · exact hE.typed ht
theorem aIi (ht:aQ ts){n:Nat}{s:PS}{fr:aD×PS} (h:bJ src ts n s=some fr) (hE:EO ts m s):EO ts m fr.2:=by
 simp only[bJ,bS,mS] at h;obtain⟨p,hp,q,hq,rfl⟩:=h;refine dM ht _ _ _ _ hq (yB ht (EO.must ?_ ht _));have h3:=((hE.must ht [102,110]).named ht).must ht [40];split at hp
 · exact iX ht _ _ _ _ hp h3
 · simp only[Option.some.injEq] at hp
   subst hp;exact h3
theorem aMd (hm:Mt ts ts' d m) (hP:P.length=b) (ht:aQ ts){n:Nat}{s s':PS}{fr:aD×PS} (h:bJ src ts n s=some fr) (hs:S2 ts ts' d m b P s s'):
   EO ts m fr.2∨∃fr',bJ src' ts' n s'=some fr'∧bO ts fr.2∧Rl ts ts' d m b P fr.2 fr'.2∧(fr.2.e=0→FR b fr.1 fr'.1):=by
 rcases hs with hE|⟨ho,hl⟩
 · exact .inl (aIi ht h hE)
 simp only[bJ,bS,mS] at h;obtain⟨p,hp,q,hq,rfl⟩:=h;rcases wW hm ht (.inr ⟨ho,hl⟩) hp with hE|⟨p',hp',hn,h1,ho4,hl4⟩
 · exact .inl (dM ht _ _ _ _ hq (yB ht hE))
 · obtain⟨hty,hs5⟩:=aAo hm ht ho4 hl4
   rcases hs5 with hE|⟨ho5,hl5⟩
   · exact .inl (dM ht _ _ _ _ hq hE)
   · rcases aFw (src':=src') hm hP ht n _ _ _ hq .block _ TR.block ho5 hl5 with hE|⟨q',hq',a,c,e⟩
     · exact .inl hE
     · refine .inr ⟨(⟨bK ts' (aA ts' [102,110] s'),aS src' ts' s',p'.1,(if pIs ts' [123] (aA ts' [41] p'.2)=true then 0 else bQ ts' (aA ts' [41] p'.2)),q'.1.headD 0⟩,q'.2),?_,a,c,fun e0=>⟨hn,h1,hty,pK (aK _ _ _ _ hq trivial) (e e0)⟩⟩
       simp only[bJ];rw[hp'];simp only[Option.bind_some];rw[hq'];rfl
theorem aPu (ht:aQ ts):∀(n:Nat) (acc:List aD) (s:PS) (r:List aD×PS),bC src ts n acc s=some r→EO ts m s→EO ts m r.2:=by
 intro n;induction n with
 | zero=>intro acc s r h;simp[bC] at h
 | succ n ih=>
  intro acc s r h hE;simp only[bC] at h;split at h
  · simp only[Option.some.injEq] at h;subst h;exact hE
  · split at h
    · simp only[Option.some.injEq] at h;subst h;exact hE
    · simp only[bS] at h
      obtain⟨f,hf,h⟩:=h;exact ih _ _ _ h (aIi ht hf hE)
theorem aIm (hm:Mt ts ts' d ts.length) (hP:P.length=b) (ht:aQ ts):∀(n:Nat) (acc acc':List aD) (s s':PS) (r:List aD×PS),bC src ts n acc s=some r→r.2.e=0→bO ts s→Rl ts ts' d ts.length b P s s' →
  ∃fs gs s2,r.1=acc++fs∧bC src' ts' n acc' s'=some (acc'++gs,s2)∧Rl ts ts' d ts.length b P r.2 s2∧fs.length=gs.length∧∀(i:Nat) (f g:aD),fs[i]?=some f→gs[i]?=some g→FR b f g
 | 0,_,_,_,_,_,h,_,_,_=>by simp[bC] at h
 | n+1,acc,acc',s,s',r,h,hr,ho,hl=>by
  simp only[bC] at h;by_cases he:s.e≠0
  · rw[if_pos he] at h
    simp only[Option.some.injEq] at h;subst h;exact absurd hr he
  · rw[if_neg he] at h
    by_cases hk:bA ts 0 s=true
    · rw[if_pos hk] at h
      simp only[Option.some.injEq] at h;subst h;exact⟨[],[],s',by simp,by simp only[bC];rw[if_neg (by rw[hl.e];exact he),hl.kind hm,if_pos hk];simp,hl,rfl,fun i f g h=>by simp at h⟩
    · rw[if_neg hk] at h
      simp only[bS] at h;obtain⟨f,hf,h⟩:=h;have hno:∀{t:PS},EO ts ts.length t→t.e=0→False:=fun hE h0=>by
        rcases hE.esc with ⟨_,hi⟩|⟨h1,_⟩
        · have:=hE.ok.room;omega
        · exact h1 h0
      rcases aMd (src':=src') hm hP ht hf (.inr ⟨ho,hl⟩) with hE|⟨f',hf',a,c,hfr⟩
      · exact (hno (aPu ht _ _ _ _ h hE) hr).elim
      · obtain⟨fs,gs,s2,e1,e2,e3,e4,e5⟩:=aIm hm hP ht n _ (acc'++[f'.1]) _ f'.2 _ h hr a c
        have hf0:f.2.e=0:=(kF _ _ _ _ h).e0 hr;refine⟨f.1 :: fs,f'.1 :: gs,s2,by rw[e1];simp,?_,e3,by simp[e4],fun i x y hx hy=>?_⟩
        · simp only[bC]
          rw[if_neg (by rw[hl.e];exact he),hl.kind hm,if_neg hk,hf'];simp only[Option.bind_some];rw[e2];simp
        · cases i with
          | zero=>simp at hx hy;subst hx;subst hy;exact hfr hf0
          | succ i=>exact e5 i x y (by simpa using hx) (by simpa using hy)
end
def Tok.from (t:Tok):Nat:=if t.kind=2 then t.place+1 else t.place
def aQq (r:List UInt8):Prop:=r=[]∨∃r',r=10 :: r'
theorem qB (q:Int→Bool) (x r:List UInt8) (h:runN q x<x.length):runN q (x++r)=runN q x:=by
 induction x with
 | nil=>simp at h
 | cons a x ih=>
  unfold runN at ih h ⊢;rw[List.cons_append,List.takeWhile_cons];rw[List.takeWhile_cons] at h ⊢;by_cases ha:q a.toNat=true
  · rw[if_pos ha] at h ⊢
    rw[if_pos ha,List.length_cons,List.length_cons];rw[List.length_cons,List.length_cons] at h;rw[ih (by omega)]
  · rw[if_neg ha,if_neg ha]
theorem aCu (q:Int→Bool) (x:List UInt8) (h:¬runN q x<x.length):∀b∈x,q b.toNat=true:=by
 induction x with
 | nil=>intro b hb;cases hb
 | cons a x ih=>
  unfold runN at ih h;rw[List.takeWhile_cons] at h;by_cases ha:q a.toNat=true
  · rw[if_pos ha,List.length_cons,List.length_cons] at h
    intro b hb;rcases List.mem_cons.1 hb with rfl|hb
    · exact ha
    · exact ih (by omega) b hb
  · rw[if_neg ha] at h;simp at h
theorem uH (q:Int→Bool) (x r:List UInt8) (hq:q ((10:UInt8).toNat:Int)=false) (hr:aQq r):runN q (x++r)=runN q x:=by
 by_cases h:runN q x<x.length
 · exact qB q x r h
 · have ha:=aCu q x h
   rw[yL q x r ha,aNq q x ha];rcases hr with rfl|⟨r',rfl⟩
   · rfl
   · rw[aGa q 10 r' hq];rfl
theorem fF (x r:List UInt8){k:Nat} (h:k<x.length):aT (x++r) k=aT x k:=by
 unfold aT;rw[List.getD,List.getD,List.getElem?_append_left h]
theorem yC (c:UInt8):aMx [c,10]=false:=by
 unfold aMx isIn;apply decide_eq_false
 intro h;simp[iV] at h
theorem aEg {x r:List UInt8}{k o m n:Nat} (h0:0<x.length) (h:firstM x = .ok k o m n) (hr:aQq r):firstM (x++r) = .ok k o m n:=by
 unfold firstM at h ⊢;rw[fF x r h0];split at h
 · rename_i hd
   rw[if_pos hd];unfold iB at h ⊢;rw[uH bD x r (by decide) hr,List.take_append_of_le_length (gX bD x)];exact h
 · rename_i hd
   rw[if_neg hd];split at h
   · rename_i hl
     rw[if_pos hl];unfold oP at h ⊢;rw[uH aY x r (by decide) hr,List.take_append_of_le_length (gX aY x)];exact h
   · rename_i hl
     rw[if_neg hl];split at h
     · rename_i ht
       rw[if_pos ht];unfold lC at h ⊢;rw[List.drop_append_of_le_length (by omega)];by_cases hc:x.length≤runN bU (x.drop 1)+1∨aT x (runN bU (x.drop 1)+1)≠34
       · rw[if_pos hc] at h;cases h
       · rw[if_neg hc] at h
         have h1:¬x.length≤runN bU (x.drop 1)+1:=fun e=>hc (.inl e)
         have h2:¬aT x (runN bU (x.drop 1)+1)≠34:=fun e=>hc (.inr e)
         rw[qB bU (x.drop 1) r (by rw[List.length_drop];omega),fF x r (by omega),if_neg]
         · exact h
         · rintro (e|e)
           · rw[List.length_append] at e;omega
           · exact h2 e
     · rename_i ht
       rw[if_neg ht];unfold iW at h ⊢;rw[fF x r h0];by_cases h2:1<x.length∧aMx (x.take 2)=true
       · rw[if_pos h2] at h
         rw[List.take_append_of_le_length (by omega),List.length_append,if_pos ⟨by omega,h2.2⟩];exact h
       · rw[if_neg h2] at h
         by_cases h1:aLk (aT x 0)=true
         · rw[if_pos h1] at h ⊢
           rw[if_neg]
           · exact h
           · rintro⟨e1,e2⟩
             by_cases hx2:1<x.length
             · rw[List.take_append_of_le_length (by omega)] at e2
               exact h2 ⟨hx2,e2⟩
             have hx1:x.length=1:=by omega
             rcases hr with rfl|⟨r',rfl⟩
             · rw[List.append_nil] at e1;omega
             · match x,hx1 with
               | [c],_=>
                rw[show ([c]++10 :: r').take 2=[c,10] from rfl,yC] at e2;cases e2
         · rw[if_neg h1] at h;cases h
theorem sH (l:List UInt8):bP l=true↔[47,47] <+: l:=by
 unfold bP Lib.hasPrefix;exact List.isPrefixOf_iff_prefix
theorem aCz {x r:List UInt8} (h0:0<x.length) (h:bP x=false) (hr:aQq r):bP (x++r)=false:=by
 rcases hr with rfl|⟨r',rfl⟩
 · rwa [List.append_nil]
 · unfold bP Lib.hasPrefix at h ⊢
   match x,h0 with
   | [a],_=>simp[List.isPrefixOf]
   | a :: b :: y,_=>simpa[List.isPrefixOf] using h
theorem aBw (r:List UInt8):eO (aT (10 :: r) 0)=true:=by rw[zZ];decide
theorem aLr (b:List UInt8):∀(n:Nat) (l:List UInt8) (p:Nat) (K:List Tok),l.length≤n→lexFrom l p = .good K→K≠[]∧lexFrom (l++10 :: b) p=(lexFrom b (p+l.length+1)).pre K.dropLast:=by
 intro n;induction n with
 | zero=>
  intro l p K h hl;have:l=[]:=List.eq_nil_of_length_eq_zero (by omega);subst this;rw[lex_nil] at hl;injection hl with hl;subst hl;refine⟨by simp,?_⟩;rw[List.nil_append,eZ (by simp) (aBw b),show List.dropLast [(⟨0,[],p⟩:Tok)]=[] from rfl,pre_nil];rfl
 | succ n ih=>
  intro l p K h;refine kU (Mo:=fun l p=>l.length≤n+1→lexFrom l p = .good K→K≠[]∧lexFrom (l++10 :: b) p=(lexFrom b (p+l.length+1)).pre K.dropLast) l p ?_ ?_ ?_ ?_ ?_ h
  · intro _ _ hl
    rw[lex_nil] at hl;injection hl with hl;subst hl;refine⟨by simp,?_⟩;rw[List.nil_append,eZ (by simp) (aBw b),show List.dropLast [(⟨0,[],_⟩:Tok)]=[] from rfl,pre_nil];rfl
  · intro h0 hb h hl
    rw[eZ h0 hb] at hl;obtain⟨a1,a2⟩:=ih _ _ K (by rw[List.length_drop];omega) hl;refine⟨a1,?_⟩;rw[eZ (by rw[List.length_append];omega) (by rw[fF _ _ h0];exact hb),List.drop_append_of_le_length (by omega),a2,List.length_drop];congr 2
    omega
  · intro h0 hb hr h1 h hl
    rw[fE h0 hb hr] at hl;obtain⟨a1,a2⟩:=ih _ _ K (by rw[List.length_drop];omega) hl;refine⟨a1,?_⟩;have hle:=gX bR l;have hrn:runN bR (l++10 :: b)=runN bR l:=uH bR l _ (by decide) (.inr ⟨_,rfl⟩);have hr2:bP (l++10 :: b)=true:=(sH _).2 (((sH _).1 hr).trans (List.prefix_append _ _));rw[fE (by rw[List.length_append];omega) (by rw[fF _ _ h0];exact hb) hr2,hrn,List.drop_append_of_le_length hle,a2,List.length_drop];congr 2
    omega
  · intro e h0 hb hr hf _ hl
    rw[jY h0 hb hr hf] at hl;cases hl
  · intro k o m n' h0 hb hr hf h hl
    obtain⟨hn1,hn2,hom⟩:=gI h0 hf;rw[mR h0 hb hr hf] at hl;cases hx:lexFrom (l.drop n') (p+n') with
    | bad i e'=>rw[hx] at hl;cases hl
    | good J=>
     rw[hx] at hl;injection hl with hl;subst hl;obtain⟨a1,a2⟩:=ih _ _ J (by rw[List.length_drop];omega) hx;refine⟨by simp,?_⟩;have hend:aQq (10 :: b):= .inr ⟨_,rfl⟩;rw[mR (by rw[List.length_append];omega) (by rw[fF _ _ h0];exact hb) (aCz h0 hr hend) (aEg h0 hf hend),List.drop_append_of_le_length hn2,a2,
      List.singleton_append,List.dropLast_cons_of_ne_nil a1,List.drop_append_of_le_length (by omega),List.take_append_of_le_length (by rw[List.length_drop];omega),zD,List.length_drop,List.singleton_append]
     congr 2
     omega
end Go.Proofs.YtlbjicjinnnboaaGreatDoor
