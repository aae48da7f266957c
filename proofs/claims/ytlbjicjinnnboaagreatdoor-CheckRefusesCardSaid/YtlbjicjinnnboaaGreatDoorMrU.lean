/- MrU: RlE, BwL, CrJ, ChE, CkSim, CkSim2, CrA, CrB, QLaid. -/
import Derived.Test.YtlbjicjinnnboaaGreatDoorUShelf
import Derived.Test.YtlbjicjinnnboaaGreatDoorMrT
import Derived.Test.YtlbjicjinnnboaaGreatDoorMrJ
import Derived.Test.YtlbjicjinnnboaaGreatDoorMrP
import Derived.Test.YtlbjicjinnnboaaGreatDoorMrO
import Derived.Test.YtlbjicjinnnboaaGreatDoorMrN
import Derived.Test.YtlbjicjinnnboaaGreatDoorRows
import Derived.ProofKit
import Derived.OpenShut
import Derived.LaidMore
import Derived.Lay
import Derived.HandedShaped
import Derived.Stop.Joined
set_option linter.unusedVariables false
set_option linter.unusedSimpArgs false
/- Two sources, one behind the other. -/
namespace Go.Proofs.YtlbjicjinnnboaaGreatDoor
open Go.RowKit Go.Proofs.Tryz
variable {s:PS}
structure Rw (d m b:Nat) (P:List aH) (s s':PS):Prop where
 e:s.e=0
 e':s'.e=0
 deep:s'.deep=s.deep
 i:s'.i=s.i+d
 nodes:s'.nodes.map zlN=P++s.nodes.map (shN b)
 le:s.i≤m
section
variable {src src':List UInt8}{ts ts':List Tok}{d m b:Nat}{P:List aH}
theorem Rw.rl {s':PS} (h:Rw d m b P s s') (hi:s.i<m):Rl ts ts' d m b P s s':=⟨by rw[h.e,h.e'],h.deep,λ_=>h.i,λ_=>h.nodes,λhe=>absurd h.e he,λ_=>hi⟩
theorem zR (hl:m+1=ts.length) (hz:(ts.getD m mK).kind=0) (hE:EO ts m s) (h0:s.e=0):(bF ts s).kind=0:=by
 rcases hE.esc with ⟨_,hi⟩|⟨h1,_⟩
 . have:=hE.ok.room
   have e:s.i=m:=by omega
   unfold bF;rw[e];exact hz
 . exact absurd h0 h1
theorem aBg (hl:m+1=ts.length) (hz:(ts.getD m mK).kind=0){n:Nat}{q:List Nat×PS} (hE:EO ts m s) (h:run src ts n .block s=some q):q.2.e≠0:=by
 by_cases h0:s.e=0
 . have hk:=zR hl hz hE h0
   cases n with
   | zero=>simp[run] at h
   | succ n=>
    simp only[run] at h;rw[if_neg (λe=>(aL e).2.1 hk)] at h;simp only[Option.some.injEq] at h;subst h;exact uE 20 (by decide) _
 . rw[((aI _ _ _ _ h).err h0).1];exact h0
theorem aOk {x:List UInt8} (h:(aA ts x s).e=0):pIs ts x s=true:=by
 by_cases hp:pIs ts x s=true
 . exact hp
 . unfold aA at h
   rw[if_neg hp] at h;exact absurd h (uE 20 (by decide) _)
theorem aQd (hm:Mt ts ts' d m) (hP:P.length=b) (ht:aO ts) (hl:m+1=ts.length) (hz:(ts.getD m mK).kind=0){n:Nat}{s':PS}{fr:aD×PS} (h:bO src ts n s=some fr) (h0:fr.2.e=0) (ho:bT ts s) (hs:Rl ts ts' d m b P s s'):
   ∃fr',bO src' ts' n s'=some fr'∧bT ts fr.2∧Rw d m b P fr.2 fr'.2∧FR b fr.1 fr'.1:=by
 simp only[bO,bS,mS] at h;obtain⟨p,hp,q,hq,rfl⟩:=h;have h0:q.2.e=0:=h0;rcases wV hm ht (.inr ⟨ho,hs⟩) hp with hE|⟨p',hp',hn,h1,ho4,hl4⟩
 . exact absurd h0 (aBg hl hz (xV ht hE) hq)
 . obtain⟨hty,hs5⟩:=aAg hm ht ho4 hl4
   rcases hs5 with hE|⟨ho5,hl5⟩
   . exact absurd h0 (aBg hl hz hE hq)
   . generalize hs5:(if pIs ts [123] (aA ts [41] p.2)=true then aA ts [41] p.2 else bC ts (aA ts [41] p.2))=s5 at *
     generalize hs5':(if pIs ts' [123] (aA ts' [41] p'.2)=true then aA ts' [41] p'.2 else bC ts' (aA ts' [41] p'.2))=s5' at *;have hq0:=hq;cases n with
     | zero=>simp[run] at hq
     | succ n=>
      simp only[run] at hq;by_cases i1:pIs ts [123] s5=true
      . rw[if_pos i1] at hq
        simp only[mS] at hq;obtain⟨u,hu,rfl⟩:=hq;have hue:(aA ts [125] u.2).e=0:=h0;have hip:=aOk hue;rcases S2.must hm (S2.eZ (.inr ⟨ho5,hl5⟩) ht i1) ht [123] with hE|⟨ho6,hl6⟩
        . exact absurd (zR hl hz (dZ ht _ _ _ _ hu hE) (aL hip).1) (aL hip).2.1
        . rcases aFq (src':=src') hm hP ht n _ _ _ hu (.stmts []) _ (TR.stmts [] [] (λ_=>rfl)) ho6 hl6 with hE|⟨u',hu',a,c,e⟩
          . exact absurd (zR hl hz hE (aL hip).1) (aL hip).2.1
          . have hu0:=(aL hip).1
            have hip':pIs ts' [125] u'.2=true:=by rw[c.is hm];exact hip
            have e1:aA ts [125] u.2=pGo u.2:=by unfold aA;rw[if_pos hip]
            have e2:aA ts' [125] u'.2=pGo u'.2:=by unfold aA;rw[if_pos hip']
            have hlen:=congrArg List.length (c.nodes hu0);simp only[List.length_map,List.length_append] at hlen;have hru':run src' ts' (n+1) .block s5'=some (bY 18 (aR src' ts' s5') 0 [] u'.1 (pUp (aA ts' [125] u'.2))):=by
              simp only[run];rw[hl5.is hm,if_pos i1,hu'];rfl
            refine⟨(⟨dH ts' (aA ts' [102,110] s'),aR src' ts' s',p'.1,(if pIs ts' [123] (aA ts' [41] p'.2)=true then 0 else eF ts' (aA ts' [41] p'.2)),(bY 18 (aR src' ts' s5') 0 [] u'.1 (pUp (aA ts' [125] u'.2))).1.headD 0⟩,(bY 18 (aR src' ts' s5') 0 [] u'.1 (pUp (aA ts' [125] u'.2))).2),?_,?_,?_,⟨hn,h1,hty,?_⟩⟩
            . simp only[bO]
              rw[hp'];simp only[Option.bind_some];rw[hs5',hru'];rfl
            . rw[e1]
              exact ((a.kE ht hip).up).put ..
            . rw[e1,e2]
              refine⟨hu0,by show u'.2.e=0;rw[c.e];exact hu0,by show u'.2.deep - 1=u.2.deep - 1;rw[c.deep],by show u'.2.i+1=u.2.i+1+d;have:=c.i hu0;omega,?_,by show u.2.i+1≤m;have:=c.lt hu0;omega⟩
              show (u'.2.nodes++[_]).map zlN=P++(u.2.nodes++[_]).map (shN b)
              rw[List.map_append,List.map_append,c.nodes hu0,List.append_assoc,e hu0];rfl
            . rw[e1,e2]
              show u'.2.nodes.length=u.2.nodes.length+b
              rw[hlen,hP,Nat.add_comm]
      . rw[if_neg i1] at hq
        simp only[Option.some.injEq] at hq;subst hq;exact absurd h0 (uE 20 (by decide) _)
theorem aQe (hm:Mt ts ts' d m) (hP:P.length=b) (ht:aO ts) (hl:m+1=ts.length) (hz:(ts.getD m mK).kind=0) (hnz:∀i,i<m->(ts.getD i mK).kind≠0):∀(n:Nat) (acc acc':List aD) (s s':PS) (r:List aD×PS),bA src ts n acc s=some r->r.2.e=0->bT ts s->Rw d m b P s s' ->
  ∃fs gs s2,r.1=acc++fs∧Rw d m b P r.2 s2∧r.2.i=m∧fs.length=gs.length∧(∀(i:Nat) (f g:aD),fs[i]?=some f->gs[i]?=some g->FR b f g)∧(aO ts'->bT ts' s'->bT ts' s2)∧∀z,aJh src' ts' (acc'++gs) s2 z->aJh src' ts' acc' s' z
 | 0,_,_,_,_,_,h,_,_,_=>by simp[bA] at h
 | n+1,acc,acc',s,s',r,h,hr,ho,hw=>by
  simp only[bA] at h;rw[if_neg (by simp[hw.e])] at h;by_cases hk:bB ts 0 s=true
  . rw[if_pos hk] at h
    simp only[Option.some.injEq] at h;subst h;refine⟨[],[],s',by simp,hw,?_,rfl,λi f g h=>by simp at h,λ_ h=>h,λz hz=>by simpa using hz⟩;by_cases hi:s.i<m
    . exact absurd (aM hk).2 (hnz _ hi)
    . have:=hw.le;show s.i=m;omega
  . rw[if_neg hk] at h
    simp only[bS] at h;obtain⟨f,hf,h⟩:=h;have hi:s.i<m:=by
      by_cases hi:s.i<m
      . exact hi
      . have e:s.i=m:=by have:=hw.le;omega
        refine absurd ?_ hk;unfold bB bF;rw[e,hz,hw.e];rfl
    have hf0:f.2.e=0:=(kQ _ _ _ _ h).e0 hr;obtain⟨f',hf',a,c,hfr⟩:=aQd (src':=src') hm hP ht hl hz hf hf0 ho (hw.rl hi);obtain⟨fs,gs,s2,e1,e2,e3,e4,e5,e7,e6⟩:=aQe hm hP ht hl hz hnz n _ (acc'++[f'.1]) _ f'.2 _ h hr a c;refine⟨f.1 :: fs,f'.1 :: gs,s2,by rw[e1];simp,e2,e3,by simp[e4],λi x y hx hy=>?_,λht' hs'=>e7 ht' (vH ht' hf' hs').1,λz hz2=>?_⟩
    . cases i with
      | zero=>simp at hx hy;subst hx;subst hy;exact hfr
      | succ i=>exact e5 i x y (by simpa using hx) (by simpa using hy)
    . have hk':bB ts' 0 s'=false:=by rw[(hw.rl (ts:=ts) (ts':=ts') hi).kind hm];simpa using hk
      exact aPz hw.e' hk' ⟨n,hf'⟩ (e6 z (by simpa using hz2))
theorem qU:∀(n:Nat) (acc:List (List UInt8×Nat)) (s:PS) (p:List (List UInt8×Nat)×PS),aJ ts n acc s=some p->p.2.deep=s.deep
 | 0,_,_,_,h=>by simp[aJ] at h
 | n+1,acc,s,p,h=>by
  have ht:∀s,(bC ts s).deep=s.deep:=λs=>by unfold bC;split;exact fB 20 s;rfl
  simp only[aJ] at h;split at h
  . have:=qU n _ _ _ h
    rw[this,kR,ht,fA]
  . simp only[Option.some.injEq] at h
    subst h
    show (bC ts (aF ts s)).deep=s.deep
    rw[ht,fA]
theorem aBb:∀(n:Nat) (acc:List aD) (s:PS) (r:List aD×PS),bA src ts n acc s=some r->r.2.deep=s.deep
 | 0,_,_,_,h=>by simp[bA] at h
 | n+1,acc,s,r,h=>by
  simp only[bA] at h;split at h
  . simp only[Option.some.injEq] at h;subst h;rfl
  . split at h
    . simp only[Option.some.injEq] at h;subst h;rfl
    . simp only[bS] at h
      obtain⟨f,hf,h⟩:=h;rw[aBb n _ _ _ h];simp only[bO,bS,mS] at hf;obtain⟨p,hp,q,hq,rfl⟩:=hf;have ht:∀s,(bC ts s).deep=s.deep:=λs=>by unfold bC;split;exact fB 20 s;rfl
      have h1:=iA _ _ _ _ hq;have h2:p.2.deep=s.deep:=by
        split at hp
        . rw[qU _ _ _ _ hp,aX,fA,aX]
        . simp only[Option.some.injEq] at hp
          subst hp
          show (aA ts [40] (aF ts (aA ts [102,110] s))).deep=_
          rw[aX,fA,aX]
      show q.2.deep=s.deep
      rw[h1];split
      . rw[aX,h2]
      . rw[ht,aX,h2]
end
theorem aHt {a:List UInt8}{ns:List aH}{fs:List aD} (h:parseM a=some (.good ns fs)):∃ts q,nP a = .good ts∧bA a ts (eY ts) [] s00=some q∧q.2.e=0∧ns=q.2.nodes∧fs=q.1:=by
 unfold parseM at h;cases hl:nP a with
 | bad p e=>rw[hl] at h;simp at h
 | good ts=>
  rw[hl] at h;simp only[mF,mS] at h;obtain⟨q,hq,h⟩:=h;split at h
  . cases h
  . rename_i he
    split at h
    . cases h
    . injection h with h1 h2
      exact⟨ts,q,rfl,hq,by omega,h1.symm,h2.symm⟩
theorem aJx {a:List UInt8}{ts:List Tok} (h:nP a = .good ts):∃K q,ts=K++[⟨0,[],q⟩]∧∀t∈K,t.kind≠0:=by
 unfold nP at h;split at h
 . cases h
 . exact (rA a.length a 0 600 ts (Nat.le_refl _) (by omega) h).2.2
theorem vF {K J:List Tok}{i:Nat} (h:i<K.length):(K++J).getD i mK=K.getD i mK:=by
 rw[List.getD,List.getD,List.getElem?_append_left h]
theorem wX {K J:List Tok}{i:Nat}:(K++J).getD (i+K.length) mK=J.getD i mK:=by
 rw[List.getD,List.getD,List.getElem?_append_right (by omega),Nat.add_sub_cancel]
theorem uN {ts:List Tok} (ht:aO ts):bT ts s00:=⟨ht.pos,by decide,λ_=>by decide,by decide,by decide⟩
namespace Pw
def PB (n0 L:Nat) (ns:List aH):Prop:=n0≤ns.length∧∀(i:Nat) (nd:aH),n0≤i->ns[i]?=some nd->nd.line=L
theorem fF {n0 L k line n:Nat}{name:List UInt8}{l:List Nat}{s:PS} (h:PB n0 L s.nodes) (hL:line=L):PB n0 L (bY k line n name l s).2.nodes:=by
 refine⟨by show n0≤(s.nodes++[_]).length;have:=h.1;simp;omega,λi nd hi hx=>?_⟩;have hx:(s.nodes++[⟨k,line,n,name,l⟩])[i]?=some nd:=hx;by_cases h1:i<s.nodes.length
 . rw[List.getElem?_append_left h1] at hx;exact h.2 i nd hi hx
 . rw[List.getElem?_append_right (by omega)] at hx
   by_cases e:i - s.nodes.length=0
   . rw[e] at hx;injection hx with hx;subst hx;exact hL
   . rw[List.getElem?_eq_none (by simp;omega)] at hx;cases hx
def preB (L:Nat) (k:Task):Prop:=match k with
 | .more _ line _=>line=L
 | .named line=>line=L
 | _=>True
section
variable {src:List UInt8}{ts:List Tok}{m n0 L:Nat}
theorem aNa (hT:∀s,bT ts s->m≤s.i->aR src ts s=L) (ht:aO ts):∀(n:Nat) (k:Task) (s:PS) (r:List Nat×PS),run src ts n k s=some r->bT ts s->r.2.e=0->m≤s.i->PB n0 L s.nodes->preB L k->PB n0 L r.2.nodes:=by
 intro n;induction n with
 | zero=>intro k s r h;simp[run] at h
 | succ n ih=>
  intro k s r h hs he hi hw hp;have hL:=hT s hs hi;have ih2:∀{k:Task} {t:PS} {r:List Nat×PS} {ns:List aH},run src ts n k t=some r->bT ts t->r.2.e=0->t.nodes=ns->PB n0 L ns->Ext s t->preB L k->PB n0 L r.2.nodes:=λh1 h2 h3 h4 h5 h6 h7=>ih _ _ _ h1 h2 h3 (Nat.le_trans hi h6.i) (by rw[h4];exact h5) h7
  cases k with
  | atom=>
   simp only[run] at h;split at h
   . rename_i h0
     simp only[Option.some.injEq] at h;subst h;exact absurd he h0
   . rename_i h0
     have h0:s.e=0:=by simpa using h0
     split at h
     . simp only[Option.some.injEq] at h;subst h
       exact fF hw hL
     . split at h
       . simp only[Option.some.injEq] at h;subst h;exact fF hw hL
       . split at h
         . rename_i h3
           split at h
           . rename_i hx
             simp only[mS] at h;obtain⟨q,hq,rfl⟩:=h;have e1:q.2.e=0:=((Ext.refl q.2).must (ts:=ts) [93]).e0 he;have a:=ih2 hq (((hs.gM ht h3 (by omega)).down ht h0).must ht _) e1 (by rw[aB,bK];rfl) hw (by repeat (first|exact Ext.refl _|apply Ext.must|apply Ext.go|apply Ext.down|apply Ext.up|apply Ext.named|apply Ext.typed)) trivial;exact fF (s:=pUp (aA ts [93] q.2)) (by show PB n0 L (aA ts [93] q.2).nodes;rw[aB];exact a) hL
           . simp only[Option.some.injEq] at h;subst h;exact fF hw hL
         . split at h
           . simp only[Option.some.injEq] at h;subst h;exact fF hw hL
           . split at h
             . simp only[Option.some.injEq] at h;subst h;exact fF hw hL
             . split at h
               . rename_i hl
                 split at h
                 . simp only[mS] at h
                   obtain⟨q,hq,rfl⟩:=h;have e1:q.2.e=0:=((Ext.refl q.2).must (ts:=ts) [41]).e0 he;have a:=ih2 hq (((hs.kE ht hl).down ht h0).must ht _) e1 (by rw[aB,bK];rfl) hw (by repeat (first|exact Ext.refl _|apply Ext.must|apply Ext.go|apply Ext.down|apply Ext.up|apply Ext.named|apply Ext.typed)) trivial;exact fF (s:=pUp (aA ts [41] q.2)) (by show PB n0 L (aA ts [41] q.2).nodes;rw[aB];exact a) hL
                 . simp only[Option.some.injEq] at h;subst h;exact (mH (by decide) he).elim
               . split at h
                 . simp only[mS] at h
                   obtain⟨q,hq,rfl⟩:=h;have e1:q.2.e=0:=((Ext.refl q.2).must (ts:=ts) [41]).e0 he;have a:=ih2 hq ((hs.down ht h0).must ht _) e1 (by rw[aB,bK]) hw (by repeat (first|exact Ext.refl _|apply Ext.must|apply Ext.go|apply Ext.down|apply Ext.up|apply Ext.named|apply Ext.typed)) trivial
                   show PB n0 L (aA ts [41] q.2).nodes;rw[aB];exact a
                 . simp only[Option.some.injEq] at h;subst h;exact (mH (by decide) he).elim
  | factor=>
   simp only[run] at h;split at h
   . rename_i hx
     simp only[mS] at h;obtain⟨q,hq,rfl⟩:=h;have a:=ih2 hq (hs.goDown ht hx) he (show (aU ts s).nodes=s.nodes from bK s) hw (by repeat (first|exact Ext.refl _|apply Ext.must|apply Ext.go|apply Ext.down|apply Ext.up|apply Ext.named|apply Ext.typed)) trivial;exact fF (s:=pUp q.2) a hL
   . split at h
     . rename_i hx
       simp only[mS] at h;obtain⟨q,hq,rfl⟩:=h;have a:=ih2 hq (hs.goDown ht hx) he (show (aU ts s).nodes=s.nodes from bK s) hw (by repeat (first|exact Ext.refl _|apply Ext.must|apply Ext.go|apply Ext.down|apply Ext.up|apply Ext.named|apply Ext.typed)) trivial;exact fF (s:=pUp q.2) a hL
     . exact ih _ _ _ h hs he hi hw trivial
  | chain lv=>
   simp only[run] at h;split at h
   . exact ih _ _ _ h hs he hi hw trivial
   . simp only[bS] at h
     obtain⟨q,hq,h⟩:=h;have e1:q.2.e=0:=(aI _ _ _ _ h).e0 he;have a:=ih2 hq hs e1 rfl hw (Ext.refl s) trivial;exact ih _ _ _ h (fJ ht _ _ _ _ hq hs) he (Nat.le_trans hi (aI _ _ _ _ hq).i) a hL
  | more lv line x=>
   have hp:line=L:=hp;simp only[run] at h;split at h
   . simp only[Option.some.injEq] at h;subst h
     exact hw
   . rename_i hx
     simp only[bS] at h;obtain⟨q,hq,h⟩:=h;have hok:=fJ ht _ _ _ _ hq (hs.kD ht hx);have hgo:Ext s (pGo s):=(Ext.refl s).go;split at h
     . simp only[Option.some.injEq] at h;subst h
       exact fF (ih2 hq (hs.kD ht hx) he (show (pGo s).nodes=s.nodes from rfl) hw hgo trivial) hp
     . have e1:q.2.e=0:=(aI _ _ _ _ h).e0 he
       have a:=ih2 hq (hs.kD ht hx) e1 (show (pGo s).nodes=s.nodes from rfl) hw hgo trivial;exact ih _ _ _ h (hok.put 9 line 0 (fC ts lv s) [x,q.1.headD 0]) he (Nat.le_trans hi (hgo.trans (aI _ _ _ _ hq)).i) (fF (k:=9) (line:=line) a hp) hp
  | args l=>
   simp only[run,bS] at h;obtain⟨q,hq,h⟩:=h;have hok:=fJ ht _ _ _ _ hq hs;have hle:=aI _ _ _ _ hq;split at h
   . rename_i hx
     have e1:q.2.e=0:=(aL hx).1;have a:=ih2 hq hs e1 rfl hw (Ext.refl s) trivial;exact ih _ _ _ h (hok.kE ht hx) he (Nat.le_trans hi hle.go.i) a trivial
   . simp only[Option.some.injEq] at h;subst h
     have a:=ih2 hq hs he rfl hw (Ext.refl s) trivial;exact a
  | call=>
   simp only[run,mS] at h;obtain⟨q,hq,rfl⟩:=h;have e1:q.2.e=0:=((Ext.refl q.2).must (ts:=ts) [41]).e0 he;have hw2:PB n0 L (aA ts [40] (aF ts s)).nodes:=by rw[aB,bG];exact hw
   have key:PB n0 L q.2.nodes:=by
     split at hq
     . exact ih2 hq ((hs.named ht).must ht _) e1 rfl hw2 (by repeat (first|exact Ext.refl _|apply Ext.must|apply Ext.go|apply Ext.down|apply Ext.up|apply Ext.named|apply Ext.typed)) trivial
     . simp only[Option.some.injEq] at hq;subst hq
       exact hw2
   exact fF (s:=aA ts [41] q.2) (by rw[aB];exact key) hL
  | right=>
   simp only[run] at h;split at h
   . simp only[Option.some.injEq] at h;subst h;exact fF hw hL
   . split at h
     . rename_i hx
       simp only[mS] at h;obtain⟨q,hq,rfl⟩:=h;have e1:q.2.e=0:=((Ext.refl q.2).must (ts:=ts) [41]).e0 he;have a:=ih2 hq ((hs.kE ht hx).must ht _) e1 (by rw[aB];rfl) hw (by repeat (first|exact Ext.refl _|apply Ext.must|apply Ext.go|apply Ext.down|apply Ext.up|apply Ext.named|apply Ext.typed)) trivial;exact fF (s:=aA ts [41] q.2) (by rw[aB];exact a) hL
     . split at h
       . exact ih _ _ _ h hs he hi hw trivial
       . exact ih _ _ _ h hs he hi hw trivial
  | block=>
   simp only[run] at h;split at h
   . rename_i hx
     simp only[mS] at h;obtain⟨q,hq,rfl⟩:=h;have e1:q.2.e=0:=((Ext.refl q.2).must (ts:=ts) [125]).e0 he;have a:=ih2 hq ((hs.eZ ht hx).must ht _) e1 (by rw[aB,bK]) hw (by repeat (first|exact Ext.refl _|apply Ext.must|apply Ext.go|apply Ext.down|apply Ext.up|apply Ext.named|apply Ext.typed)) trivial;exact fF (s:=pUp (aA ts [125] q.2)) (by show PB n0 L (aA ts [125] q.2).nodes;rw[aB];exact a) hL
   . simp only[Option.some.injEq] at h;subst h;exact (mH (by decide) he).elim
  | stmts l=>
   simp only[run] at h;split at h
   . rename_i h0
     simp only[Option.some.injEq] at h;subst h;exact absurd he h0
   . split at h
     . simp only[Option.some.injEq] at h;subst h;exact hw
     . simp only[bS] at h
       obtain⟨q,hq,h⟩:=h;have e1:q.2.e=0:=(aI _ _ _ _ h).e0 he;have a:=ih2 hq hs e1 rfl hw (Ext.refl s) trivial;have hle:=aI _ _ _ _ hq;have hok:=fJ ht _ _ _ _ hq hs;exact ih _ _ _ h hok he (Nat.le_trans hi hle.i) a trivial
  | named line=>
   have hp:line=L:=hp;simp only[run] at h;split at h
   . simp only[mS] at h
     obtain⟨q,hq,rfl⟩:=h;have e1:q.2.e=0:=((Ext.refl q.2).must (ts:=ts) [59]).e0 he;have a:=ih2 hq hs e1 rfl hw (Ext.refl s) trivial;exact fF (s:=aA ts [59] q.2) (by rw[aB];exact a) hp
   . split at h
     . rename_i hx
       simp only[mS,bS] at h;obtain⟨q,hq,u,hu,rfl⟩:=h;have e2:u.2.e=0:=((Ext.refl u.2).must (ts:=ts) [59]).e0 he;have hx2:=((((Ext.refl q.2).must (ts:=ts) [93]).up).must (ts:=ts) [61]);have e1:q.2.e=0:=hx2.e0 ((aI _ _ _ _ hu).e0 e2);have hsn:bT ts (aF ts s):=hs.named ht;have hxs:Ext s (aA ts [91] (aU ts (aF ts s))):=(by repeat (first|exact Ext.refl _|apply Ext.must|apply Ext.go|apply Ext.down|apply Ext.up|apply Ext.named|apply Ext.typed));have a:=ih2 hq ((hsn.eZ ht hx).must ht _) e1 (by rw[aB,bK,bG]) hw hxs trivial;have hokq:=fJ ht _ _ _ _ hq ((hsn.eZ ht hx).must ht _);have c:=ih2 hu (((hokq.must ht _).up).must ht _) e2 (show (aA ts [61] (pUp (aA ts [93] q.2))).nodes=q.2.nodes by rw[aB];exact aB _ _) a ((hxs.trans (aI _ _ _ _ hq)).trans hx2) trivial;exact fF (s:=aA ts [59] u.2) (by rw[aB];exact c) hp
     . simp only[mS] at h
       obtain⟨q,hq,rfl⟩:=h;have e1:q.2.e=0:=((Ext.refl q.2).must (ts:=ts) [59]).e0 he;have a:=ih2 hq ((hs.named ht).must ht _) e1 (by rw[aB,bG]) hw (by repeat (first|exact Ext.refl _|apply Ext.must|apply Ext.go|apply Ext.down|apply Ext.up|apply Ext.named|apply Ext.typed)) trivial;exact fF (s:=aA ts [59] q.2) (by rw[aB];exact a) hp
  | stmt=>
   simp only[run] at h;split at h
   . rename_i hwd
     simp only[mS] at h;obtain⟨q,hq,rfl⟩:=h;have e1:q.2.e=0:=((Ext.refl q.2).must (ts:=ts) [59]).e0 he;have a:=ih2 hq (((hs.dS ht hwd (by simp)).named ht).must ht _) e1 (by rw[aB,bG];rfl) hw (by repeat (first|exact Ext.refl _|apply Ext.must|apply Ext.go|apply Ext.down|apply Ext.up|apply Ext.named|apply Ext.typed)) trivial;exact fF (s:=aA ts [59] q.2) (by rw[aB];exact a) hL
   . split at h
     . rename_i hwd
       simp only[mS] at h;obtain⟨q,hq,rfl⟩:=h;have e1:q.2.e=0:=((Ext.refl q.2).must (ts:=ts) [59]).e0 he;have a:=ih2 hq (hs.dS ht hwd (by simp)) e1 (show (pGo s).nodes=s.nodes from rfl) hw (by repeat (first|exact Ext.refl _|apply Ext.must|apply Ext.go|apply Ext.down|apply Ext.up|apply Ext.named|apply Ext.typed)) trivial;exact fF (s:=aA ts [59] q.2) (by rw[aB];exact a) hL
     . split at h
       . rename_i hwd
         simp only[mS,bS] at h;obtain⟨q,hq,u,hu,rfl⟩:=h;have e1:q.2.e=0:=(aI _ _ _ _ hu).e0 he;have hxs:Ext s (pGo s):=(Ext.refl s).go;have a:=ih2 hq (hs.dS ht hwd (by simp)) e1 (show (pGo s).nodes=s.nodes from rfl) hw hxs trivial;have c:=ih2 hu (fJ ht _ _ _ _ hq (hs.dS ht hwd (by simp))) he rfl a (hxs.trans (aI _ _ _ _ hq)) trivial;exact fF (s:=u.2) c hL
       . split at h
         . rename_i hwd
           simp only[bS] at h;obtain⟨q,hq,u,hu,h⟩:=h;have hokq:=fJ ht _ _ _ _ hq (hs.dS ht hwd (by simp));have hoku:=fJ ht _ _ _ _ hu hokq;have hxs:Ext s (pGo s):=(Ext.refl s).go;have hxq:=hxs.trans (aI _ _ _ _ hq);have hxu:=hxq.trans (aI _ _ _ _ hu);split at h
           . rename_i hx
             simp only[mS] at h;obtain⟨v,hv,rfl⟩:=h;have e2:u.2.e=0:=(aL hx).1;have e1:q.2.e=0:=(aI _ _ _ _ hu).e0 e2;have a:=ih2 hq (hs.dS ht hwd (by simp)) e1 (show (pGo s).nodes=s.nodes from rfl) hw hxs trivial;have c:=ih2 hu hokq e2 rfl a hxq trivial;have f:=ih2 hv (hoku.kE ht hx) he (show (pGo u.2).nodes=u.2.nodes from rfl) c hxu.go trivial;have e3:Ext u.2 v.2:=((Ext.refl u.2).go).trans (aI _ _ _ _ hv);exact fF (s:=v.2) f hL
           . simp only[Option.some.injEq] at h;subst h
             have e1:q.2.e=0:=(aI _ _ _ _ hu).e0 he;have a:=ih2 hq (hs.dS ht hwd (by simp)) e1 (show (pGo s).nodes=s.nodes from rfl) hw hxs trivial;have c:=ih2 hu hokq he rfl a hxq trivial;exact fF (s:=u.2) c hL
         . split at h
           . rename_i hwd
             split at h
             . simp only[Option.some.injEq] at h;subst h
               exact fF (s:=aA ts [59] (pGo s)) (by rw[aB];exact hw) hL
             . simp only[mS] at h
               obtain⟨q,hq,rfl⟩:=h;have e1:q.2.e=0:=((Ext.refl q.2).must (ts:=ts) [59]).e0 he;have a:=ih2 hq (hs.dS ht hwd (by simp)) e1 (show (pGo s).nodes=s.nodes from rfl) hw (by repeat (first|exact Ext.refl _|apply Ext.must|apply Ext.go|apply Ext.down|apply Ext.up|apply Ext.named|apply Ext.typed)) trivial;exact fF (s:=aA ts [59] q.2) (by rw[aB];exact a) hL
           . exact ih _ _ _ h hs he hi hw hL
theorem aOv (hT:∀s,bT ts s->m≤s.i->aR src ts s=L) (ht:aO ts){n:Nat}{s:PS}{fs:aD×PS} (h:bO src ts n s=some fs) (hs:bT ts s) (hi:m≤s.i) (he:fs.2.e=0) (hw:PB n0 L s.nodes):PB n0 L fs.2.nodes:=by
 simp only[bO,bS,mS] at h;obtain⟨p,hp,b,hb,rfl⟩:=h;have h1:bT ts (aA ts [40] (aF ts (aA ts [102,110] s))):=((hs.must ht _).named ht).must ht _;have hn1:(aA ts [40] (aF ts (aA ts [102,110] s))).nodes=s.nodes:=by rw[aB,bG,aB]
 have hx1:Ext s (aA ts [40] (aF ts (aA ts [102,110] s))):=(((Ext.refl s).must (ts:=ts) _).named (ts:=ts)).must (ts:=ts) _;have h2:bT ts p.2∧p.2.nodes=s.nodes∧Ext s p.2:=by
   split at hp
   . exact⟨nG ht _ _ _ _ hp h1,by rw[jQ _ _ _ _ hp,hn1],hx1.trans (jY _ _ _ _ hp)⟩
   . simp only[Option.some.injEq] at hp
     subst hp;exact⟨h1,hn1,hx1⟩
 split at hb
 . exact aNa hT ht _ _ _ _ hb (h2.1.must ht _) he (Nat.le_trans hi (h2.2.2.must (ts:=ts) _).i) (by rw[aB,h2.2.1];exact hw) trivial
 . exact aNa hT ht _ _ _ _ hb ((h2.1.must ht _).typed ht) he (Nat.le_trans hi ((h2.2.2.must (ts:=ts) _).typed (ts:=ts)).i) (by rw[jI,aB,h2.2.1];exact hw) trivial
theorem aNi (hT:∀s,bT ts s->m≤s.i->aR src ts s=L) (ht:aO ts):∀(n:Nat) (acc:List aD) (s:PS) (r:List aD×PS),bA src ts n acc s=some r->bT ts s->m≤s.i->r.2.e=0->PB n0 L s.nodes->PB n0 L r.2.nodes
 | 0,_,_,_,h,_,_,_,_=>by simp[bA] at h
 | n+1,acc,s,r,h,hs,hi,he,hw=>by
  simp only[bA] at h;split at h
  . simp only[Option.some.injEq] at h;subst h;exact hw
  . split at h
    . simp only[Option.some.injEq] at h;subst h;exact hw
    . simp only[bS] at h
      obtain⟨fs,hfs,h⟩:=h;have e1:fs.2.e=0:=(kQ _ _ _ _ h).e0 he;exact aNi hT ht n _ _ _ h (vH ht hfs hs).1 (Nat.le_trans hi (rF hfs).i) he (aOv hT ht hfs hs hi e1 hw)
end
end Pw
open Pw
variable {s s' r:CkS}{x t:Nat}{nd:aH}{gs:List aD}{f z:aD}
theorem yZ {a b:List UInt8}{nsa nsb:List aH}{fsa fsb:List aD} (ha:parseM a=some (.good nsa fsa)) (hb:parseM b=some (.good nsb fsb)) (hlen:(a++10 :: b).length≤600) (hc:b.count 10=0):
   ∃ns fs gs,ns.map zlN=nsa.map (shN 0)++nsb.map (shN nsa.length)∧fsa.length=fs.length∧fsb.length=gs.length∧(∀(i:Nat) (f g:aD),fsa[i]?=some f->fs[i]?=some g->FR 0 f g)∧(∀(i:Nat) (f g:aD),fsb[i]?=some f->gs[i]?=some g->FR nsa.length f g) ∧
    (∀(i:Nat) (nd:aH),nsa.length≤i->ns[i]?=some nd->nd.line=2+a.count 10)∧parseM (a++10 :: b)=some (if 300<ns.length∨6<(fs++gs).length∨(fs++gs).any (λf=>decide (3<f.params.length))=true then .bad 0 4 else .good ns (fs++gs)):=by
 obtain⟨ta,qa,la,ra,ea,rfl,rfl⟩:=aHt ha;obtain⟨tb,qb,lb,rb,eb,rfl,rfl⟩:=aHt hb;obtain⟨K,p,hK,hnz⟩:=aJx la;have hta:=gJ la;have htb:=gJ lb;have l1:lexFrom a 0 = .good ta:=by unfold nP at la;split at la;cases la;exact la
 have l2:lexFrom b 0 = .good tb:=by unfold nP at lb;split at lb;cases lb;exact lb
 have hdl:ta.dropLast=K:=by rw[hK];simp
 have hj:=(aLh b a.length a 0 ta (Nat.le_refl _) l1).2;rw[hdl,Nat.zero_add] at hj;have hu:=aPy (a.length+1) b.length b 0 (Nat.le_refl _);rw[Nat.zero_add] at hu;rw[hu,l2] at hj;have hl':nP (a++10 :: b) = .good (K++tb.map (Tok.up (a.length+1))):=by
   unfold nP;rw[if_neg (by omega),hj];rfl
 have hlen2:K.length+1=ta.length:=by rw[hK];simp
 have hz:(ta.getD K.length mK).kind=0:=by rw[hK,List.getD,List.getElem?_append_right (Nat.le_refl _),Nat.sub_self];rfl
 have hm1:Mt ta (K++tb.map (Tok.up (a.length+1))) 0 K.length:=λi hi=>by
   have e:i+0=i:=rfl;rw[e,vF hi,hK,vF hi];exact⟨rfl,rfl⟩
 have hm2:Mt tb (K++tb.map (Tok.up (a.length+1))) K.length tb.length:=λi hi=>by
   rw[wX,List.getD,List.getD,List.getElem?_map,gE hi];exact⟨rfl,rfl⟩
 have hnz2:∀i,i<K.length->(ta.getD i mK).kind≠0:=λi hi=>by
   rw[hK,vF hi,List.getD,gE hi];exact hnz _ (List.getElem_mem hi)
 obtain⟨fs,gs0,s2,e1,e2,e3,e4,e5,e7,e6⟩:=aQe (src':=a++10 :: b) (P:=[]) (b:=0) hm1 rfl hta hlen2 hz hnz2 _ [] [] s00 s00 qa ra ea (uN hta) ⟨rfl,rfl,rfl,rfl,rfl,Nat.zero_le _⟩;have hd:=aBb _ _ _ _ ra;have hnl:=congrArg List.length e2.nodes;simp only[List.length_map,List.nil_append] at hnl;obtain⟨fs2,gs2,s3,c1,c2,c3,c4,c5⟩:=aIb (src':=a++10 :: b) (P:=s2.nodes.map zlN) (b:=qa.2.nodes.length) hm2 (by simp[hnl]) htb _ [] gs0 s00 s2 qb rb eb (uN htb)
   ⟨e2.e',by rw[e2.deep,hd],λ_=>by rw[e2.i,e3];simp[s00],λ_=>by simp[s00],λh=>absurd rfl h,λ_=>htb.pos⟩
 rw[List.nil_append] at e1 c1;have HT:∀s,bT (K++tb.map (Tok.up (a.length+1))) s->K.length≤s.i->aR (a++10 :: b) (K++tb.map (Tok.up (a.length+1))) s=2+a.count 10:=λs hs hi=>by
   have hroom:=hs.room;rw[List.length_append,List.length_map] at hroom;unfold aR bF;obtain⟨j,hj⟩:∃j,s.i=j+K.length:=⟨s.i - K.length,by omega⟩;rw[hj,wX,List.getD,List.getElem?_map,gE (by omega)]
   show iC (a++10 :: b) ((tb[j].place+(a.length+1):Nat):Int)=_
   unfold iC;rw[Int.toNat_natCast,List.take_append,List.take_of_length_le (by omega),show tb[j].place+(a.length+1) - a.length=tb[j].place+1 from by omega,List.take_succ_cons,List.count_append,List.count_cons_self];have:=List.Sublist.count_le 10 (List.take_sublist tb[j].place b);omega
 have HS:bT (K++tb.map (Tok.up (a.length+1))) s2:=e7 (gJ hl') (uN (gJ hl'));have hR:=e6 (gs0++gs2,s3) ⟨_,by simpa using c2⟩;refine⟨s3.nodes,gs0,gs2,by rw[c3.nodes eb,e2.nodes];simp,by rw[e1,e4],by rw[c1,c4],λi f g hf hg=>e5 i f g (by rw[<-e1];exact hf) hg,λi f g hf hg=>c5 i f g (by rw[<-c1];exact hf) hg,?_,?_⟩
 . exact (aNi (m:=K.length) (n0:=qa.2.nodes.length) (L:=2+a.count 10) HT (gJ hl') _ _ _ _ c2 HS (by rw[e2.i,e3];exact Nat.le_refl _) (by rw[c3.e];exact eb) ⟨by omega,λi nd h1 h2=>by rw[List.getElem?_eq_none (by omega)] at h2;cases h2⟩).2
 have h:=aKx hl' hR;rw[h,if_neg (by show ¬s3.e≠0;rw[c3.e];omega)]
structure SE (N:Nat) (s s':CkS):Prop where
 ty:s'.types.take N=s.types
 sl:s'.slots.take N=s.slots
 fn:s'.fn.take N=s.fn
 vars:s'.vars=s.vars
 size:s'.size=s.size
def NE (ns ns':List aH):Prop:=∀(x:Nat) (nd:aH),ns[x]?=some nd->∃line,ns'[x]?=some ⟨nd.kind,line,nd.n,nd.name,nd.l⟩
structure FE (fs fs':List aD):Prop where
 find:∀y j,findF fs y=some j->findF fs' y=some j
 get:∀(j:Nat) (f:aD),fs[j]?=some f->∃f',fs'[j]?=some f'∧f'.name=f.name∧f'.params=f.params∧f'.ret=f.ret∧f'.body=f.body
section
variable {N k:Nat}{ns ns':List aH}{fs fs':List aD}
def aSb (N:Nat) (ex ex':Nat->CkS->CkR (Nat×CkS)):Prop:=∀(x:Nat) (s s':CkS) (t:Nat) (r:CkS),SE N s s'->ex x s = .good (t,r)->∃r',ex' x s' = .good (t,r')∧SE N r r'
def aSc (N:Nat) (bl bl':Nat->CkS->CkR CkS):Prop:=∀(x:Nat) (s s' r:CkS),SE N s s'->bl x s = .good r->∃r',bl' x s' = .good r'∧SE N r r'
theorem SE.aPt (h:SE N s s') (x:Nat):SE N { s with fn:=s.fn.set x k } { s' with fn:=s'.fn.set x k }:=
 ⟨h.ty,h.sl,by show (s'.fn.set x k).take N=_;rw[List.take_set,h.fn],h.vars,h.size⟩
theorem SE.aRo (h:SE N s s') (x t:Nat):SE N { s with types:=s.types.set x t,fn:=s.fn.set x k } { s' with types:=s'.types.set x t,fn:=s'.fn.set x k }:=
 ⟨by show (s'.types.set x t).take N=_;rw[List.take_set,h.ty],h.sl,by show (s'.fn.set x k).take N=_;rw[List.take_set,h.fn],h.vars,h.size⟩
theorem nI {y:List UInt8} (h:SE N s s') (e:aV x y s = .good (t,r)):∃r',aV x y s' = .good (t,r')∧SE N r r':=by
 unfold aV at e ⊢;rw[h.vars];cases hf:eT s.vars y with
 | none=>rw[hf] at e;cases e
 | some v=>
  rw[hf] at e;injection e with e;injection e with e1 e2;subst e1;subst e2;exact⟨_,rfl,h.ty,by show (s'.slots.set x v.slot).take N=_;rw[List.take_set,h.sl],h.fn,rfl,h.size⟩
section
variable {ex ex':Nat->CkS->CkR (Nat×CkS)} (hx:aSb N ex ex')
include hx
theorem aBk:∀(l:List Nat) (s s':CkS) (ts:List Nat) (r:CkS),SE N s s'->bH ex l s = .good (ts,r)->∃r',bH ex' l s' = .good (ts,r')∧SE N r r'
 | [],s,s',ts,r,h,e=>by
  injection e with e;injection e with e1 e2;subst e1;subst e2;exact⟨s',rfl,h⟩
 | a :: l,s,s',ts,r,h,e=>by
  obtain⟨⟨t,s1⟩,h1,e⟩:=CkR.bind_eq e;obtain⟨⟨us,s2⟩,h2,e⟩:=CkR.map_eq e;injection e with e1 e2;subst e1;subst e2;obtain⟨s1',g1,k1⟩:=hx a s s' t s1 h h1;obtain⟨s2',g2,k2⟩:=aBk l s1 s1' us s2 k1 h2;exact⟨s2',by unfold bH;rw[g1];simp only[CkR.aC];rw[g2];rfl,k2⟩
theorem aMn (hF:FE fs fs') (h:SE N s s') (e:jP fs ex x nd s = .good (t,r)):∃r',jP fs' ex' x nd s' = .good (t,r')∧SE N r r':=by
 unfold jP at e ⊢;cases hf:findF fs nd.name with
 | none=>rw[hf] at e;cases e
 | some j=>
  rw[hf] at e;simp only at e;obtain⟨⟨ts,s1⟩,h1,e⟩:=CkR.bind_eq e;obtain⟨s1',g1,k1⟩:=aBk hx nd.l s s' ts s1 h h1;obtain⟨f,hj⟩:∃f,fs[j]?=some f:=by
    have:j<fs.length:=(List.findIdx?_eq_some_iff_findIdx_eq.1 hf).1;exact⟨_,gE this⟩
  obtain⟨f',hj',_,hp,hr,_⟩:=hF.get j f hj;rw[hF.find _ _ hf];simp only;rw[g1];simp only[CkR.aC,hj,hj',Option.map_some,Option.getD_some] at e ⊢;rw[hp,hr];split at e
  . cases e
  . rename_i c1
    rw[if_neg c1];split at e
    . cases e
    . rename_i c2
      rw[if_neg c2];injection e with e;injection e with e1 e2;subst e1;subst e2;exact⟨s1',rfl,k1⟩
theorem aFc (hF:FE fs fs') (line:Nat) (h:SE N s s') (e:bM fs ex x nd s = .good (t,r)):∃r',bM fs' ex' x ⟨nd.kind,line,nd.n,nd.name,nd.l⟩ s' = .good (t,r')∧SE N r r':=by
 unfold bM at e ⊢;dsimp only at e ⊢;have pure:∀{u:Nat},(CkR.good (u,s):CkR (Nat×CkS)) = .good (t,r)->∃r',(CkR.good (u,s'):CkR (Nat×CkS)) = .good (t,r')∧SE N r r':=λ{u} e=>by
   injection e with e;injection e with e1 e2;subst e1;subst e2;exact⟨s',rfl,h⟩
 by_cases c1:nd.kind=1∨nd.kind=19
 . rw[if_pos c1] at e ⊢;exact pure e
 rw[if_neg c1] at e ⊢;by_cases c2:nd.kind=2
 . rw[if_pos c2] at e ⊢;exact pure e
 rw[if_neg c2] at e ⊢;by_cases c3:nd.kind=3
 . rw[if_pos c3] at e ⊢;exact pure e
 rw[if_neg c3] at e ⊢;by_cases c4:nd.kind=4
 . rw[if_pos c4] at e ⊢;exact nI h e
 rw[if_neg c4] at e ⊢;by_cases c5:nd.kind=21
 . rw[if_pos c5] at e ⊢
   exact aMn hx hF (nd:=⟨nd.kind,line,nd.n,nd.name,nd.l⟩) h e
 rw[if_neg c5] at e ⊢;by_cases c6:nd.kind=5
 . rw[if_pos c6] at e ⊢
   obtain⟨⟨u,s1⟩,h1,e⟩:=CkR.bind_eq e;obtain⟨⟨v,s2⟩,h2,e⟩:=CkR.bind_eq e;obtain⟨s1',g1,k1⟩:=nI h h1;obtain⟨s2',g2,k2⟩:=hx _ _ _ _ _ k1 h2;rw[g1];simp only[CkR.aC] at e ⊢;rw[g2];simp only[CkR.aC] at e ⊢;by_cases c:u=4∧v=1
   . rw[if_pos c] at e ⊢;injection e with e;injection e with e1 e2;subst e1;subst e2;exact⟨_,rfl,k2⟩
   . rw[if_neg c] at e;cases e
 rw[if_neg c6] at e ⊢;by_cases c7:nd.kind=9
 . rw[if_pos c7] at e ⊢
   obtain⟨⟨u,s1⟩,h1,e⟩:=CkR.bind_eq e;obtain⟨⟨v,s2⟩,h2,e⟩:=CkR.bind_eq e;obtain⟨s1',g1,k1⟩:=hx _ _ _ _ _ h h1;obtain⟨s2',g2,k2⟩:=hx _ _ _ _ _ k1 h2;rw[g1];simp only[CkR.aC] at e ⊢;rw[g2];simp only[CkR.aC] at e ⊢;by_cases c:dA nd.name u v=0
   . rw[if_pos c] at e;cases e
   . rw[if_neg c] at e ⊢;injection e with e;injection e with e1 e2;subst e1;subst e2;exact⟨_,rfl,k2⟩
 rw[if_neg c7] at e ⊢;obtain⟨⟨u,s1⟩,h1,e⟩:=CkR.bind_eq e;obtain⟨s1',g1,k1⟩:=hx _ _ _ _ _ h h1;rw[g1];simp only[CkR.aC] at e ⊢;have fin:∀{v:Nat},(CkR.good (v,s1):CkR (Nat×CkS)) = .good (t,r)->∃r',(CkR.good (v,s1'):CkR (Nat×CkS)) = .good (t,r')∧SE N r r':=λ{v} e=>by
   injection e with e;injection e with e1 e2;subst e1;subst e2;exact⟨s1',rfl,k1⟩
 have two:∀{c:Prop} [Decidable c] {v:Nat},(if c then CkR.good (v,s1) else CkR.bad 42 x:CkR (Nat×CkS)) = .good (t,r)->∃r',(if c then CkR.good (v,s1') else CkR.bad 42 x:CkR (Nat×CkS)) = .good (t,r')∧SE N r r':=λ{c} _ {v} e=>by
   by_cases h:c
   . rw[if_pos h] at e ⊢;exact fin e
   . rw[if_neg h] at e;cases e
 by_cases d1:nd.kind=6
 . rw[if_pos d1] at e ⊢;exact two e
 rw[if_neg d1] at e ⊢;by_cases d2:nd.kind=7
 . rw[if_pos d2] at e ⊢;exact two e
 rw[if_neg d2] at e ⊢;by_cases d3:nd.kind=8
 . rw[if_pos d3] at e ⊢;exact two e
 rw[if_neg d3] at e ⊢;exact two e
end
theorem aBd (hN:NE ns ns') (hF:FE fs fs'):∀(f f':Nat),f≤f'->aSb N (dR ns fs k f) (dR ns' fs' k f')
 | 0,_,_=>λx s s' t r _ e=>by cases e
 | f+1,0,h=>absurd h (by omega)
 | f+1,f'+1,h=>λx s s' t r hs e=>by
  have ih:=aBd hN hF f f' (by omega);unfold dR at e ⊢;cases hx:ns[x]? with
  | none=>rw[hx] at e;cases e
  | some nd=>
   rw[hx] at e;obtain⟨⟨u,s1⟩,h1,e⟩:=CkR.map_eq e;injection e with e1 e2;subst e1;subst e2;obtain⟨line,hx'⟩:=hN x nd hx;obtain⟨s1',g1,k1⟩:=aFc ih hF line hs h1;rw[hx'];simp only;rw[g1];exact⟨_,rfl,k1.aRo x u⟩
section
variable {ex ex':Nat->CkS->CkR (Nat×CkS)}{bl bl':Nat->CkS->CkR CkS} (hx:aSb N ex ex')
theorem yF {st st':Nat->CkS->CkR CkS} (hs:aSc N st st'):∀(l:List Nat) (s s' r:CkS),SE N s s'->eO st l s = .good r->∃r',eO st' l s' = .good r'∧SE N r r'
 | [],s,s',r,h,e=>by injection e with e;subst e;exact⟨s',rfl,h⟩
 | a :: l,s,s',r,h,e=>by
  obtain⟨s1,h1,e⟩:=CkR.bind_eq e;obtain⟨s1',g1,k1⟩:=hs a s s' s1 h h1;obtain⟨r',g2,k2⟩:=yF hs l s1 s1' r k1 e;exact⟨r',by unfold eO;rw[g1];exact g2,k2⟩
include hx
theorem aOo (line:Nat) (h:SE N s s') (e:aAv ex x nd s = .good r):∃r',aAv ex' x ⟨nd.kind,line,nd.n,nd.name,nd.l⟩ s' = .good r'∧SE N r r':=by
 unfold aAv at e ⊢;obtain⟨⟨t,s1⟩,h1,e⟩:=CkR.bind_eq e;obtain⟨s1',g1,k1⟩:=hx _ _ _ _ _ h h1;dsimp only at e ⊢;rw[g1];simp only[CkR.aC] at e ⊢;rw[k1.vars,k1.size];split at e
 . cases e
 rename_i c1;rw[if_neg c1]
 split at e
 . cases e
 rename_i c2;rw[if_neg c2]
 split at e
 . cases e
 rename_i c3;rw[if_neg c3]
 injection e with e;subst e;exact⟨_,rfl,k1.ty,by show (s1'.slots.set x (s1.size:Int)).take N=_;rw[List.take_set,k1.sl],k1.fn,rfl,rfl⟩
theorem aNz (hF:FE fs fs') (line:Nat) (hk:k<fs.length) (h:SE N s s') (e:vR fs k ex x nd s = .good r):∃r',vR fs' k ex' x ⟨nd.kind,line,nd.n,nd.name,nd.l⟩ s' = .good r'∧SE N r r':=by
 obtain⟨f',hj',_,_,hr,_⟩:=hF.get k fs[k] (gE hk);have hret:(fs'[k]?.map (·.ret)).getD 0=(fs[k]?.map (·.ret)).getD 0:=by rw[hj',gE hk];exact hr
 unfold vR at e ⊢;dsimp only at e ⊢;rw[hret];split at e
 . rename_i c1
   rw[if_pos c1];split at e
   . rename_i c2
     rw[if_pos c2];obtain⟨⟨t,s1⟩,h1,e⟩:=CkR.bind_eq e;obtain⟨s1',g1,k1⟩:=hx _ _ _ _ _ h h1;rw[g1];simp only[CkR.aC] at e ⊢;split at e
     . rename_i c3;rw[if_pos c3];injection e with e;subst e;exact⟨_,rfl,k1⟩
     . cases e
   . rename_i c2;rw[if_neg c2];injection e with e;subst e;exact⟨_,rfl,h⟩
 . cases e
theorem aNu (hb:aSc N bl bl') (hF:FE fs fs') (line:Nat) (hk:k<fs.length) (h:SE N s s') (e:iP fs k ex bl x nd s = .good r):∃r',iP fs' k ex' bl' x ⟨nd.kind,line,nd.n,nd.name,nd.l⟩ s' = .good r'∧SE N r r':=by
 have h:=h.aPt (k:=k) x;unfold iP at e ⊢;dsimp only at e ⊢;split at e
 . rename_i c;rw[if_pos c];exact aOo hx line h e
 rename_i c1;rw[if_neg c1]
 split at e
 . rename_i c
   rw[if_pos c];obtain⟨⟨t,s1⟩,h1,e⟩:=CkR.bind_eq e;obtain⟨⟨u,s2⟩,h2,e⟩:=CkR.bind_eq e;obtain⟨s1',g1,k1⟩:=nI h h1;obtain⟨s2',g2,k2⟩:=hx _ _ _ _ _ k1 h2;rw[g1];simp only[CkR.aC] at e ⊢;rw[g2];simp only[CkR.aC] at e ⊢;split at e
   . rename_i c3;rw[if_pos c3];injection e with e;subst e;exact⟨_,rfl,k2⟩
   . cases e
 rename_i c2;rw[if_neg c2]
 split at e
 . rename_i c
   rw[if_pos c];obtain⟨⟨t,s1⟩,h1,e⟩:=CkR.bind_eq e;obtain⟨⟨u,s2⟩,h2,e⟩:=CkR.bind_eq e;obtain⟨⟨v,s3⟩,h3,e⟩:=CkR.bind_eq e;obtain⟨s1',g1,k1⟩:=nI h h1;obtain⟨s2',g2,k2⟩:=hx _ _ _ _ _ k1 h2;obtain⟨s3',g3,k3⟩:=hx _ _ _ _ _ k2 h3;rw[g1];simp only[CkR.aC] at e ⊢;rw[g2];simp only[CkR.aC] at e ⊢;rw[g3];simp only[CkR.aC] at e ⊢;split at e
   . rename_i c3;rw[if_pos c3];injection e with e;subst e;exact⟨_,rfl,k3⟩
   . cases e
 rename_i c3;rw[if_neg c3]
 split at e
 . rename_i c
   rw[if_pos c];obtain⟨⟨t,s1⟩,h1,e⟩:=CkR.map_eq e;subst e;obtain⟨s1',g1,k1⟩:=hx _ _ _ _ _ h h1;rw[g1];exact⟨_,rfl,k1⟩
 rename_i c4;rw[if_neg c4]
 split at e
 . rename_i c
   rw[if_pos c];obtain⟨⟨t,s1⟩,h1,e⟩:=CkR.bind_eq e;obtain⟨s1',g1,k1⟩:=hx _ _ _ _ _ h h1;rw[g1];simp only[CkR.aC] at e ⊢;split at e
   . rename_i c5;rw[if_pos c5];injection e with e;subst e;exact⟨_,rfl,k1⟩
   . cases e
 rename_i c5;rw[if_neg c5]
 split at e
 . rename_i c;rw[if_pos c];exact aNz hx hF line hk h e
 rename_i c6;rw[if_neg c6]
 obtain⟨⟨t,s1⟩,h1,e⟩:=CkR.bind_eq e;obtain⟨s1',g1,k1⟩:=hx _ _ _ _ _ h h1;rw[g1];simp only[CkR.aC] at e ⊢;split at e
 . rename_i c7;rw[if_pos c7];exact yF hb _ _ _ _ k1 e
 . cases e
end
theorem xH (hN:NE ns ns') (hle:ns.length≤ns'.length) (hF:FE fs fs') (hk:k<fs.length):∀(f f':Nat),f≤f'->aSc N (bW ns fs k f) (bW ns' fs' k f')
 | 0,_,_=>λx s s' r _ e=>by cases e
 | f+1,0,h=>absurd h (by omega)
 | f+1,f'+1,h=>λx s s' r hs e=>by
  have ih:=xH hN hle hF hk f f' (by omega);unfold bW at e ⊢;cases hx:ns[x]? with
  | none=>rw[hx] at e;cases e
  | some nd=>
   rw[hx] at e;obtain⟨s1,h1,e⟩:=CkR.map_eq e;subst e;obtain⟨line,hx'⟩:=hN x nd hx
   obtain⟨s1',g1,k1⟩:=yF (N:=N) (st':=λa s=>match ns'[a]? with
    | none=> .bad 95 0
    | some na=>iP fs' k (dR ns' fs' k ns'.length) (bW ns' fs' k f') a na s) (λa s s' r hs e=>by
     cases ha:ns[a]? with
     | none=>simp only[ha] at e;cases e
     | some na=>
      simp only[ha] at e;obtain⟨la,ha'⟩:=hN a na ha;simp only[ha'];exact aNu (aBd hN hF _ _ hle) ih hF la hk hs e) nd.l _ _ _ (hs.aPt x) h1
   rw[hx'];refine⟨{ s1' with vars:=s1'.vars.take s'.vars.length },congrArg (CkR.map λr:CkS=>{ r with vars:=r.vars.take s'.vars.length }) g1,k1.ty,k1.sl,k1.fn,by show s1'.vars.take s'.vars.length=s1.vars.take s.vars.length;rw[k1.vars,hs.vars],k1.size⟩
theorem aLt (hN:NE ns ns') (hle:ns.length≤ns'.length) (hF:FE fs fs') (hk:k<fs.length){f':aD} (hp:f'.params=f.params) (hb:f'.body=f.body) (h:SE N s s') (e:gP ns fs k f s = .good r):∃r',gP ns' fs' k f' s' = .good r'∧SE N r r':=by
 unfold gP at e ⊢;obtain⟨vs,h1,e⟩:=CkR.bind_eq e;rw[hp,hb,h1];have hs:SE N { s with vars:=vs,size:=vs.length } { s' with vars:=vs,size:=vs.length }:=⟨h.ty,h.sl,h.fn,rfl,rfl⟩;exact xH hN hle hF hk _ _ hle f.body _ _ r hs e
theorem wY (hN:NE ns ns') (hle:ns.length≤ns'.length) (hF:FE fs fs') (more:List aD):∀(l l':List aD) (k:Nat) (zs zs1:List Nat) (s s' r:CkS),l'.length=l.length->(∀(i:Nat) (f f':aD),l[i]?=some f->l'[i]?=some f'->f'.params=f.params∧f'.body=f.body)->k+l.length≤fs.length->SE N s s'->iE ns fs k l zs s = .good (zs1,r) ->
  ∃r',SE N r r'∧iE ns' fs' k (l'++more) zs s'=iE ns' fs' (k+l.length) more zs1 r'
 | [],l',k,zs,zs1,s,s',r,hl,_,_,h,e=>by
  have:l'=[]:=List.eq_nil_of_length_eq_zero hl;subst this;injection e with e;injection e with e1 e2;subst e1;subst e2;exact⟨s',h,rfl⟩
 | f :: l,[],_,_,_,_,_,_,hl,_,_,_,_=>by simp at hl
 | f :: l,f' :: l',k,zs,zs1,s,s',r,hl,hr,hk,h,e=>by
  obtain⟨s1,h1,e⟩:=CkR.bind_eq e;obtain⟨hp,hb⟩:=hr 0 f f' rfl rfl;simp only[List.length_cons] at hk hl ⊢;obtain⟨s1',g1,k1⟩:=aLt hN hle hF (by omega) hp hb h h1;obtain⟨r',q1,q2⟩:=wY hN hle hF more l l' (k+1) (zs++[s1.size]) zs1 s1 s1' r (by omega) (λi g g' a b=>hr (i+1) g g' (by simpa using a) (by simpa using b)) (by omega) k1 e;refine⟨r',q1,?_⟩;rw[List.cons_append]
  show (gP ns' fs' k f' s').bind _=_
  rw[g1];simp only[CkR.aC];rw[k1.size,q2,show k+1+l.length=k+(l.length+1) by omega]
end
structure SS (N d c:Nat) (s s':CkS):Prop where
 vars:s'.vars=s.vars
 size:s'.size=s.size
 lt:s.types.length=N
 ls:s.slots.length=N
 lf:s.fn.length=N
 lt':N+d≤s'.types.length
 ls':N+d≤s'.slots.length
 lf':N+d≤s'.fn.length
 ty:∀i,i<N->s'.types[i+d]?=s.types[i]?
 sl:∀i,i<N->s'.slots[i+d]?=s.slots[i]?
 fn:c=0->∀i,i<N->s'.fn[i+d]?=s.fn[i]?
section
variable {N d c k x:Nat}{s s':CkS}{ns ns':List aH}{fs fs':List aD}{ex ex':Nat->CkS->CkR (Nat×CkS)}{bl bl':Nat->CkS->CkR CkS}
theorem yE {α:Type}{l l':List α}{f:α->α}{N d x:Nat}{v:α} (hl:l.length=N) (hl':N+d≤l'.length) (h:∀i,i<N->l'[i+d]?=l[i]?.map f):∀i,i<N->(l'.set (x+d) (f v))[i+d]?=(l.set x v)[i]?.map f:=λi hi=>by
 rw[List.getElem?_set,List.getElem?_set];by_cases e:x=i
 . subst e
   rw[if_pos rfl,if_pos rfl,if_pos (by omega),if_pos (by omega)];rfl
 . rw[if_neg (by omega),if_neg e];exact h i hi
theorem map_id' {α:Type} (o:Option α):o.map (λa=>a)=o:=by cases o<;>rfl
theorem SS.aRc (h:SS N d c s s') (x t:Nat):SS N d c { s with types:=s.types.set x t } { s' with types:=s'.types.set (x+d) t }:=
 ⟨h.vars,h.size,by simpa using h.lt,h.ls,h.lf,by simpa using h.lt',h.ls',h.lf',λi hi=>by
  have:=yE (f:=λa=>a) (x:=x) (v:=t) h.lt h.lt' (λi hi=>by rw[map_id'];exact h.ty i hi) i hi;rw[map_id'] at this;exact this,h.sl,h.fn⟩
theorem SS.aNv (h:SS N d c s s') (x:Nat) (t:Int):SS N d c { s with slots:=s.slots.set x t } { s' with slots:=s'.slots.set (x+d) t }:=
 ⟨h.vars,h.size,h.lt,by simpa using h.ls,h.lf,h.lt',by simpa using h.ls',h.lf',h.ty,λi hi=>by
  have:=yE (f:=λa=>a) (x:=x) (v:=t) h.ls h.ls' (λi hi=>by rw[map_id'];exact h.sl i hi) i hi;rw[map_id'] at this;exact this,h.fn⟩
theorem SS.kH (h:SS N d c s s') (x t:Nat):SS N d c { s with fn:=s.fn.set x t } { s' with fn:=s'.fn.set (x+d) (t+c) }:=
 ⟨h.vars,h.size,h.lt,h.ls,by simpa using h.lf,h.lt',h.ls',by simpa using h.lf',h.ty,h.sl,λe i hi=>by
  subst e;have:=yE (f:=λa=>a) (x:=x) (v:=t) h.lf h.lf' (λi hi=>by rw[map_id'];exact h.fn rfl i hi) i hi;rw[map_id'] at this;exact this⟩
def PA (N d c:Nat) (a b:Nat×CkS):Prop:=a.1=b.1∧SS N d c a.2 b.2
structure FS (d c:Nat) (zz:List UInt8) (fs fs':List aD):Prop where
 find:∀nm,nm≠zz->findF fs' nm=(findF fs nm).map (· + c)
 at_:∀(j:Nat) (f:aD),fs[j]?=some f->∃g,fs'[j+c]?=some g∧g.params=f.params∧g.ret=f.ret∧g.body=f.body+d
end
section
variable {N d c k x:Nat}{s s':CkS}{ns ns':List aH}{fs fs':List aD}{ex ex':Nat->CkS->CkR (Nat×CkS)}{bl bl':Nat->CkS->CkR CkS}
def FL (d:Nat):List aD->List aD->Prop
 | [],[]=>True
 | f :: l,g :: m=>(g.params=f.params∧g.body=f.body+d)∧FL d l m
 | _,_=>False
theorem FL.of:∀{l m:List aD},l.length=m.length->(∀(i:Nat) (f g:aD),l[i]?=some f->m[i]?=some g->g.params=f.params∧g.body=f.body+d)->FL d l m
 | [],[],_,_=>trivial
 | f :: l,g :: m,hl,h=>⟨h 0 f g rfl rfl,FL.of (by simpa using hl) λi f g hf hg=>h (i+1) f g (by simpa using hf) (by simpa using hg)⟩
 | [],g :: m,hl,_=>by simp at hl
 | f :: l,[],hl,_=>by simp at hl
def HL (d:Nat) (fs gs:List aD):Prop:=fs.length=gs.length∧∀(i:Nat) (f g:aD),fs[i]?=some f->gs[i]?=some g->g.name=f.name∧g.params=f.params∧g.ret=f.ret∧g.body=f.body+d
theorem HL.tail {g:aD}{l m:List aD} (h:HL d (f :: l) (g :: m)):HL d l m:=⟨by simpa using h.1,λi f g hf hg=>h.2 (i+1) f g (by simpa using hf) (by simpa using hg)⟩
theorem qA:∀(l:List aD) (seen:List (List UInt8)),f.name∉seen->(∀g∈l,g.name≠f.name)->bU seen (l++[f])=bU seen l
 | [],seen,h,_=>by simp[bU,h]
 | g :: l,seen,h,hl=>by
  rw[List.cons_append];unfold bU;by_cases hm:g.name∈seen
  . rw[if_pos hm,if_pos hm]
  . rw[if_neg hm,if_neg hm]
    exact qA l _ (by simp only[List.mem_append,List.mem_singleton,not_or];exact⟨h,λe=>hl g (by simp) e.symm⟩) (λg hg=>hl g (by simp[hg]))
theorem aHm:∀{l m:List aD},HL d l m->m.any fQ=l.any fQ
 | [],[],_=>rfl
 | [],g :: m,h=>by simp[HL] at h
 | f :: l,[],h=>by simp[HL] at h
 | f :: l,g :: m,h=>by
  obtain⟨e1,e2,e3,e4⟩:=h.2 0 f g rfl rfl;rw[List.any_cons,List.any_cons,aHm h.tail];unfold fQ;rw[e1,e2,e3]
theorem aDr {fs:List aD} (h:HL d fs gs) (y:List UInt8):findF gs y=findF fs y:=by
 have e:∀l:List aD,findF l y=(l.map (·.name)).findIdx? λn=>decide (n=y):=λl=>by
  unfold findF;rw[List.findIdx?_map];rfl
 have:gs.map (·.name)=fs.map (·.name):=List.ext_getElem? λi=>by
  rw[List.getElem?_map,List.getElem?_map];by_cases hi:i<fs.length
  . have hi2:i<gs.length:=by have:=h.1;omega
    rw[gE hi,gE hi2];have:=(h.2 i _ _ (gE hi) (gE hi2)).1;simp[this]
  . rw[List.getElem?_eq_none (by have:=h.1;omega),List.getElem?_eq_none (by omega)]
 rw[e,e,this]
theorem FS.behind (h:HL d fs gs):FS d 0 z.name fs (gs++[z]):=by
 refine⟨λnm hn=>?_,λj f hf=>?_⟩
 . have e:=aDr h nm
   unfold findF at e ⊢;rw[List.findIdx?_append,e];cases hq:List.findIdx? (λf=>decide (f.name=nm)) fs with
   | some j=>rfl
   | none=>simp[List.findIdx?_cons,Ne.symm hn]
 . have hj:=(gK hf)
   obtain⟨g,hg⟩:∃g,gs[j]?=some g:=⟨_,gE (by have:=h.1;omega)⟩;obtain⟨e1,e2,e3,e4⟩:=h.2 j f g hf hg;exact⟨g,by rw[List.getElem?_append_left (by have:=h.1;omega)];exact hg,e2,e3,e4⟩
end
theorem aFf {src:List UInt8}{p:gB} (h:dJ src=some (.good p)):∃zs r,parseM src=some (.good p.ns p.fs)∧iZ p.fs = .good ()∧iE p.ns p.fs 0 p.fs [] (gD p.ns) = .good (zs,r):=by
 unfold dJ at h;rw[mS] at h;obtain⟨q,hq,h⟩:=h;cases q with
 | bad p e=>cases h
 | good ns fs=>
  cases hc:dV ns fs with
  | bad e x=>
   simp only[hc] at h;split at h<;>cases h
  | good q=>
   simp only[hc] at h;injection h with h;subst h;unfold dV at hc;obtain⟨u,hh,hc⟩:=CkR.bind_eq hc;obtain⟨r,hr,hc⟩:=CkR.map_eq hc;subst hc;exact⟨r.1,r.2,hq,hh,hr⟩
theorem aMb {fs:List aD} (h:fs.map (·.name)=gs.map (·.name)) (y:List UInt8):findF fs y=findF gs y:=by
 unfold findF;have e:∀l:List aD,l.findIdx? (λf=>decide (f.name=y))=(l.map (·.name)).findIdx? (λx=>decide (x=y)):=λl=>by rw[List.findIdx?_map];rfl
 rw[e,e,h]
theorem aMc {fs:List aD}{y:List UInt8}{j:Nat} (h:findF fs y=some j):findF (fs++gs) y=some j:=by
 unfold findF at h ⊢;rw[List.findIdx?_append,h];rfl
structure Jn (src tb:List UInt8) (p:gB) (nb:List aH) (fb:List aD) (ms:List aH) (gs hs:List aD) (zs:List Nat) (s1:CkS):Prop where
 parse:parseM (src++10 :: tb)=some (.good ms (gs++hs))
 len:ms.length=p.ns.length+nb.length
 more:∀(i:Nat) (nd:aH),nb[i]?=some nd->ms[p.ns.length+i]?=some ⟨nd.kind,2+src.count 10,nd.n,nd.name,nd.l.map (· + p.ns.length)⟩
 names:gs.map (·.name)=p.fs.map (·.name)
 hl:HL 0 p.fs gs
 behind:fb.length=hs.length∧∀(i:Nat) (f g:aD),fb[i]?=some f->hs[i]?=some g->FR p.ns.length f g
 twice:bU [] gs=none
 main:gs.any fQ=true
 funcs:iE ms (gs++hs) 0 (gs++hs) [] (gD ms)=iE ms (gs++hs) p.fs.length hs zs s1
theorem oF {src tb:List UInt8}{p:gB}{nb:List aH}{fb:List aD} (hp:dJ src=some (.good p)) (hb:parseM tb=some (.good nb fb)) (hlen:(src++10 :: tb).length≤600) (hc:tb.count 10=0) (hn:p.ns.length+nb.length≤300) (hf:p.fs.length+fb.length≤6) (hpar:∀f∈fb,f.params=[]):
   ∃ms gs hs zs s1,Jn src tb p nb fb ms gs hs zs s1:=by
 obtain⟨zs,r,hP,hH,hC⟩:=aFf hp;obtain⟨ms,gs,hs,j1,j2,j3,j4,j5,j7,j6⟩:=yZ hP hb hlen hc;have hlN:ms.length=p.ns.length+nb.length:=by have:=congrArg List.length j1;simpa using this
 have ok:=(aAq hP).pars;rw[if_neg] at j6;rotate_left
 . rintro (h|h|h)
   . omega
   . rw[List.length_append] at h;omega
   . rw[List.any_eq_true] at h
     obtain⟨g,hg,h⟩:=h;have h:=of_decide_eq_true h;rcases List.mem_append.1 hg with hg|hg
     . obtain⟨i,hi⟩:=List.mem_iff_getElem?.1 hg
       have hlt:=(gK hi);obtain⟨f,hf'⟩:∃f,p.fs[i]?=some f:=⟨_,gE (by omega)⟩;have e1:=(j4 i f g hf' hi).params;have e2:=ok f (List.mem_of_getElem? hf');rw[e1] at h;omega
     . obtain⟨i,hi⟩:=List.mem_iff_getElem?.1 hg
       have hlt:=(gK hi);obtain⟨f,hf'⟩:∃f,fb[i]?=some f:=⟨_,gE (by omega)⟩;have e:=(j5 i f g hf' hi).params;have:=hpar f (List.mem_of_getElem? hf');rw[e,this] at h;simp at h
 have hz:∀x nd,ms[x]?=some nd->(p.ns.map (shN 0)++nb.map (shN p.ns.length))[x]?=some (zlN nd):=λx nd hx=>by
   rw[<-j1,List.getElem?_map,hx];rfl
 have hNE:NE p.ns ms:=λx nd hx=>by
   have hlt:=(gK hx);obtain⟨nd',hx'⟩:∃nd',ms[x]?=some nd':=⟨_,gE (by omega)⟩;have h:=hz x nd' hx';rw[List.getElem?_append_left (by rw[List.length_map];exact hlt),List.getElem?_map,hx] at h;injection h with h;unfold shN zlN at h;obtain⟨a1,a2,a3,a4,a5⟩:=nd;obtain⟨b1,b2,b3,b4,b5⟩:=nd';injection h with h1 h2 h3 h4 h5;have h5:a5.map (· + 0)=b5:=h5;refine⟨b2,?_⟩;rw[hx',h1,h3,h4,<-h5];simp
 have hHL:HL 0 p.fs gs:=⟨j2,λi f g hf hg=>by
   obtain⟨e1,e2,e3,e4⟩:=j4 i f g hf hg;exact⟨e1,e2,e3,e4⟩⟩
 have hnm:gs.map (·.name)=p.fs.map (·.name):=List.ext_getElem? λi=>by
   rw[List.getElem?_map,List.getElem?_map];by_cases hi:i<p.fs.length
   . rw[gE hi,gE (by omega)]
     have:=(j4 i _ _ (gE hi) (gE (by omega:i<gs.length))).name;simp[this]
   . rw[List.getElem?_eq_none (by omega),List.getElem?_eq_none (by omega)]
 have hFE:FE p.fs (gs++hs):=⟨λy j h=>aMc (by rw[aMb hnm y];exact h),λj f hf=>by
   have hj:=(gK hf);obtain⟨f',hf'⟩:∃f',gs[j]?=some f':=⟨_,gE (by omega)⟩;obtain⟨e1,e2,e3,e4⟩:=j4 j f f' hf hf';exact⟨f',by rw[List.getElem?_append_left (by omega)];exact hf',e1,e2,e3,by rw[e4];rfl⟩⟩
 have hSE:SE p.ns.length (gD p.ns) (gD ms):=by
   have hm:min p.ns.length ms.length=p.ns.length:=by omega
   exact⟨by simp[gD,List.take_replicate,hm],by simp[gD,List.take_replicate,hm],by simp[gD,List.take_replicate,hm],rfl,rfl⟩
 obtain⟨s1,k1,k2⟩:=wY hNE (by omega) hFE hs p.fs gs 0 [] zs (gD p.ns) (gD ms) r (by omega) (λi f f' hf hf'=>by
   obtain⟨e1,e2,e3,e4⟩:=j4 i f f' hf hf';exact⟨e2,by rw[e4];rfl⟩) (by omega) hSE hC
 rw[Nat.zero_add] at k2;have ht:bU [] p.fs=none∧p.fs.any fQ=true:=by
   unfold iZ at hH;split at hH
   . cases hH
   . rename_i h
     split at hH
     . rename_i h2;exact⟨h,h2⟩
     . cases hH
 have hN:∀l m:List aD,l.map (·.name)=m.map (·.name)->∀seen,bU seen l=none->bU seen m=none:=by
   intro l;induction l with
   | nil=>intro m h seen _;cases m with
     | nil=>rfl
     | cons a m=>simp at h
   | cons a l ih=>intro m h seen h2;cases m with
     | nil=>simp at h
     | cons b m=>
       simp only[List.map_cons,List.cons.injEq] at h;unfold bU at h2 ⊢;split at h2
       . cases h2
       . rename_i h3
         rw[<-h.1,if_neg h3];exact ih m h.2 _ h2
 refine⟨ms,gs,hs,zs,s1,j6,hlN,λi nd hi=>?_,hnm,hHL,⟨j3,j5⟩,hN _ _ hnm.symm _ ht.1,by rw[aHm hHL];exact ht.2,k2⟩;have hi5:i<nb.length:=(gK hi);obtain⟨nd',hx'⟩:∃nd',ms[p.ns.length+i]?=some nd':=⟨_,gE (by omega)⟩;have h:=hz _ nd' hx';have hl:=j7 _ nd' (by omega) hx';rw[List.getElem?_append_right (by rw[List.length_map];omega),List.length_map,Nat.add_sub_cancel_left,List.getElem?_map,hi] at h;injection h with h;unfold shN zlN at h;obtain⟨a1,a2,a3,a4,a5⟩:=nd;obtain⟨b1,b2,b3,b4,b5⟩:=nd';injection h with h1 h2 h3 h4 h5;dsimp only at h1 h2 h3 h4 h5 hl ⊢;rw[hx',h1,h3,h4,h5,hl]
def zzL:List UInt8:=[122,122]
theorem sN {a:aD}:∀(l:List aD) (seen:List (List UInt8)),bU seen l=none->a.name∈seen++l.map (·.name)->bU seen (l++[a])=some a.body
 | [],seen,_,h=>by
  show (if a.name∈seen then some a.body else none)=_
  rw[if_pos (by simpa using h)]
 | b :: l,seen,h,hm=>by
  unfold bU at h;split at h
  . cases h
  . rename_i h3
    show (if b.name∈seen then some b.body else bU (seen++[b.name]) (l++[a]))=_
    rw[if_neg h3];exact sN l _ h (by simpa using hm)
section
variable {src tb:List UInt8}{p:gB}{nb:List aH}{ms:List aH}{gs hs:List aD}{zs:List Nat}{s1:CkS}{z:aD}
theorem Jn.one {b:Nat} (h:Jn src tb p nb [⟨zzL,1,[],0,b⟩] ms gs hs zs s1) (hz:∀f∈p.fs,f.name≠zzL):
   ∃F:List aD,F[p.fs.length]?=some (F.getD p.fs.length ⟨[],0,[],0,0⟩)∧(F.getD p.fs.length ⟨[],0,[],0,0⟩).params=[]∧(F.getD p.fs.length ⟨[],0,[],0,0⟩).ret=0∧findF F zzL=some p.fs.length∧∀r,bW ms F p.fs.length ms.length (b+p.ns.length) { s1 with vars:=[],size:=0 }=r ->
    dJ (src++10 :: tb)=some (match r with | .bad e x=>if e=44 then .bad 0 44 else .bad ((ms[x]?.map (·.line)).getD 0) e | .good s=> .good ⟨ms,F,s.types,s.slots,s.fn,zs++[s.size]⟩):=by
 obtain⟨z,rfl⟩:=List.length_eq_one_iff.1 h.behind.1.symm;obtain⟨zn,zp,zr,zb⟩:=h.behind.2 0 _ z rfl rfl;dsimp only at zn zp zr zb;have hg:gs.length=p.fs.length:=h.hl.1.symm;have hgz:∀f∈gs,f.name≠zzL:=λf hf=>by
   have h1:f.name∈gs.map (·.name):=List.mem_map_of_mem hf;rw[h.names] at h1;obtain⟨f',h2,h3⟩:=List.mem_map.1 h1;rw[<-h3];exact hz f' h2
 have e:(gs++[z])[p.fs.length]?=some z:=by rw[List.getElem?_append_right (by omega),hg,Nat.sub_self];rfl
 have e2:(gs++[z]).getD p.fs.length ⟨[],0,[],0,0⟩=z:=by rw[List.getD,e];rfl
 refine⟨gs++[z],by rw[e2];exact e,by rw[e2];exact zp,by rw[e2];exact zr,?_,λr hr=>?_⟩
 . unfold findF
   rw[List.findIdx?_append,List.findIdx?_eq_none_iff.2 (λf hf=>by simpa using hgz f hf)];simp[zn,hg]
 . unfold dJ
   rw[h.parse];have ht:bU [] (gs++[z])=none:=by rw[qA gs [] (by simp) (λg hg=>by rw[zn];exact hgz g hg)];exact h.twice
   have hm:(gs++[z]).any fQ=true:=by rw[List.any_append,h.main];rfl
   have hc:dV ms (gs++[z])=r.map λs=>⟨ms,gs++[z],s.types,s.slots,s.fn,zs++[s.size]⟩:=by
    unfold dV iZ;rw[ht];dsimp only;rw[if_pos hm]
    show (iE ms (gs++[z]) 0 (gs++[z]) [] (gD ms)).map _=_
    rw[h.funcs]
    show ((gP ms (gs++[z]) p.fs.length z s1).bind _).map _=_
    unfold gP;rw[zp,zb]
    show (((bW ms (gs++[z]) p.fs.length ms.length (b+p.ns.length) { s1 with vars:=[],size:=0 }).bind _).map _)=_
    rw[hr];cases r<;>rfl
   clear hr;cases r with
   | bad e x=>simp only[Option.map_some,hc,CkR.map]
   | good s=>simp only[Option.map_some,hc,CkR.map]
theorem Jn.line {fb:List aD} (h:Jn src tb p nb fb ms gs hs zs s1){i:Nat} (hi:i<nb.length):(ms[p.ns.length+i]?.map (·.line)).getD 0=2+src.count 10:=by
 rw[h.more i _ (gE hi)];rfl
def t1:List UInt8:=[102,110,32,122,122,40,41,123,112,114,105,110,116,32,113,59,125]
def t2:List UInt8:=[102,110,32,122,122,40,41,123,108,101,116,32,113,61,49,59,108,101,116,32,113,61,50,59,125]
def t3:List UInt8:=[102,110,32,122,122,40,41,123,105,102,32,49,123,125,125]
def t4:List UInt8:=[102,110,32,122,122,40,41,123,122,122,40,49,41,59,125]
def t5:List UInt8:=[102,110,32,122,122,40,41,123,122,122,40,41,59,125]
def t6:List UInt8:=[102,110,32,122,122,40,41,123,125,102,110,32,122,122,40,41,123,125]
def n1:List aH:=[⟨4,1,0,[113],[]⟩,⟨14,1,0,[],[0]⟩,⟨18,1,0,[],[1]⟩]
def n2:List aH:=[⟨1,1,1,[],[]⟩,⟨10,1,0,[113],[0]⟩,⟨1,1,2,[],[]⟩,⟨10,1,0,[113],[2]⟩,⟨18,1,0,[],[1,3]⟩]
def n3:List aH:=[⟨1,1,1,[],[]⟩,⟨18,1,0,[],[]⟩,⟨15,1,0,[],[0,1]⟩,⟨18,1,0,[],[2]⟩]
def n4:List aH:=[⟨1,1,1,[],[]⟩,⟨21,1,0,[122,122],[0]⟩,⟨13,1,0,[],[1]⟩,⟨18,1,0,[],[2]⟩]
def n5:List aH:=[⟨21,1,0,[122,122],[]⟩,⟨13,1,0,[],[0]⟩,⟨18,1,0,[],[1]⟩]
def n6:List aH:=[⟨18,1,0,[],[]⟩,⟨18,1,0,[],[]⟩]
theorem p1:parseM t1=some (.good n1 [⟨zzL,1,[],0,2⟩]):=by kernel_rfl
theorem p2:parseM t2=some (.good n2 [⟨zzL,1,[],0,4⟩]):=by kernel_rfl
theorem p3:parseM t3=some (.good n3 [⟨zzL,1,[],0,3⟩]):=by kernel_rfl
theorem p4:parseM t4=some (.good n4 [⟨zzL,1,[],0,3⟩]):=by kernel_rfl
theorem p5:parseM t5=some (.good n5 [⟨zzL,1,[],0,2⟩]):=by kernel_rfl
theorem p6:parseM t6=some (.good n6 [⟨zzL,1,[],0,0⟩,⟨zzL,1,[],0,1⟩]):=by kernel_rfl
end
section
variable {src tb:List UInt8}{p:gB}{nb:List aH}{ms:List aH}{gs hs F:List aD}{zs:List Nat}{s s1:CkS}{K n L:Nat}
theorem b1 (hl:ms.length=n+3) (x0:ms[n]?=some ⟨4,L,0,[113],[]⟩) (x1:ms[n+1]?=some ⟨14,L,0,[],[n]⟩) (x2:ms[n+2]?=some ⟨18,L,0,[],[n+1]⟩) (hv:s.vars=[]):bW ms F K ms.length (n+2) s = .bad 40 n:=by
 have hex:∀u:CkS,u.vars=[]->dR ms F K ms.length n u = .bad 40 n:=λu hu=>by
  rw[hl];unfold dR;rw[x0];simp[bM,aV,eT,hu,CkR.map]
 rw[show bW ms F K ms.length (n+2) s=bW ms F K (n+2+1) (n+2) s from by rw[hl]];unfold bW;rw[x2];simp[eO,x1,iP,hex,hv,CkR.bind,CkR.map]
theorem aHr {v:Nat} (hl:ms.length=n+1) (hx:ms[x]?=some ⟨1,L,v,[],[]⟩) (u:CkS):dR ms F K ms.length x u = .good (1,{ u with types:=u.types.set x 1,fn:=u.fn.set x K }):=by
 rw[hl];unfold dR;rw[hx];simp[bM,CkR.map]
theorem b2 (hl:ms.length=n+5) (x0:ms[n]?=some ⟨1,L,1,[],[]⟩) (x1:ms[n+1]?=some ⟨10,L,0,[113],[n]⟩) (x2:ms[n+2]?=some ⟨1,L,2,[],[]⟩) (x3:ms[n+3]?=some ⟨10,L,0,[113],[n+2]⟩) (x4:ms[n+4]?=some ⟨18,L,0,[],[n+1,n+3]⟩) (hv:s.vars=[]) (hs:s.size=0):bW ms F K ms.length (n+4) s = .bad 41 (n+3):=by
 have h0:=aHr (F:=F) (K:=K) (hl.trans rfl:ms.length=(n+4)+1) x0;have h2:=aHr (F:=F) (K:=K) (hl.trans rfl:ms.length=(n+4)+1) x2;rw[show bW ms F K ms.length (n+4) s=bW ms F K (n+4+1) (n+4) s from by rw[hl]];unfold bW;rw[x4];simp[eO,x1,x3,iP,aAv,h0,h2,hv,hs,eT,CkR.bind,CkR.map]
theorem b3 (hl:ms.length=n+4) (x0:ms[n]?=some ⟨1,L,1,[],[]⟩) (x2:ms[n+2]?=some ⟨15,L,0,[],[n,n+1]⟩) (x3:ms[n+3]?=some ⟨18,L,0,[],[n+2]⟩):bW ms F K ms.length (n+3) s = .bad 42 (n+2):=by
 have h0:=aHr (F:=F) (K:=K) (hl.trans rfl:ms.length=(n+3)+1) x0;rw[show bW ms F K ms.length (n+3) s=bW ms F K (n+3+1) (n+3) s from by rw[hl]];unfold bW;rw[x3];simp[eO,x2,iP,h0,CkR.bind,CkR.map]
theorem b4 (hl:ms.length=n+4) (x0:ms[n]?=some ⟨1,L,1,[],[]⟩) (x1:ms[n+1]?=some ⟨21,L,0,[122,122],[n]⟩) (x2:ms[n+2]?=some ⟨13,L,0,[],[n+1]⟩) (x3:ms[n+3]?=some ⟨18,L,0,[],[n+2]⟩) (hf:findF F [122,122]=some K) (hK:F[K]?=some z) (hp:z.params=[]):bW ms F K ms.length (n+3) s = .bad 43 (n+1):=by
 have h0:∀u,dR ms F K (n+3) n u = .good (1,{ u with types:=u.types.set n 1,fn:=u.fn.set n K }):=λu=>by
  unfold dR;rw[x0];simp[bM,CkR.map]
 have h1:∀u,dR ms F K ms.length (n+1) u = .bad 43 (n+1):=λu=>by
  rw[hl];unfold dR;rw[x1];simp[bM,jP,hf,bH,h0,hK,hp,CkR.bind,CkR.map]
 rw[show bW ms F K ms.length (n+3) s=bW ms F K (n+3+1) (n+3) s from by rw[hl]];unfold bW;rw[x3];simp[eO,x2,iP,h1,CkR.bind,CkR.map]
theorem b5 (hl:ms.length=n+3) (x0:ms[n]?=some ⟨21,L,0,[122,122],[]⟩) (x1:ms[n+1]?=some ⟨13,L,0,[],[n]⟩) (x2:ms[n+2]?=some ⟨18,L,0,[],[n+1]⟩) (hf:findF F [122,122]=some K) (hK:F[K]?=some z) (hp:z.params=[]):∃r,bW ms F K ms.length (n+2) s = .good r:=by
 have h1:∀u,∃v,dR ms F K ms.length n u = .good v:=λu=>by
  rw[hl];unfold dR;rw[x0];simp[bM,jP,hf,bH,hK,hp,CkR.bind,CkR.map]
 rw[show bW ms F K ms.length (n+2) s=bW ms F K (n+2+1) (n+2) s from by rw[hl]];obtain⟨v,hv⟩:=h1 { s with fn:=(s.fn.set (n+2) K).set (n+1) K };unfold bW;rw[x2];simp[eO,x1,iP,hv,CkR.bind,CkR.map]
theorem yJ (hp:dJ src=some (.good p)) (h6:p.fs.length<6) (hn:p.ns.length≤280) (hl:src.length≤560) (hz:∀f∈p.fs,f.name≠zzL):
   dJ (src++10 :: t1)=some (.bad (2+src.count 10) 40)∧dJ (src++10 :: t2)=some (.bad (2+src.count 10) 41)∧dJ (src++10 :: t3)=some (.bad (2+src.count 10) 42)∧dJ (src++10 :: t4)=some (.bad (2+src.count 10) 43)∧(∃q,dJ (src++10 :: t5)=some (.good q))∧(p.fs.length<5->dJ (src++10 :: t6)=some (.bad (2+src.count 10) 41)):=by
 have hpar:∀b,∀f∈[(⟨zzL,1,[],0,b⟩:aD)],f.params=[]:=λb f hf=>by rw[List.mem_singleton.1 hf]
 refine⟨?_,?_,?_,?_,?_,λh5=>?_⟩
 . obtain⟨ms,gs,hs,zs,s1,J⟩:=oF hp p1 (by simp[t1];omega) (by decide) (by simp[n1];omega) (by simp;omega) (hpar _)
   obtain⟨F,f1,f2,f3,f4,f5⟩:=J.one hz;rw[f5 (.bad 40 p.ns.length) (by rw[Nat.add_comm];exact b1 J.len (J.more 0 _ rfl) (by simpa using J.more 1 _ rfl) (by simpa[Nat.add_comm] using J.more 2 _ rfl) rfl)];have hl:=J.more 0 _ rfl;rw[Nat.add_zero] at hl;simp[hl]
 . obtain⟨ms,gs,hs,zs,s1,J⟩:=oF hp p2 (by simp[t2];omega) (by decide) (by simp[n2];omega) (by simp;omega) (hpar _)
   obtain⟨F,f1,f2,f3,f4,f5⟩:=J.one hz;rw[f5 (.bad 41 (p.ns.length+3)) (by rw[Nat.add_comm];exact b2 J.len (J.more 0 _ rfl) (by simpa using J.more 1 _ rfl) (J.more 2 _ rfl) (by simpa[Nat.add_comm] using J.more 3 _ rfl) (by simpa[Nat.add_comm] using J.more 4 _ rfl) rfl rfl)];simp[J.more 3 _ rfl]
 . obtain⟨ms,gs,hs,zs,s1,J⟩:=oF hp p3 (by simp[t3];omega) (by decide) (by simp[n3];omega) (by simp;omega) (hpar _)
   obtain⟨F,f1,f2,f3,f4,f5⟩:=J.one hz;rw[f5 (.bad 42 (p.ns.length+2)) (by rw[Nat.add_comm];exact b3 J.len (J.more 0 _ rfl) (by simpa[Nat.add_comm] using J.more 2 _ rfl) (by simpa[Nat.add_comm] using J.more 3 _ rfl))];simp[J.more 2 _ rfl]
 . obtain⟨ms,gs,hs,zs,s1,J⟩:=oF hp p4 (by simp[t4];omega) (by decide) (by simp[n4];omega) (by simp;omega) (hpar _)
   obtain⟨F,f1,f2,f3,f4,f5⟩:=J.one hz;rw[f5 (.bad 43 (p.ns.length+1)) (by rw[Nat.add_comm];exact b4 J.len (J.more 0 _ rfl) (by simpa using J.more 1 _ rfl) (by simpa[Nat.add_comm] using J.more 2 _ rfl) (by simpa[Nat.add_comm] using J.more 3 _ rfl) f4 f1 f2)];simp[J.more 1 _ rfl]
 . obtain⟨ms,gs,hs,zs,s1,J⟩:=oF hp p5 (by simp[t5];omega) (by decide) (by simp[n5];omega) (by simp;omega) (hpar _)
   obtain⟨F,f1,f2,f3,f4,f5⟩:=J.one hz;obtain⟨r,hr⟩:=b5 (s:={ s1 with vars:=[],size:=0 }) J.len (by simpa using J.more 0 _ rfl) (by simpa using J.more 1 _ rfl) (by simpa[Nat.add_comm] using J.more 2 _ rfl) f4 f1 f2;exact⟨_,f5 (.good r) (by rw[Nat.add_comm];exact hr)⟩
 . obtain⟨ms,gs,hs,zs,s1,J⟩:=oF hp p6 (by simp[t6];omega) (by decide) (by simp[n6];omega) (by simp;omega) (λf hf=>by simp at hf;rcases hf with rfl|rfl<;>rfl)
   obtain⟨y,z,rfl⟩:∃y z,hs=[y,z]:=by
    match hs,J.behind.1 with
    | [y,z],_=>exact⟨y,z,rfl⟩
   obtain⟨yn,-,-,yb⟩:=J.behind.2 0 _ y rfl rfl;obtain⟨zn,-,-,zb⟩:=J.behind.2 1 _ z rfl rfl;dsimp only at yn zn zb;have hgz:∀f∈gs,f.name≠zzL:=λf hf=>by
    have h1:f.name∈gs.map (·.name):=List.mem_map_of_mem hf;rw[J.names] at h1;obtain⟨f',h2,h3⟩:=List.mem_map.1 h1;rw[<-h3];exact hz f' h2
   have ht:bU [] (gs++[y,z])=some z.body:=by
    rw[show gs++[y,z]=(gs++[y])++[z] by simp];exact sN _ _ (by rw[qA gs [] (by simp) (λg hg=>by rw[yn];exact hgz g hg)];exact J.twice) (by simp[yn,zn])
   have hc:dV ms (gs++[y,z]) = .bad 41 z.body:=by unfold dV iZ;rw[ht];rfl
   unfold dJ;rw[J.parse];have hl:=J.more 1 _ rfl;simp only[Option.map_some,hc,zb,Nat.add_comm 1 p.ns.length,hl];rfl
end
end Go.Proofs.YtlbjicjinnnboaaGreatDoor
/- What the rows' listed variables give the walks. -/
namespace Go.Proofs.YtlbjicjinnnboaaGreatDoor
open Go.Proofs.Tryz
open Go.ChangeShapes Go.WideShapes Go.ChangeAt Go.RowKit
set_option maxRecDepth 100000
theorem aSq:ownKnob prog.godebug=none:=by kernel_rfl
theorem aNq {W : World} (h : laidMetH Tryz.prog Rows.parseBelowRow.laid W) : ∃ tp p, W.var? Tryz.prog "strconv.ErrRange" = some #[.iface tp p] := by
 rw[MakeChecks.laidMetH_plain _ _ _ (by kernel_rfl)] at h;obtain⟨ps,h,_,_⟩:=h;obtain⟨_,_,_,_,_,_,_,_,_,_,⟨_,_,_,_,_,_,_,_,_,_,⟨_,_,_,_,_,_,_,_,_,_,⟨_,_,_,_,_,_,_,_,_,_,⟨g,t,cs,f,p,q,hg,ht,hv,hd,_⟩,_⟩,_⟩,_⟩,_⟩:=h
 obtain rfl := Option.some.inj ((show Tryz.prog.globalNamed "strconv.ErrRange" = some 2 by kernel_rfl).symm.trans hg)
 obtain rfl:=Option.some.inj ((show (prog.globals[2]?).map (·.type)=some 159 by kernel_rfl).symm.trans ht);obtain⟨f1,u,v,hcs,_,_⟩:=iface_of_trod underlying159 hd;rw[Array.eq_one_of_toList hcs] at hv;exact⟨u,v,hv⟩
theorem oW {H:Type}{enc:TypeId×Value->H}{a:Assume}{C:Checked}{os:Os}{f:FuncId}{fn:Func}{s:ChangeSpec}{conds:List PathCond}{apart fresh handsOn again:Bool}{X:World->Array Value->Prop}
  (hX:∀(w w':World) (args:Array Value),w.heap=w'.heap->X w args->X w' args)
  (own:ownKnob C.prog.godebug=none) (started:os.Started) (noInit:C.prog.inits.idxOf? f=none) (hfn:C.prog.funcs[f]?=some fn)
  (witness:∃(w:World) (tape:Tape) (i:Input),w.os=os∧(w.forCall tape i).Shaped C.prog∧i.vars=[]∧Input.okWide C.prog (w.forCall tape i) .any w.heap.size f i ∧
    ((s.pre enc C.prog fn conds apart (w.forCall tape i).memory i.args∧X (w.forCall tape i).memory i.args)∧sizedMet enc C.prog fn (OpenSpec.ofChange s) apart (w.forCall tape i).memory i.args)∧a.holds C.prog (lone (Frame.enter C.prog f i.args .normal) [] (w.forCall tape i)))
  (contract:∀(W:World) (base:Nat) (args:Array Value) (ds gs:List (DataW H)) (before:List MemPlace),
    (∀(j:Nat) t v,fn.params[j]?=some t->args[j]?=some v->Value.okWide C.prog W .any base t v) ->
    DataW.Whole enc C.prog fn.params.toList s.vars apart W args.toList ds gs before ->
    (DataW.weightsEach C.prog (fn.params.toList++s.plain.varTypes C.prog) (ds++gs)).all (· ≤ reachBytes)=true->X W args->W.ShapedOpen C.prog ->
    Calls C.prog f args W λe W'=>∃v,e = .returned v∧s.post enc C.prog fn apart fresh handsOn again W args v W'):
  ReturnsInHanded a C os f .any (λw args=>(s.pre enc C.prog fn conds apart w args∧X w args)∧sizedMet enc C.prog fn (OpenSpec.ofChange s) apart w args) (s.post enc C.prog fn apart fresh handsOn again):=by
 refine returnsInHanded_of_calls own started noInit witness ?_;intro w tape i _ hsh _ hok hpre _;obtain⟨_,_,_,fn',hfn',_,_,_,_,hval⟩:=hok;obtain rfl:fn'=fn:=Option.some.inj (hfn'.symm.trans hfn);obtain⟨⟨⟨ds,gs,before,hw,_⟩,hx⟩,hz⟩:=hpre;refine (contract (w.forCall tape i) w.heap.size i.args ds gs before hval (DataW.Whole.of_heap (w':=w.forCall tape i) (by rfl) hw) (hz.weights hw) (hX _ _ _ (by rfl) hx) hsh).mono λe W' ⟨v,he,hp⟩=>?_
 subst he;exact ChangeSpec.post_blind hp
theorem xU {W:World} (h:laidMetH prog Rows.parseBelowRow.laid W) (hs:W.ShapedOpen prog):aAc W:=by
 obtain⟨m,hm⟩:=laysM219.s1_3 W hs;refine⟨⟨⟨m,by exact hm⟩,aNq h⟩,m,?_⟩;obtain⟨cs,hh,hz,_⟩:=hs.1 0 #[U0] 3 (by decide +kernel) (by kernel_rfl);have hc:Blk W 0 3 cs:=hh;change W.cell? (0,0)=m at hm;rw[hc.cell 0] at hm;obtain⟨l⟩:=cs
 match l,hz with
 | [x],_=>
  simp at hm
  subst hm;exact hc
end Go.Proofs.YtlbjicjinnnboaaGreatDoor
