/- MmR: RlE, CmA, QLaid. -/
import Derived.Test.YtlbjicjinnnboaaGreatDoorUShelf
import Derived.Test.YtlbjicjinnnboaaGreatDoorMmQ
import Derived.Test.YtlbjicjinnnboaaGreatDoorMmN
import Derived.Test.YtlbjicjinnnboaaGreatDoorRows
import Derived.ProofKit
import Derived.OpenShut
import Derived.LaidMore
import Derived.Lay
import Derived.HandedShaped
import Derived.Stop.Joined
set_option linter.unusedVariables false
set_option linter.unusedSimpArgs false
/- Two sources, one behind the other. -/
namespace Go.Proofs.YtlbjicjinnnboaaGreatDoor
open Go.RowKit
structure Rw (d m b:Nat) (P:List aF) (s s':PS):Prop where
 e:s.e=0
 e':s'.e=0
 deep:s'.deep=s.deep
 i:s'.i=s.i+d
 nodes:s'.nodes.map zlN=P++s.nodes.map (shN b)
 le:s.i≤m
section
variable {src src':List UInt8}{ts ts':List Tok}{d m b:Nat}{P:List aF}
theorem Rw.rl {s s':PS} (h:Rw d m b P s s') (hi:s.i<m):Rl ts ts' d m b P s s':=⟨by rw[h.e,h.e'],h.deep,fun _=>h.i,fun _=>h.nodes,fun he=>absurd h.e he,fun _=>hi⟩
theorem zW {s:PS} (hl:m+1=ts.length) (hz:(ts.getD m lQ).kind=0) (hE:EO ts m s) (h0:s.e=0):(bE ts s).kind=0:=by
 rcases hE.esc with ⟨_,hi⟩|⟨h1,_⟩
 · have:=hE.ok.room
   have e:s.i=m:=by omega
   unfold bE;rw[e];exact hz
 · exact absurd h0 h1
theorem aBv (hl:m+1=ts.length) (hz:(ts.getD m lQ).kind=0){n:Nat}{s:PS}{q:List Nat×PS} (hE:EO ts m s) (h:run src ts n .block s=some q):q.2.e≠0:=by
 by_cases h0:s.e=0
 · have hk:=zW hl hz hE h0
   cases n with
   | zero=>simp[run] at h
   | succ n=>
    simp only[run] at h;rw[if_neg (fun e=>(aN e).2.1 hk)] at h;simp only[Option.some.injEq] at h;subst h;exact tN 20 (by decide) _
 · rw[((aI _ _ _ _ h).err h0).1];exact h0
theorem aOa {x:List UInt8}{s:PS} (h:(aA ts x s).e=0):pIs ts x s=true:=by
 by_cases hp:pIs ts x s=true
 · exact hp
 · unfold aA at h
   rw[if_neg hp] at h;exact absurd h (tN 20 (by decide) _)
theorem aPs (hm:Mt ts ts' d m) (hP:P.length=b) (ht:aQ ts) (hl:m+1=ts.length) (hz:(ts.getD m lQ).kind=0){n:Nat}{s s':PS}{fr:aD×PS} (h:bJ src ts n s=some fr) (h0:fr.2.e=0) (ho:bO ts s) (hs:Rl ts ts' d m b P s s'):
   ∃fr',bJ src' ts' n s'=some fr'∧bO ts fr.2∧Rw d m b P fr.2 fr'.2∧FR b fr.1 fr'.1:=by
 simp only[bJ,bS,mS] at h;obtain⟨p,hp,q,hq,rfl⟩:=h;have h0:q.2.e=0:=h0;rcases wW hm ht (.inr ⟨ho,hs⟩) hp with hE|⟨p',hp',hn,h1,ho4,hl4⟩
 · exact absurd h0 (aBv hl hz (yB ht hE) hq)
 · obtain⟨hty,hs5⟩:=aAo hm ht ho4 hl4
   rcases hs5 with hE|⟨ho5,hl5⟩
   · exact absurd h0 (aBv hl hz hE hq)
   · generalize hs5:(if pIs ts [123] (aA ts [41] p.2)=true then aA ts [41] p.2 else aR ts (aA ts [41] p.2))=s5 at *
     generalize hs5':(if pIs ts' [123] (aA ts' [41] p'.2)=true then aA ts' [41] p'.2 else aR ts' (aA ts' [41] p'.2))=s5' at *;have hq0:=hq;cases n with
     | zero=>simp[run] at hq
     | succ n=>
      simp only[run] at hq;by_cases i1:pIs ts [123] s5=true
      · rw[if_pos i1] at hq
        simp only[mS] at hq;obtain⟨u,hu,rfl⟩:=hq;have hue:(aA ts [125] u.2).e=0:=h0;have hip:=aOa hue;rcases S2.must hm (S2.eU (.inr ⟨ho5,hl5⟩) ht i1) ht [123] with hE|⟨ho6,hl6⟩
        · exact absurd (zW hl hz (dM ht _ _ _ _ hu hE) (aN hip).1) (aN hip).2.1
        · rcases aFw (src':=src') hm hP ht n _ _ _ hu (.stmts []) _ (TR.stmts [] [] (fun _=>rfl)) ho6 hl6 with hE|⟨u',hu',a,c,e⟩
          · exact absurd (zW hl hz hE (aN hip).1) (aN hip).2.1
          · have hu0:=(aN hip).1
            have hip':pIs ts' [125] u'.2=true:=by rw[c.is hm];exact hip
            have e1:aA ts [125] u.2=pGo u.2:=by unfold aA;rw[if_pos hip]
            have e2:aA ts' [125] u'.2=pGo u'.2:=by unfold aA;rw[if_pos hip']
            have hlen:=congrArg List.length (c.nodes hu0);simp only[List.length_map,List.length_append] at hlen;have hru':run src' ts' (n+1) .block s5'=some (bM 18 (aS src' ts' s5') 0 [] u'.1 (pUp (aA ts' [125] u'.2))):=by
              simp only[run];rw[hl5.is hm,if_pos i1,hu'];rfl
            refine⟨(⟨bK ts' (aA ts' [102,110] s'),aS src' ts' s',p'.1,(if pIs ts' [123] (aA ts' [41] p'.2)=true then 0 else bQ ts' (aA ts' [41] p'.2)),(bM 18 (aS src' ts' s5') 0 [] u'.1 (pUp (aA ts' [125] u'.2))).1.headD 0⟩,(bM 18 (aS src' ts' s5') 0 [] u'.1 (pUp (aA ts' [125] u'.2))).2),?_,?_,?_,⟨hn,h1,hty,?_⟩⟩
            · simp only[bJ]
              rw[hp'];simp only[Option.bind_some];rw[hs5',hru'];rfl
            · rw[e1]
              exact ((a.iZ ht hip).up).put ..
            · rw[e1,e2]
              refine⟨hu0,by show u'.2.e=0;rw[c.e];exact hu0,by show u'.2.deep - 1=u.2.deep - 1;rw[c.deep],by show u'.2.i+1=u.2.i+1+d;have:=c.i hu0;omega,?_,by show u.2.i+1≤m;have:=c.lt hu0;omega⟩
              show (u'.2.nodes++[_]).map zlN=P++(u.2.nodes++[_]).map (shN b)
              rw[List.map_append,List.map_append,c.nodes hu0,List.append_assoc,e hu0];rfl
            · rw[e1,e2]
              show u'.2.nodes.length=u.2.nodes.length+b
              rw[hlen,hP,Nat.add_comm]
      · rw[if_neg i1] at hq
        simp only[Option.some.injEq] at hq;subst hq;exact absurd h0 (tN 20 (by decide) _)
theorem aPt (hm:Mt ts ts' d m) (hP:P.length=b) (ht:aQ ts) (hl:m+1=ts.length) (hz:(ts.getD m lQ).kind=0) (hnz:∀i,i<m→(ts.getD i lQ).kind≠0):∀(n:Nat) (acc acc':List aD) (s s':PS) (r:List aD×PS),bC src ts n acc s=some r→r.2.e=0→bO ts s→Rw d m b P s s' →
  ∃fs gs s2,r.1=acc++fs∧Rw d m b P r.2 s2∧r.2.i=m∧fs.length=gs.length∧(∀(i:Nat) (f g:aD),fs[i]?=some f→gs[i]?=some g→FR b f g)∧∀z,aJp src' ts' (acc'++gs) s2 z→aJp src' ts' acc' s' z
 | 0,_,_,_,_,_,h,_,_,_=>by simp[bC] at h
 | n+1,acc,acc',s,s',r,h,hr,ho,hw=>by
  simp only[bC] at h;rw[if_neg (by simp[hw.e])] at h;by_cases hk:bA ts 0 s=true
  · rw[if_pos hk] at h
    simp only[Option.some.injEq] at h;subst h;refine⟨[],[],s',by simp,hw,?_,rfl,fun i f g h=>by simp at h,fun z hz=>by simpa using hz⟩;by_cases hi:s.i<m
    · exact absurd (aM hk).2 (hnz _ hi)
    · have:=hw.le;show s.i=m;omega
  · rw[if_neg hk] at h
    simp only[bS] at h;obtain⟨f,hf,h⟩:=h;have hi:s.i<m:=by
      by_cases hi:s.i<m
      · exact hi
      · have e:s.i=m:=by have:=hw.le;omega
        refine absurd ?_ hk;unfold bA bE;rw[e,hz,hw.e];rfl
    have hf0:f.2.e=0:=(kF _ _ _ _ h).e0 hr;obtain⟨f',hf',a,c,hfr⟩:=aPs (src':=src') hm hP ht hl hz hf hf0 ho (hw.rl hi);obtain⟨fs,gs,s2,e1,e2,e3,e4,e5,e6⟩:=aPt hm hP ht hl hz hnz n _ (acc'++[f'.1]) _ f'.2 _ h hr a c;refine⟨f.1 :: fs,f'.1 :: gs,s2,by rw[e1];simp,e2,e3,by simp[e4],fun i x y hx hy=>?_,fun z hz2=>?_⟩
    · cases i with
      | zero=>simp at hx hy;subst hx;subst hy;exact hfr
      | succ i=>exact e5 i x y (by simpa using hx) (by simpa using hy)
    · have hk':bA ts' 0 s'=false:=by rw[(hw.rl (ts:=ts) (ts':=ts') hi).kind hm];simpa using hk
      exact aPp hw.e' hk' ⟨n,hf'⟩ (e6 z (by simpa using hz2))
theorem qM:∀(n:Nat) (acc:List (List UInt8×Nat)) (s:PS) (p:List (List UInt8×Nat)×PS),aH ts n acc s=some p→p.2.deep=s.deep
 | 0,_,_,_,h=>by simp[aH] at h
 | n+1,acc,s,p,h=>by
  have ht:∀s,(aR ts s).deep=s.deep:=fun s=>by unfold aR;split;exact eB 20 s;rfl
  simp only[aH] at h;split at h
  · have:=qM n _ _ _ h
    rw[this,jQ,ht,dZ]
  · simp only[Option.some.injEq] at h
    subst h
    show (aR ts (aC ts s)).deep=s.deep
    rw[ht,dZ]
theorem aBp:∀(n:Nat) (acc:List aD) (s:PS) (r:List aD×PS),bC src ts n acc s=some r→r.2.deep=s.deep
 | 0,_,_,_,h=>by simp[bC] at h
 | n+1,acc,s,r,h=>by
  simp only[bC] at h;split at h
  · simp only[Option.some.injEq] at h;subst h;rfl
  · split at h
    · simp only[Option.some.injEq] at h;subst h;rfl
    · simp only[bS] at h
      obtain⟨f,hf,h⟩:=h;rw[aBp n _ _ _ h];simp only[bJ,bS,mS] at hf;obtain⟨p,hp,q,hq,rfl⟩:=hf;have ht:∀s,(aR ts s).deep=s.deep:=fun s=>by unfold aR;split;exact eB 20 s;rfl
      have h1:=gD _ _ _ _ hq;have h2:p.2.deep=s.deep:=by
        split at hp
        · rw[qM _ _ _ _ hp,aX,dZ,aX]
        · simp only[Option.some.injEq] at hp
          subst hp
          show (aA ts [40] (aC ts (aA ts [102,110] s))).deep=_
          rw[aX,dZ,aX]
      show q.2.deep=s.deep
      rw[h1];split
      · rw[aX,h2]
      · rw[ht,aX,h2]
end
theorem aIb {a:List UInt8}{ns:List aF}{fs:List aD} (h:parseM a=some (.good ns fs)):∃ts q,nG a = .good ts∧bC a ts (dY ts) [] s00=some q∧q.2.e=0∧ns=q.2.nodes∧fs=q.1:=by
 unfold parseM at h;cases hl:nG a with
 | bad p e=>rw[hl] at h;simp at h
 | good ts=>
  rw[hl] at h;simp only[lH,mS] at h;obtain⟨q,hq,h⟩:=h;split at h
  · cases h
  · rename_i he
    split at h
    · cases h
    · injection h with h1 h2
      exact⟨ts,q,rfl,hq,by omega,h1.symm,h2.symm⟩
theorem aKg {a:List UInt8}{ts:List Tok} (h:nG a = .good ts):∃K q,ts=K++[⟨0,[],q⟩]∧∀t∈K,t.kind≠0:=by
 unfold nG at h;split at h
 · cases h
 · exact (qW a.length a 0 600 ts (Nat.le_refl _) (by omega) h).2.2
theorem uZ {K J:List Tok}{i:Nat} (h:i<K.length):(K++J).getD i lQ=K.getD i lQ:=by
 rw[List.getD,List.getD,List.getElem?_append_left h]
theorem aIc {K J:List Tok}{i:Nat}:(K++J).getD (i+K.length) lQ=J.getD i lQ:=by
 rw[List.getD,List.getD,List.getElem?_append_right (by omega),Nat.add_sub_cancel]
theorem aAs {ts:List Tok} (ht:aQ ts):bO ts s00:=⟨ht.pos,by decide,fun _=>by decide,by decide,by decide⟩
theorem sP {a b:List UInt8}{nsa nsb:List aF}{fsa fsb:List aD} (ha:parseM a=some (.good nsa fsa)) (hb:parseM b=some (.good nsb fsb)) (hlen:(a++10 :: b).length≤600):
  ∃ns fs gs,ns.map zlN=nsa.map (shN 0)++nsb.map (shN nsa.length)∧fsa.length=fs.length∧fsb.length=gs.length∧(∀(i:Nat) (f g:aD),fsa[i]?=some f→fs[i]?=some g→FR 0 f g)∧(∀(i:Nat) (f g:aD),fsb[i]?=some f→gs[i]?=some g→FR nsa.length f g) ∧
   parseM (a++10 :: b)=some (if 300<ns.length∨6<(fs++gs).length∨(fs++gs).any (fun f=>decide (3<f.params.length))=true then .bad 0 4 else .good ns (fs++gs)):=by
 obtain⟨ta,qa,la,ra,ea,rfl,rfl⟩:=aIb ha;obtain⟨tb,qb,lb,rb,eb,rfl,rfl⟩:=aIb hb;obtain⟨K,p,hK,hnz⟩:=aKg la;have hta:=iL la;have htb:=iL lb;have l1:lexFrom a 0 = .good ta:=by unfold nG at la;split at la;cases la;exact la
 have l2:lexFrom b 0 = .good tb:=by unfold nG at lb;split at lb;cases lb;exact lb
 have hdl:ta.dropLast=K:=by rw[hK];simp
 have hj:=(aLr b a.length a 0 ta (Nat.le_refl _) l1).2;rw[hdl,Nat.zero_add] at hj;have hu:=aPn (a.length+1) b.length b 0 (Nat.le_refl _);rw[Nat.zero_add] at hu;rw[hu,l2] at hj;have hl':nG (a++10 :: b) = .good (K++tb.map (Tok.up (a.length+1))):=by
  unfold nG;rw[if_neg (by omega),hj];rfl
 have hlen2:K.length+1=ta.length:=by rw[hK];simp
 have hz:(ta.getD K.length lQ).kind=0:=by rw[hK,List.getD,List.getElem?_append_right (Nat.le_refl _),Nat.sub_self];rfl
 have hm1:Mt ta (K++tb.map (Tok.up (a.length+1))) 0 K.length:=fun i hi=>by
  have e:i+0=i:=rfl;rw[e,uZ hi,hK,uZ hi];exact⟨rfl,rfl⟩
 have hm2:Mt tb (K++tb.map (Tok.up (a.length+1))) K.length tb.length:=fun i hi=>by
  rw[aIc,List.getD,List.getD,List.getElem?_map,gE hi];exact⟨rfl,rfl⟩
 have hnz2:∀i,i<K.length→(ta.getD i lQ).kind≠0:=fun i hi=>by
  rw[hK,uZ hi,List.getD,gE hi];exact hnz _ (List.getElem_mem hi)
 obtain⟨fs,gs0,s2,e1,e2,e3,e4,e5,e6⟩:=aPt (src':=a++10 :: b) (P:=[]) (b:=0) hm1 rfl hta hlen2 hz hnz2 _ [] [] s00 s00 qa ra ea (aAs hta) ⟨rfl,rfl,rfl,rfl,rfl,Nat.zero_le _⟩;have hd:=aBp _ _ _ _ ra;have hnl:=congrArg List.length e2.nodes;simp only[List.length_map,List.nil_append] at hnl;obtain⟨fs2,gs2,s3,c1,c2,c3,c4,c5⟩:=aIm (src':=a++10 :: b) (P:=s2.nodes.map zlN) (b:=qa.2.nodes.length) hm2 (by simp[hnl]) htb _ [] gs0 s00 s2 qb rb eb (aAs htb)
  ⟨e2.e',by rw[e2.deep,hd],fun _=>by rw[e2.i,e3];simp[s00],fun _=>by simp[s00],fun h=>absurd rfl h,fun _=>htb.pos⟩
 rw[List.nil_append] at e1 c1;have hR:=e6 (gs0++gs2,s3) ⟨_,by simpa using c2⟩;refine⟨s3.nodes,gs0,gs2,by rw[c3.nodes eb,e2.nodes];simp,by rw[e1,e4],by rw[c1,c4],fun i f g hf hg=>e5 i f g (by rw[←e1];exact hf) hg,fun i f g hf hg=>c5 i f g (by rw[←c1];exact hf) hg,?_⟩;have h:=aLh hl' hR;rw[h,if_neg (by show ¬s3.e≠0;rw[c3.e];omega)]
open Pw
def zzE:List UInt8:=[102,110,32,122,122,40,41,123,125]
theorem vO:parseM zzE=some (.good [⟨18,1,0,[],[]⟩] [⟨[122,122],1,[],0,0⟩]):=by kernel_rfl
section
variable {ns ms:List aF}{fs gs:List aD}{d:Nat}
theorem zI {x:Nat}{nd:aF} (h:(ms.map zlN)[x]?=some (shN d nd)):∃line,ms[x]?=some ⟨nd.kind,line,nd.n,nd.name,nd.l.map (· + d)⟩:=by
 rw[List.getElem?_map,mS] at h;obtain⟨nd',hx',h⟩:=h;unfold shN zlN at h;obtain⟨a1,a2,a3,a4,a5⟩:=nd;obtain⟨b1,b2,b3,b4,b5⟩:=nd';injection h with h1 h2 h3 h4 h5;dsimp only at h1 h2 h3 h4 h5 ⊢;exact⟨b2,by rw[hx',h1,h3,h4,h5]⟩
theorem aPk {pre post:List aF} (h:ms.map zlN=pre++(ns.map (shN d)++post)) (hp:pre.length=d):NS d ns ms:=fun x nd hx=>by
 have hlt:=(gK hx);refine zI ?_;rw[h,List.getElem?_append_right (by omega),hp,Nat.add_sub_cancel,List.getElem?_append_left (by rw[List.length_map];exact hlt),List.getElem?_map,hx];rfl
theorem vF {α:Type}{l l':List α}{n d:Nat} (hl:l.length=n) (h:∀i,i<n→l'[i+d]?=l[i]?):(l'.drop d).take n=l:=by
 apply List.ext_getElem?
 intro i;rw[List.getElem?_take];by_cases hi:i<n
 · rw[if_pos hi,List.getElem?_drop,Nat.add_comm d i,h i hi]
 · rw[if_neg hi,List.getElem?_eq_none (by omega)]
def RE {α β:Type} (P:α→β→Prop) (r:CkR α) (q:CkR β):Prop:=match r,q with
 | .good a,.good b=>P a b
 | .bad e _,.bad e' _=>e=e'
 | _,_=>False
theorem RK.re {α β:Type}{P:α→β→Prop}{r:CkR α}{q:CkR β} (h:RK d P r q):RE P r q:=by
 cases r with
 | bad e p=>cases q with
  | bad e' p'=>exact h.1
  | good b=>exact h.elim
 | good a=>cases q with
  | bad e' p'=>exact h.elim
  | good b=>exact h
theorem RE.bind {α β γ δ:Type}{P:α→β→Prop}{Q:γ→δ→Prop}{r:CkR α}{q:CkR β}{f:α→CkR γ}{g:β→CkR δ} (h:RE P r q) (hf:∀a b,P a b→RE Q (f a) (g b)):RE Q (r.bind f) (q.bind g):=by
 cases r with
 | bad e x=>cases q with
  | bad e' x'=>exact h
  | good b=>exact h.elim
 | good a=>cases q with
  | bad e' x'=>exact h.elim
  | good b=>exact hf a b h
theorem RE.map {α β γ δ:Type}{P:α→β→Prop}{Q:γ→δ→Prop}{r:CkR α}{q:CkR β}{f:α→γ}{g:β→δ} (h:RE P r q) (hf:∀a b,P a b→Q (f a) (g b)):RE Q (r.map f) (q.map g):=by
 cases r with
 | bad e x=>cases q with
  | bad e' x'=>exact h
  | good b=>exact h.elim
 | good a=>cases q with
  | bad e' x'=>exact h.elim
  | good b=>exact hf a b h
def zzN:List UInt8:=[122,122]
theorem aAr {c:Nat} (hle:ns.length+d≤ms.length):SS ns.length d c (fG ns) (fG ms):=by
 refine⟨rfl,rfl,List.length_replicate,List.length_replicate,List.length_replicate,?_,?_,?_,fun i hi=>?_,fun i hi=>?_,fun _ i hi=>?_⟩
 · show _≤(List.replicate ms.length 0).length;rw[List.length_replicate];exact hle
 · show _≤(List.replicate ms.length (-1:Int)).length;rw[List.length_replicate];exact hle
 · show _≤(List.replicate ms.length 0).length;rw[List.length_replicate];exact hle
 · show (List.replicate ms.length 0)[i+d]?=(List.replicate ns.length 0)[i]?
   rw[List.getElem?_replicate,List.getElem?_replicate,if_pos hi,if_pos (by omega)]
 · show (List.replicate ms.length (-1:Int))[i+d]?=(List.replicate ns.length (-1:Int))[i]?
   rw[List.getElem?_replicate,List.getElem?_replicate,if_pos hi,if_pos (by omega)]
 · show (List.replicate ms.length 0)[i+d]?=(List.replicate ns.length 0)[i]?
   rw[List.getElem?_replicate,List.getElem?_replicate,if_pos hi,if_pos (by omega)]
theorem xI (ht:xP ns fs) (hN:NS 0 ns ms) (hl:ms.length=ns.length+1) (h:HL 0 fs gs){z:aD} (zn:z.name=zzN) (zp:z.params=[]) (zb:z.body=ns.length){line:Nat} (hz:ms[ns.length]?=some ⟨18,line,0,[],[]⟩) (hf:∀f∈fs,f.name≠zzN) (hn:∀nd∈ns,nd.name≠zzN):
   RE (fun p q=>q.types.take ns.length=p.types∧q.fn.take ns.length=p.fn) (dW ns fs) (dW ms (gs++[z])):=by
 have hF:FS 0 0 zzN fs (gs++[z]):=by rw[←zn];exact FS.behind h
 unfold dW;refine RE.bind (P:=fun _ _=>True) ?_ fun _ _ _=>?_
 · unfold lJ
   have hg:∀g∈gs,g.name≠z.name:=fun g hg=>by
    obtain⟨i,hi,rfl⟩:=List.getElem_of_mem hg;have hi2:i<fs.length:=by have:=h.1;omega
    obtain⟨e1,_⟩:=h.2 i fs[i] gs[i] (gE hi2) (gE hi);rw[e1,zn];exact hf _ (List.getElem_mem _)
   rw[vT gs [] (by simp) hg,uF zzN fs gs [] [] h hf (fun _ _=>Iff.rfl)];cases dJ [] fs with
   | some b=>exact rfl
   | none=>
    simp only[Option.map_none];have hm:(gs++[z]).any fH=fs.any fH:=by
      rw[List.any_append,zM h];have:fH z=false:=by unfold fH;rw[zn];rfl
      simp[this]
    rw[hm];split
    · exact trivial
    · exact rfl
 · rw[aIe]
   have H:=vC (c:=0) (fs':=gs++[z]) ht.ok.nodes hN (by omega) hF hn [] fs gs 0 [] [] (fG ns) (fG ms) (FL.aRl h) (fun f hf=>ht.ok.bodies f hf) (by omega) rfl (aAr (by omega));cases hr:dN ns fs 0 fs [] (fG ns) with
   | bad e x=>
    rw[hr] at H;cases hq:dN ms (gs++[z]) (0+0) gs [] (fG ms) with
    | bad e' x'=>rw[hq] at H;exact H.1
    | good b=>rw[hq] at H;exact H.elim
   | good a=>
    rw[hr] at H;cases hq:dN ms (gs++[z]) (0+0) gs [] (fG ms) with
    | bad e' x'=>rw[hq] at H;exact H.elim
    | good b=>
      rw[hq] at H;simp only[CkR.aJ];unfold dN;rw[aBe hz zp zb];simp only[CkR.aJ];unfold dN;have S:=H.2;refine⟨?_,?_⟩
      · have:=vF (d:=0) S.lt (fun i hi=>S.ty i hi)
        simpa using this
      · have:=vF (l':=b.2.fn.set ns.length (0+gs.length)) (d:=0) S.lf (fun i hi=>by
         rw[List.getElem?_set_ne (by omega)];exact S.fn rfl i hi)
        simpa using this
theorem zX (ht:xP ns fs) (hN:NS 1 ns ms) (hl:ms.length=ns.length+1) (h:HL 1 fs gs){z:aD} (zn:z.name=zzN) (zp:z.params=[]) (zb:z.body=0){line:Nat} (hz:ms[0]?=some ⟨18,line,0,[],[]⟩) (hf:∀f∈fs,f.name≠zzN) (hn:∀nd∈ns,nd.name≠zzN):
   RE (fun p q=>(q.types.drop 1).take ns.length=p.types∧(q.slots.drop 1).take ns.length=p.slots∧q.sizes.drop 1=p.sizes) (dW ns fs) (dW ms (z :: gs)):=by
 have hF:FS 1 1 zzN fs (z :: gs):=by rw[←zn];exact FS.ahead h
 have hc:dN ms (z :: gs) 0 (z :: gs) [] (fG ms)=dN ms (z :: gs) 1 gs [0] { (fG ms) with fn:=(fG ms).fn.set 0 0,vars:=[],size:=0 }:=by
   rw[dN,aBe hz zp zb];rfl
 unfold dW;rw[hc];refine RE.bind (P:=fun _ _=>True) ?_ fun _ _ _=>?_
 · unfold lJ
   have e:dJ [] (z :: gs)=(dJ [] fs).map (· + 1):=by
    rw[dJ,if_neg (by simp)];exact uF zzN fs gs [] [z.name] h hf (fun nm hn=>by rw[zn];simp[hn])
   rw[e];cases dJ [] fs with
   | some b=>exact rfl
   | none=>
    simp only[Option.map_none];have hm:(z :: gs).any fH=fs.any fH:=by
      have:fH z=false:=by unfold fH;rw[zn];rfl
      rw[List.any_cons,this,zM h,Bool.false_or]
    rw[hm];split
    · exact trivial
    · exact rfl
 · have S0:=aAr (ns:=ns) (ms:=ms) (d:=1) (c:=1) (by omega)
   have S1:SS ns.length 1 1 (fG ns) { (fG ms) with fn:=(fG ms).fn.set 0 0,vars:=[],size:=0 }:=⟨rfl,rfl,S0.lt,S0.ls,S0.lf,S0.lt',S0.ls',by show _≤((fG ms).fn.set 0 0).length;rw[List.length_set];exact S0.lf',S0.ty,S0.sl,fun e=>by cases e⟩;refine RE.map (vC (c:=1) (fs':=z :: gs) ht.ok.nodes hN (by omega) hF hn [0] fs gs 0 [] [0] _ _ (FL.aRl h) (fun f hf=>ht.ok.bodies f hf) (by omega) rfl S1).re ?_;rintro a b ⟨h1,S⟩;exact⟨vF S.lt S.ty,vF S.ls S.sl,by show b.1.drop 1=a.1;rw[h1];rfl⟩
end
def aAe (P:fK→fK→Prop):gP→gP→Prop
 | .bad _ e,.bad _ e'=>e=e'
 | .good p,.good q=>P p q
 | _,_=>False
theorem aAu {ns ms:List aF}{fs gs:List aD}{P:fK→fK→Prop}{src src':List UInt8} (h1:parseM src=some (.good ns fs)) (h2:parseM src'=some (.good ms gs)) (h:RE P (dW ns fs) (dW ms gs)){r r':gP} (hr:eX src=some r) (hr':eX src'=some r'):aAe P r r':=by
 unfold eX at hr hr';rw[h1] at hr;rw[h2] at hr';injection hr with hr;injection hr' with hr';subst hr;subst hr';dsimp only;cases hc:dW ns fs with
 | bad e x=>
  rw[hc] at h;cases hd:dW ms gs with
  | bad e' x'=>
   rw[hd] at h;have h:e=e':=h;subst h;dsimp only;by_cases he:e=44
   · rw[if_pos he,if_pos he];rfl
   · rw[if_neg he,if_neg he];rfl
  | good q=>rw[hd] at h;exact h.elim
 | good p=>
  rw[hc] at h;cases hd:dW ms gs with
  | bad e' x'=>rw[hd] at h;exact h.elim
  | good q=>rw[hd] at h;exact h
theorem jH {src:List UInt8}{p:fK} (h:eX src=some (.good p)):nC p∧parseM src=some (.good p.ns p.fs):=by
 unfold eX at h;rw[mS] at h;obtain⟨r,hr,h⟩:=h;cases r with
 | bad p e=>cases h
 | good ns fs=>
  cases hc:dW ns fs with
  | bad e x=>
   simp only[hc] at h;split at h<;>cases h
  | good q=>
   simp only[hc] at h;injection h with h;subst h;obtain⟨h1,h2,h3⟩:=aBq (kP hr) hc;rw[h2,h3];exact⟨h1,hr⟩
section
variable {ns:List aF}{fs:List aD}{src:List UInt8}
theorem wQ (hP:parseM src=some (.good ns fs)) (h6:fs.length<6) (hn3:ns.length≤290) (hl:src.length≤500) (hf:∀f∈fs,f.name≠zzN) (hn:∀nd∈ns,nd.name≠zzN){r r':gP} (hr:eX src=some r) (hr':eX (src++10 :: zzE)=some r'):
  aAe (fun p q=>p.ns.length=ns.length∧q.ns.length=ns.length+1∧q.types.take ns.length=p.types∧q.fn.take ns.length=p.fn) r r':=by
 have TI:=kP hP;obtain⟨ms,gs,hs,j1,j2,j3,j4,j5,j6⟩:=sP hP vO (by rw[List.length_append];simp[zzE];omega);obtain⟨z,rfl⟩:=List.length_eq_one_iff.1 j3.symm;obtain⟨zn,zp,zr,zb⟩:=j5 0 _ z rfl rfl;dsimp only at zn zp zr zb;have hlN:ms.length=ns.length+1:=by have:=congrArg List.length j1;simpa using this
 have HLx:HL 0 fs gs:=⟨j2,fun i f g h1 h2=>by
  obtain⟨e1,e2,e3,e4⟩:=j4 i f g h1 h2;exact⟨e1,e2,e3,e4⟩⟩
 have hN:NS 0 ns ms:=aPk (pre:=[]) (post:=([⟨18,1,0,[],[]⟩]:List aF).map (shN ns.length)) (by simpa using j1) rfl;have hz:∃line,ms[ns.length]?=some ⟨18,line,0,[],[]⟩:=by
  have:=zI (ms:=ms) (d:=ns.length) (x:=ns.length) (nd:=⟨18,1,0,[],[]⟩) (by
    rw[j1,List.getElem?_append_right (by rw[List.length_map];exact Nat.le_refl _),List.length_map,Nat.sub_self];rfl)
  exact this
 obtain⟨line,hz⟩:=hz;have hp3:(gs++[z]).any (fun f=>decide (3<f.params.length))=false:=by
  rw[List.any_append,Bool.or_eq_false_iff];refine⟨List.any_eq_false.2 fun g hg=>?_,by simp[zp]⟩;obtain⟨i,hi,rfl⟩:=List.getElem_of_mem hg;have hi2:i<fs.length:=by omega
  obtain⟨_,e2,_⟩:=j4 i fs[i] gs[i] (gE hi2) (gE hi);have:=TI.ok.pars fs[i] (List.getElem_mem _);rw[e2];simp;omega
 rw[if_neg (by
  rintro (e|e|e)
  · omega
  · rw[List.length_append] at e;simp at e;omega
  · rw[hp3] at e;cases e)] at j6
 have H:=xI TI hN hlN HLx zn zp (by rw[zb];omega) hz hf hn;have K:=aAu hP j6 H hr hr';cases r with
 | bad p e=>cases r' with
  | bad p' e'=>exact K
  | good q=>exact K.elim
 | good p=>cases r' with
  | bad p' e'=>exact K.elim
  | good q=>
    obtain⟨_,i1⟩:=jH hr;obtain⟨_,i2⟩:=jH hr';rw[hP] at i1;injection i1 with i1;injection i1 with i1 _;rw[j6] at i2;injection i2 with i2;injection i2 with i2 _;exact⟨by rw[←i1],by rw[←i2];exact hlN,K⟩
theorem zL (hP:parseM src=some (.good ns fs)) (h6:fs.length<6) (hn3:ns.length≤290) (hl:src.length≤500) (hf:∀f∈fs,f.name≠zzN) (hn:∀nd∈ns,nd.name≠zzN){r r':gP} (hr:eX src=some r) (hr':eX (zzE++10 :: src)=some r'):
  aAe (fun p q=>p.ns.length=ns.length∧q.ns.length=ns.length+1∧q.types.drop 1=p.types∧q.slots.drop 1=p.slots∧q.sizes.drop 1=p.sizes) r r':=by
 have TI:=kP hP;obtain⟨ms,gs,hs,j1,j2,j3,j4,j5,j6⟩:=sP vO hP (by rw[List.length_append];simp[zzE];omega);obtain⟨z,rfl⟩:=List.length_eq_one_iff.1 j2.symm;obtain⟨zn,zp,zr,zb⟩:=j4 0 _ z rfl rfl;dsimp only at zn zp zr zb;have hlN:ms.length=ns.length+1:=by have:=congrArg List.length j1;simp at this;omega
 have HLx:HL 1 fs hs:=⟨j3,fun i f g h1 h2=>by
  obtain⟨e1,e2,e3,e4⟩:=j5 i f g h1 h2;exact⟨e1,e2,e3,e4⟩⟩
 have hN:NS 1 ns ms:=aPk (pre:=([⟨18,1,0,[],[]⟩]:List aF).map (shN 0)) (post:=[]) (by simpa using j1) rfl;have hz:∃line,ms[0]?=some ⟨18,line,0,[],[]⟩:=by
  have:=zI (ms:=ms) (d:=0) (x:=0) (nd:=⟨18,1,0,[],[]⟩) (by rw[j1];rfl);exact this
 obtain⟨line,hz⟩:=hz;have hp3:([z]++hs).any (fun f=>decide (3<f.params.length))=false:=by
  rw[List.any_append,Bool.or_eq_false_iff];refine⟨by simp[zp],List.any_eq_false.2 fun g hg=>?_⟩;obtain⟨i,hi,rfl⟩:=List.getElem_of_mem hg;have hi2:i<fs.length:=by omega
  obtain⟨_,e2,_⟩:=j5 i fs[i] hs[i] (gE hi2) (gE hi);have:=TI.ok.pars fs[i] (List.getElem_mem _);rw[e2];simp;omega
 rw[if_neg (by
  rintro (e|e|e)
  · omega
  · rw[List.length_append] at e;simp at e;omega
  · rw[hp3] at e;cases e)] at j6
 have H:=zX TI hN hlN HLx zn zp (by rw[zb]) hz hf hn;have K:=aAu hP j6 H hr hr';cases r with
 | bad p e=>cases r' with
  | bad p' e'=>exact K
  | good q=>exact K.elim
 | good p=>cases r' with
  | bad p' e'=>exact K.elim
  | good q=>
    obtain⟨_,i1⟩:=jH hr;obtain⟨I2,i2⟩:=jH hr';rw[hP] at i1;injection i1 with i1;injection i1 with i1 _;rw[j6] at i2;injection i2 with i2;injection i2 with i2 _;have hq:q.ns.length=ns.length+1:=by rw[←i2];exact hlN
    obtain⟨k1,k2,k3⟩:=K;refine⟨by rw[←i1],hq,?_,?_,k3⟩
    · rw[←k1,List.take_of_length_le (by rw[List.length_drop,I2.lt];omega)]
    · rw[←k2,List.take_of_length_le (by rw[List.length_drop,I2.ls];omega)]
end
end Go.Proofs.YtlbjicjinnnboaaGreatDoor
/- What the rows' listed variables give the walks. -/
namespace Go.Proofs.YtlbjicjinnnboaaGreatDoor
open Go.ChangeShapes Go.WideShapes Go.ChangeAt Go.RowKit
set_option maxRecDepth 100000
theorem aRv:ownKnob Tryz.prog.godebug=none:=by kernel_rfl
theorem aNi {W : World} (h : laidMetH Tryz.prog Rows.parseBelowRow.laid W) : ∃ tp p, W.var? Tryz.prog "strconv.ErrRange" = some #[.iface tp p] := by
 rw[MakeChecks.laidMetH_plain _ _ _ (by kernel_rfl)] at h;obtain⟨ps,h,_,_⟩:=h;obtain⟨_,_,_,_,_,_,_,_,_,_,⟨_,_,_,_,_,_,_,_,_,_,⟨_,_,_,_,_,_,_,_,_,_,⟨_,_,_,_,_,_,_,_,_,_,⟨g,t,cs,f,p,q,hg,ht,hv,hd,_⟩,_⟩,_⟩,_⟩,_⟩:=h
 obtain rfl := Option.some.inj ((show Tryz.prog.globalNamed "strconv.ErrRange" = some 2 by kernel_rfl).symm.trans hg)
 obtain rfl:=Option.some.inj ((show (Tryz.prog.globals[2]?).map (·.type)=some 159 by kernel_rfl).symm.trans ht);obtain⟨f1,u,v,hcs,_,_⟩:=iface_of_trod Tryz.underlying159 hd;rw[Array.eq_one_of_toList hcs] at hv;exact⟨u,v,hv⟩
theorem oM {H:Type}{enc:TypeId×Value→H}{a:Assume}{C:Checked}{os:Os}{f:FuncId}{fn:Func}{s:ChangeSpec}{conds:List PathCond}{apart fresh handsOn again:Bool}{X:World→Array Value→Prop}
  (hX:∀(w w':World) (args:Array Value),w.heap=w'.heap→X w args→X w' args)
  (own:ownKnob C.prog.godebug=none) (started:os.Started) (noInit:C.prog.inits.idxOf? f=none) (hfn:C.prog.funcs[f]?=some fn)
  (witness:∃(w:World) (tape:Tape) (i:Input),w.os=os∧(w.forCall tape i).Shaped C.prog∧i.vars=[]∧Input.okWide C.prog (w.forCall tape i) .any w.heap.size f i ∧
    ((s.pre enc C.prog fn conds apart (w.forCall tape i).memory i.args∧X (w.forCall tape i).memory i.args)∧sizedMet enc C.prog fn (OpenSpec.ofChange s) apart (w.forCall tape i).memory i.args)∧a.holds C.prog (lone (Frame.enter C.prog f i.args .normal) [] (w.forCall tape i)))
  (contract:∀(W:World) (base:Nat) (args:Array Value) (ds gs:List (DataW H)) (before:List MemPlace),
    (∀(j:Nat) t v,fn.params[j]?=some t→args[j]?=some v→Value.okWide C.prog W .any base t v) →
    DataW.Whole enc C.prog fn.params.toList s.vars apart W args.toList ds gs before →
    (DataW.weightsEach C.prog (fn.params.toList++s.plain.varTypes C.prog) (ds++gs)).all (· ≤ reachBytes)=true→X W args→W.ShapedOpen C.prog →
    Calls C.prog f args W fun e W'=>∃v,e = .returned v∧s.post enc C.prog fn apart fresh handsOn again W args v W'):
  ReturnsInHanded a C os f .any (fun w args=>(s.pre enc C.prog fn conds apart w args∧X w args)∧sizedMet enc C.prog fn (OpenSpec.ofChange s) apart w args) (s.post enc C.prog fn apart fresh handsOn again):=by
 refine returnsInHanded_of_calls own started noInit witness ?_;intro w tape i _ hsh _ hok hpre _;obtain⟨_,_,_,fn',hfn',_,_,_,_,hval⟩:=hok;obtain rfl:fn'=fn:=Option.some.inj (hfn'.symm.trans hfn);obtain⟨⟨⟨ds,gs,before,hw,_⟩,hx⟩,hz⟩:=hpre;refine (contract (w.forCall tape i) w.heap.size i.args ds gs before hval (DataW.Whole.of_heap (w':=w.forCall tape i) (by rfl) hw) (hz.weights hw) (hX _ _ _ (by rfl) hx) hsh).mono fun e W' ⟨v,he,hp⟩=>?_
 subst he;exact ChangeSpec.post_blind hp
theorem xZ {W:World} (h:laidMetH Tryz.prog Rows.parseBelowRow.laid W) (hs:W.ShapedOpen Tryz.prog):aAg W:=by
 obtain⟨m,hm⟩:=Tryz.laysM219.s1_3 W hs;refine⟨⟨⟨m,by exact hm⟩,aNi h⟩,m,?_⟩;obtain⟨cs,hh,hz,_⟩:=hs.1 0 #[.int .i64 0] 3 (by decide +kernel) (by kernel_rfl);have hc:Blk W 0 3 cs:=hh;change W.cell? ⟨0,0,none⟩=some (.int .i64 m) at hm;rw[hc.cell 0] at hm;obtain⟨l⟩:=cs
 match l,hz with
 | [x],_=>
  simp at hm
  subst hm;exact hc
end Go.Proofs.YtlbjicjinnnboaaGreatDoor
