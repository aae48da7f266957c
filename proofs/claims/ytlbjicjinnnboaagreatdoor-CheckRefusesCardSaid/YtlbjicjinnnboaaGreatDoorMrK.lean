/- MrK: BwP, BwB, SgA, gX, aQy, QHas, QPut, LXA, LXB, LXC, LXD, LXE, LXF, LXG. -/
import Derived.Test.YtlbjicjinnnboaaGreatDoorUShelf
import Derived.Test.YtlbjicjinnnboaaGreatDoorMrJ
import Derived.Test.YtlbjicjinnnboaaGreatDoorMrB
import Derived.Test.YtlbjicjinnnboaaGreatDoorMrC
import Derived.Test.YtlbjicjinnnboaaGreatDoorMrA
set_option maxHeartbeats 8000000
set_option maxRecDepth 100000
set_option linter.unusedVariables false
set_option linter.unusedSimpArgs false
/- ParseBelow: nodes stand behind those below them, in order. The first part of BkG, in Pw. -/
namespace Go.Proofs.YtlbjicjinnnboaaGreatDoor
open Go.RowKit Go.Proofs.Tryz
namespace Pw
variable {st:List Nat}
inductive Pst:List aH->List Nat->Prop where
 | nil:Pst [] []
 | put (ns:List aH) (st:List Nat) (nd:aH) (h:Pst ns (st++nd.l)):Pst (ns++[nd]) (st++[ns.length])
theorem Pst.lt {ns:List aH} (h:Pst ns st):∀a∈st,a<ns.length:=by
 induction h with
 | nil=>intro a ha;cases ha
 | put ns st nd h ih=>
  intro a ha;rw[List.length_append,List.length_singleton];rcases List.mem_append.1 ha with ha|ha
  . have:=ih a (List.mem_append_left _ ha);omega
  . rw[List.mem_singleton.1 ha];omega
section
variable {src:List UInt8}{ts:List Tok}
theorem fO {s:PS}{k line n:Nat}{name:List UInt8}{l:List Nat} (h:Pst s.nodes (st++l)):Pst (bY k line n name l s).2.nodes (st++(bY k line n name l s).1):=Pst.put s.nodes st ⟨k,line,n,name,l⟩ h
theorem aNw:∀(n:Nat) (k:Task) (s:PS) (r:List Nat×PS),run src ts n k s=some r->r.2.e=0->∀st,Pst s.nodes (st++eD k)->Pst r.2.nodes (st++r.1):=by
 intro n;induction n with
 | zero=>intro k s r h;simp[run] at h
 | succ n ih=>
  intro k s r h he st hp;have ih2:∀{k:Task} {s:PS} {r:List Nat×PS} {ns:List aH} {st:List Nat},run src ts n k s=some r->r.2.e=0->s.nodes=ns->Pst ns (st++eD k)->Pst r.2.nodes (st++r.1):=λh1 h2 h3 h4=>by
   subst h3;exact ih _ _ _ h1 h2 _ h4
  have uW:∀(k line m:Nat) (name:List UInt8) (t:PS),t.nodes=s.nodes->Pst s.nodes st->Pst (bY k line m name [] t).2.nodes (st++(bY k line m name [] t).1):=λk line m name t h1 h2=>fO (by rw[h1,List.append_nil];exact h2)
  cases k with
  | atom=>
   simp only[run] at h;simp only[eD,List.append_nil] at hp;split at h
   . rename_i h0
     simp only[Option.some.injEq] at h;subst h;exact absurd he h0
   . split at h
     . simp only[Option.some.injEq] at h;subst h;exact uW _ _ _ _ (pGo s) rfl hp
     . split at h
       . simp only[Option.some.injEq] at h;subst h;exact uW _ _ _ _ (pGo s) rfl hp
       . split at h
         . split at h
           . simp only[mS] at h
             obtain⟨q,hq,rfl⟩:=h;have c:=ih2 (st:=st) hq (jK (x:=[93]) (ts:=ts) he) (show _=s.nodes by rw[aB,bK];rfl) (by simpa[eD] using hp);exact fO (by rw[uZ,aB];exact c)
           . simp only[Option.some.injEq] at h;subst h;exact uW _ _ _ _ (pGo s) rfl hp
         . split at h
           . simp only[Option.some.injEq] at h;subst h;exact uW _ _ _ _ (pGo s) rfl hp
           . split at h
             . simp only[Option.some.injEq] at h;subst h;exact uW _ _ _ _ (pGo s) rfl hp
             . split at h
               . split at h
                 . simp only[mS] at h
                   obtain⟨q,hq,rfl⟩:=h;have c:=ih2 (st:=st) hq (jK (x:=[41]) (ts:=ts) he) (show _=s.nodes by rw[aB,bK];rfl) (by simpa[eD] using hp);exact fO (by rw[uZ,aB];exact c)
                 . simp only[Option.some.injEq] at h;subst h;exact (mH (by decide) he).elim
               . split at h
                 . simp only[mS] at h
                   obtain⟨q,hq,rfl⟩:=h;have c:=ih2 (st:=st) hq (jK (x:=[41]) (ts:=ts) he) (show _=s.nodes by rw[aB,bK]) (by simpa[eD] using hp)
                   show Pst (aA ts [41] q.2).nodes (st++q.1)
                   rw[aB];exact c
                 . simp only[Option.some.injEq] at h;subst h;exact (mH (by decide) he).elim
  | factor=>
   simp only[run] at h;simp only[eD,List.append_nil] at hp;have go:∀{k},((run src ts n .factor (pGo (aU ts s))).map λr=>bY k (aR src ts s) 0 [] r.1 (pUp r.2))=some r->Pst r.2.nodes (st++r.1):=λh=>by
     simp only[mS] at h;obtain⟨q,hq,rfl⟩:=h;have c:=ih2 (st:=st) hq he (show (aU ts s).nodes=s.nodes from bK s) (by simpa[eD] using hp);exact fO c
   split at h
   . exact go h
   . split at h
     . exact go h
     . exact ih _ _ _ h he st (by simpa[eD] using hp)
  | chain lv=>
   simp only[run] at h;simp only[eD,List.append_nil] at hp;split at h
   . exact ih _ _ _ h he st (by simpa[eD] using hp)
   . simp only[bS] at h
     obtain⟨q,hq,h⟩:=h;have hq1:=aK _ _ _ _ hq trivial;have c:=ih2 (st:=st) hq (uO h he) rfl (by simpa[eD] using hp);rw[hq1] at c;exact ih _ _ _ h he st c
  | more lv line y=>
   simp only[run] at h;simp only[eD] at hp;split at h
   . simp only[Option.some.injEq] at h;subst h;exact hp
   . simp only[bS] at h
     obtain⟨q,hq,h⟩:=h;have hq1:=aK _ _ _ _ hq trivial;have key:q.2.e=0->Pst (bY 9 line 0 (fC ts lv s) [y,q.1.headD 0] q.2).2.nodes (st++(bY 9 line 0 (fC ts lv s) [y,q.1.headD 0] q.2).1):=λe1=>by
       have c:=ih2 (st:=st++[y]) hq e1 (show (pGo s).nodes=s.nodes from rfl) (by simpa[eD] using hp);rw[hq1,List.append_assoc] at c;exact fO c
     split at h
     . simp only[Option.some.injEq] at h;subst h
       exact key he
     . have e5:=uO h he
       exact ih _ _ _ h he st (key e5)
  | args l=>
   simp only[run,bS] at h;simp only[eD] at hp;obtain⟨q,hq,h⟩:=h;have key:q.2.e=0->Pst q.2.nodes (st++(l++q.1)):=λe1=>by
     have c:=ih2 (st:=st++l) hq e1 rfl (by simpa[eD] using hp);rw[List.append_assoc] at c;exact c
   split at h
   . have e1:=uO h he
     exact ih _ _ _ h he st (key e1)
   . simp only[Option.some.injEq] at h;subst h
     exact key he
  | call=>
   simp only[run,mS] at h;simp only[eD,List.append_nil] at hp;obtain⟨q,hq,rfl⟩:=h;have e1:q.2.e=0:=jK (x:=[41]) (ts:=ts) he;have hn:(aA ts [40] (aF ts s)).nodes=s.nodes:=by rw[aB,bG]
   have key:Pst q.2.nodes (st++q.1):=by
     split at hq
     . exact ih2 hq e1 hn (by simpa[eD] using hp)
     . simp only[Option.some.injEq] at hq;subst hq
       show Pst (aA ts [40] (aF ts s)).nodes (st++[])
       rw[hn,List.append_nil];exact hp
   exact fO (by rw[aB];exact key)
  | right=>
   simp only[run] at h;simp only[eD,List.append_nil] at hp;split at h
   . simp only[Option.some.injEq] at h;subst h;exact uW _ _ _ _ (pGo s) rfl hp
   . split at h
     . simp only[mS] at h
       obtain⟨q,hq,rfl⟩:=h;have c:=ih2 (st:=st) hq (jK (x:=[41]) (ts:=ts) he) (show _=s.nodes by rw[aB];rfl) (by simpa[eD] using hp);exact fO (by rw[aB];exact c)
     . split at h<;>exact ih _ _ _ h he st (by simpa[eD] using hp)
  | block=>
   simp only[run] at h;simp only[eD,List.append_nil] at hp;split at h
   . simp only[mS] at h
     obtain⟨q,hq,rfl⟩:=h;have c:=ih2 (st:=st) hq (jK (x:=[125]) (ts:=ts) he) (show _=s.nodes by rw[aB,bK]) (by simpa[eD] using hp);exact fO (by rw[uZ,aB];exact c)
   . simp only[Option.some.injEq] at h;subst h;exact (mH (by decide) he).elim
  | stmts l=>
   simp only[run] at h;simp only[eD] at hp;split at h
   . rename_i h0
     simp only[Option.some.injEq] at h;subst h;exact absurd he h0
   . split at h
     . simp only[Option.some.injEq] at h;subst h;exact hp
     . simp only[bS] at h
       obtain⟨q,hq,h⟩:=h;have c:=ih2 (st:=st++l) hq (uO h he) rfl (by simpa[eD] using hp);rw[List.append_assoc] at c;exact ih _ _ _ h he st c
  | named line=>
   simp only[run] at h;simp only[eD,List.append_nil] at hp;split at h
   . simp only[mS] at h
     obtain⟨q,hq,rfl⟩:=h;have c:=ih2 (st:=st) hq (jK (x:=[59]) (ts:=ts) he) rfl (by simpa[eD] using hp);exact fO (by rw[aB];exact c)
   . split at h
     . simp only[mS,bS] at h
       obtain⟨q,hq,u,hu,rfl⟩:=h;have e2:u.2.e=0:=jK (x:=[59]) (ts:=ts) he;have e1:q.2.e=0:=jK (ts:=ts) (x:=[93]) (s:=q.2) (jK (ts:=ts) (x:=[61]) (s:=pUp (aA ts [93] q.2)) (uO hu e2));have c:=ih2 (st:=st) hq e1 (show _=s.nodes by rw[aB,bK,bG]) (by simpa[eD] using hp);have g:=ih2 (st:=st++q.1) hu e2 (show (aA ts [61] (pUp (aA ts [93] q.2))).nodes=q.2.nodes by rw[aB];exact aB _ _) (by simpa[eD] using c);rw[List.append_assoc] at g;exact fO (by rw[aB];exact g)
     . simp only[mS] at h
       obtain⟨q,hq,rfl⟩:=h;have c:=ih2 (st:=st) hq (jK (x:=[59]) (ts:=ts) he) (show _=s.nodes by rw[aB,bG]) (by simpa[eD] using hp);exact fO (by rw[aB];exact c)
  | stmt=>
   simp only[run] at h;simp only[eD,List.append_nil] at hp;split at h
   . simp only[mS] at h
     obtain⟨q,hq,rfl⟩:=h;have c:=ih2 (st:=st) hq (jK (x:=[59]) (ts:=ts) he) (show _=s.nodes by rw[aB,bG];rfl) (by simpa[eD] using hp);exact fO (by rw[aB];exact c)
   . split at h
     . simp only[mS] at h
       obtain⟨q,hq,rfl⟩:=h;have c:=ih2 (st:=st) hq (jK (x:=[59]) (ts:=ts) he) (show (pGo s).nodes=s.nodes from rfl) (by simpa[eD] using hp);exact fO (by rw[aB];exact c)
     . split at h
       . simp only[mS,bS] at h
         obtain⟨q,hq,u,hu,rfl⟩:=h;have e1:q.2.e=0:=uO hu he;have c:=ih2 (st:=st) hq e1 (show (pGo s).nodes=s.nodes from rfl) (by simpa[eD] using hp);have g:=ih2 (st:=st++q.1) hu he rfl (by simpa[eD] using c);rw[List.append_assoc] at g;exact fO g
       . split at h
         . simp only[bS] at h
           obtain⟨q,hq,u,hu,h⟩:=h;split at h
           . simp only[mS] at h
             obtain⟨v,hv,rfl⟩:=h;have e2:u.2.e=0:=uO (s:=pGo u.2) hv he;have e1:q.2.e=0:=uO hu e2;have c:=ih2 (st:=st) hq e1 (show (pGo s).nodes=s.nodes from rfl) (by simpa[eD] using hp);have g:=ih2 (st:=st++q.1) hu e2 rfl (by simpa[eD] using c);have g2:=ih2 (st:=st++q.1++u.1) hv he (show (pGo u.2).nodes=u.2.nodes from rfl) (by simpa[eD] using g);exact fO (by rw[<-List.append_assoc,<-List.append_assoc];exact g2)
           . simp only[Option.some.injEq] at h;subst h
             have e1:q.2.e=0:=uO hu he;have c:=ih2 (st:=st) hq e1 (show (pGo s).nodes=s.nodes from rfl) (by simpa[eD] using hp);have g:=ih2 (st:=st++q.1) hu he rfl (by simpa[eD] using c);exact fO (by rw[<-List.append_assoc];exact g)
         . split at h
           . split at h
             . simp only[Option.some.injEq] at h;subst h
               exact uW 17 (aR src ts s) 0 [] (aA ts [59] (pGo s)) (by rw[aB];rfl) hp
             . simp only[mS] at h
               obtain⟨q,hq,rfl⟩:=h;have c:=ih2 (st:=st) hq (jK (x:=[59]) (ts:=ts) he) (show (pGo s).nodes=s.nodes from rfl) (by simpa[eD] using hp);exact fO (by rw[aB];exact c)
           . exact ih _ _ _ h he st (by simpa[eD] using hp)
theorem aLv {n:Nat}{s:PS}{fs:aD×PS} (h:bO src ts n s=some fs) (he:fs.2.e=0) (hs:Pst s.nodes st):Pst fs.2.nodes (st++[fs.1.body]):=by
 simp only[bO,bS,mS] at h;obtain⟨p,hp,b,hb,rfl⟩:=h;have hn1:(aA ts [40] (aF ts (aA ts [102,110] s))).nodes=s.nodes:=by rw[aB,bG,aB]
 have h2:p.2.nodes=s.nodes:=by
  split at hp
  . rw[jQ _ _ _ _ hp,hn1]
  . simp only[Option.some.injEq] at hp
    subst hp;exact hn1
 have hb1:=aK _ _ _ _ hb trivial;have hn:(if pIs ts [123] (aA ts [41] p.2)=true then aA ts [41] p.2 else bC ts (aA ts [41] p.2)).nodes=s.nodes:=by
  split
  . rw[aB,h2]
  . rw[jI,aB,h2]
 have c:=aNw _ _ _ _ hb he st (by rw[hn];simpa[eD] using hs);rw[hb1] at c;exact c
theorem aHy:∀(n:Nat) (acc:List aD) (s:PS) (r:List aD×PS),bA src ts n acc s=some r->r.2.e=0->Pst s.nodes (acc.map (·.body))->Pst r.2.nodes (r.1.map (·.body))
 | 0,_,_,_,h,_,_=>by simp[bA] at h
 | n+1,acc,s,r,h,he,hs=>by
  simp only[bA] at h;split at h
  . simp only[Option.some.injEq] at h;subst h;exact hs
  . split at h
    . simp only[Option.some.injEq] at h;subst h;exact hs
    . simp only[bS] at h
      obtain⟨fs,hfs,h⟩:=h;refine aHy n _ _ _ h he ?_;rw[List.map_append];exact aLv hfs ((kQ _ _ _ _ h).e0 he) hs
end
end Pw
namespace Pw
section
variable {src:List UInt8}{ts:List Tok}
end
theorem Pst.asc {ns:List aH}{st:List Nat} (h:Pst ns st):st.Pairwise (· < ·)∧∀(i:Nat) (nd:aH),ns[i]?=some nd->nd.l.Pairwise (· < ·):=by
 induction h with
 | nil=>exact⟨List.Pairwise.nil,λi nd h=>by simp at h⟩
 | put ns st nd h ih=>
  obtain⟨a,b⟩:=ih;obtain⟨a1,a2,a3⟩:=List.pairwise_append.1 a;refine⟨List.pairwise_append.2 ⟨a1,List.pairwise_singleton _ _,λx hx y hy=>?_⟩,λi x hx=>?_⟩
  . rw[List.mem_singleton.1 hy]
    exact h.lt x (List.mem_append_left _ hx)
  . by_cases hi:i<ns.length
    . rw[List.getElem?_append_left hi] at hx
      exact b i x hx
    . rw[List.getElem?_append_right (by omega)] at hx
      by_cases he:i=ns.length
      . subst he
        rw[Nat.sub_self] at hx;simp at hx
        subst hx;exact a2
      . rw[List.getElem?_eq_none (by simp;omega)] at hx;cases hx
structure Below (ns:List aH) (fs:List aD):Prop where
 ok:lG ns fs
 lines:vQ ns
 asc:∀(i:Nat) (nd:aH),ns[i]?=some nd->nd.l.Pairwise (· < ·)
 par:∀x,aSp ns x+aRz fs x=if x<ns.length then 1 else 0
end Pw
namespace Pw
open Go.Proofs.Tryz
inductive Seg (ns:List aH):Nat->List Nat->Nat->Prop where
 | nil (a:Nat):Seg ns a [] a
 | cons (a x:Nat) (l:List Nat) (b:Nat) (nd:aH) (hx:ns[x]?=some nd) (h:Seg ns a nd.l x) (h2:Seg ns (x+1) l b):Seg ns a (x :: l) b
section
variable {ns:List aH}{a b c:Nat}{l m:List Nat}
theorem Seg.le (h:Seg ns a l b):a≤b:=by
 induction h with
 | nil=>exact Nat.le_refl _
 | cons a x l b nd hx h h2 ih1 ih2=>omega
theorem Seg.ext (h:Seg ns a l b) (u:List aH):Seg (ns++u) a l b:=by
 induction h with
 | nil a=>exact .nil a
 | cons a x l b nd hx h h2 ih1 ih2=>exact .cons a x l b nd (by rw[List.getElem?_append_left (gK hx)];exact hx) ih1 ih2
theorem Seg.split:∀{l m:List Nat}{a b:Nat},Seg ns a (l++m) b->∃c,Seg ns a l c∧Seg ns c m b
 | [],m,a,b,h=>⟨a,.nil a,h⟩
 | x :: l,m,a,b,h=>by
  cases h with
  | cons _ _ _ _ nd hx h h2=>
   obtain⟨c,h3,h4⟩:=Seg.split h2;exact⟨c,.cons a x l c nd hx h h3,h4⟩
theorem Seg.app (h:Seg ns a l c) (h2:Seg ns c m b):Seg ns a (l++m) b:=by
 induction h with
 | nil a=>exact h2
 | cons a x l b nd hx h _ ih1 ih2=>exact .cons _ _ _ _ nd hx h (ih2 h2)
theorem Pst.seg {ns:List aH}{st:List Nat} (h:Pst ns st):Seg ns 0 st ns.length:=by
 induction h with
 | nil=>exact .nil 0
 | put ns st nd h ih=>
  obtain⟨c,h1,h2⟩:=ih.split;rw[List.length_append,List.length_singleton];exact (h1.ext _).app (.cons _ _ _ _ nd (by simp) (h2.ext _) (.nil _))
end
section
variable {src:List UInt8}{ts:List Tok}
theorem aEy {s:PS} (h:(bC ts s).e=0):1≤eF ts s:=by
 unfold bC at h;split at h
 . exact (mH (by decide) h).elim
 . omega
theorem tO:∀(n:Nat) (acc:List (List UInt8×Nat)) (s:PS) (p:List (List UInt8×Nat)×PS),aJ ts n acc s=some p->p.2.e=0->(∀q∈acc,1≤q.2)->∀q∈p.1,1≤q.2
 | 0,_,_,_,h,_,_=>by simp[aJ] at h
 | n+1,acc,s,p,h,he,ha=>by
  have h2:(bC ts (aF ts s)).e=0->∀q∈acc++[(dH ts s,eF ts (aF ts s))],1≤q.2:=λh0 q hq=>by
    rcases List.mem_append.1 hq with hq|hq
    . exact ha q hq
    . rw[List.mem_singleton.1 hq];exact aEy h0
  simp only[aJ] at h;split at h
  . exact tO n _ _ _ h he (h2 ((jY _ _ _ _ h).e0 he))
  . simp only[Option.some.injEq] at h
    subst h;exact h2 he
theorem aLw {n:Nat}{s:PS}{fs:aD×PS} (h:bO src ts n s=some fs) (he:fs.2.e=0):∀p∈fs.1.params,1≤p.2:=by
 simp only[bO,bS,mS] at h;obtain⟨p,hp,b,hb,rfl⟩:=h;have h5:=(aI _ _ _ _ hb).e0 he;have h4:(aA ts [41] p.2).e=0:=by
   split at h5
   . exact h5
   . exact ((Ext.refl (aA ts [41] p.2)).typed (ts:=ts)).e0 h5
 have h3:p.2.e=0:=jK (x:=[41]) (ts:=ts) h4;split at hp
 . exact tO _ _ _ _ hp h3 (λq hq=>by cases hq)
 . simp only[Option.some.injEq] at hp
   subst hp;exact λq hq=>by cases hq
theorem aHz:∀(n:Nat) (acc:List aD) (s:PS) (r:List aD×PS),bA src ts n acc s=some r->r.2.e=0->(∀f∈acc,∀p∈f.params,1≤p.2)->∀f∈r.1,∀p∈f.params,1≤p.2
 | 0,_,_,_,h,_,_=>by simp[bA] at h
 | n+1,acc,s,r,h,he,ha=>by
  simp only[bA] at h;split at h
  . simp only[Option.some.injEq] at h;subst h;exact ha
  . split at h
    . simp only[Option.some.injEq] at h;subst h;exact ha
    . simp only[bS] at h
      obtain⟨fs,hfs,h⟩:=h;refine aHz n _ _ _ h he (λf hf=>?_);rcases List.mem_append.1 hf with hf|hf
      . exact ha f hf
      . rw[List.mem_singleton.1 hf];exact aLw hfs ((kQ _ _ _ _ h).e0 he)
end
theorem aJa:∀(l:List Nat) (a n:Nat),l.Pairwise (· < ·)->(∀x∈l,a≤x∧x<n)->l.length≤n - a
 | [],_,_,_,_=>by simp
 | x :: l,a,n,h,hb=>by
  obtain⟨h1,h2⟩:=List.pairwise_cons.1 h;have:=aJa l (x+1) n h2 (λy hy=>⟨h1 y hy,(hb y (List.mem_cons_of_mem _ hy)).2⟩);have:=hb x (List.mem_cons_self ..);rw[List.length_cons];omega
structure aQx (ns:List aH) (fs:List aD):Prop where
 ok:lG ns fs
 seg:Seg ns 0 (fs.map (·.body)) ns.length
 pos:∀f∈fs,∀p∈f.params,1≤p.2
 rows:∀nd∈ns,nd.l.length≤300
theorem aOq {ns:List aH}{nd:aH} (h:eB ns nd):∀a∈nd.l,a<ns.length:=by
 have kl:∀{ns:List aH} {cls:Nat->Bool} {x:Nat},Kid ns cls x->x<ns.length:=λh=>by
  obtain⟨c,hc,_⟩:=h;exact (gK hc)
 cases h<;>intro x hx<;>simp only[List.mem_cons,List.not_mem_nil,or_false] at hx
 all_goals first
  | exact hx.elim
  | (subst hx;exact kl (by assumption))
  | (rcases hx with hx|hx<;>subst hx<;>exact kl (by assumption))
  | (rcases hx with hx|hx|hx<;>subst hx<;>exact kl (by assumption))
  | (rename_i h1;exact kl (h1 x hx))
theorem uX {src:List UInt8}{ns:List aH}{fs:List aD} (h:parseM src=some (.good ns fs)):aQx ns fs:=by
 have h1:=aAq h;unfold parseM at h;cases hl:nP src with
 | bad p e=>rw[hl] at h;simp at h
 | good ts=>
  rw[hl] at h;simp only[mF,mS] at h;obtain⟨q,hq,h⟩:=h;split at h
  . cases h
  . rename_i h0
    have h0:q.2.e=0:=by simpa using h0
    split at h
    . cases h
    . injection h with e1 e2
      subst e1;subst e2;have hp:=aHy _ _ _ _ hq h0 Pst.nil;refine⟨h1,hp.seg,aHz _ _ _ _ hq h0 (λf hf=>by cases hf),λnd hnd=>?_⟩;obtain⟨i,hi,e⟩:=List.getElem_of_mem hnd;have hi2:q.2.nodes[i]?=some nd:=by rw[gE hi,e]
      exact aJa nd.l 0 300 (hp.asc.2 i nd hi2) (λx hx=>⟨Nat.zero_le _,by
       have:=aOq (h1.nodes i nd hi2) x hx;rw[List.length_take] at this;have:=h1.few;omega⟩)
end Pw
variable {w:World}{src:ByteArray}{tb tc g:Nat}{ts:List Tok}
structure PQ where
 i:Nat
 deep:Nat
 e:Nat
 place:Nat
 m:Nat
 nv:Value
 xs:List Value
variable {q:PQ}
def kI (ts:List Tok) (q:PQ):Tok:=ts.getD q.i mK
def qM (src:ByteArray) (tb n c:Nat) (q:PQ):Array Value:=#[src,.slice (some (tb,q.i*3)) n c,q.deep,q.e,q.place,q.nv]
structure gX (src:ByteArray) (tb tc:Nat) (ts:List Tok) (g:Nat) (w:World) (q:PQ):Prop where
 blk:Blk w g 82 (qM src tb (ts.length - q.i) (tc - q.i) q)
 own:Own w 50 5 q.nv q.m q.xs
 toks:∃b0,xM b0 w (tb,ts.length,tc) ts
 room:q.i<ts.length
 newer:∀k,Go.Proofs.YtlbjicjinnnboaaGreatDoor.blk q.nv=some k->g<k
section
variable {src:ByteArray}{tb tc:Nat}{ts:List Tok}{g:Nat}{w w':World}{q:PQ}
theorem gX.no (h:gX src tb tc ts g w q) (f:Fr nob w w'):gX src tb tc ts g w' q:=by
 obtain⟨b0,ht⟩:=h.toks;exact⟨h.blk.fr f (λx=>x),h.own.fr f (λ_ _ x=>x),⟨b0,ht.no f⟩,h.room,h.newer⟩
theorem gX.cap (h:gX src tb tc ts g w q):ts.length≤tc∧tc≤maxLen:=by
 obtain⟨b0,ht⟩:=h.toks;obtain⟨A,c,e,h1,h2⟩:=ht.own.cap;injection e with _ _ e3;subst e3;exact⟨h1,h2⟩
theorem gX.tok (h:gX src tb tc ts g w q):ts[q.i]?=some (kI ts q)∧tb<w.heap.size ∧
  w.cell? (tb,q.i*3)=(kI ts q).kind∧w.cell? (tb,q.i*3+1)=(bs (kI ts q).text)∧w.cell? (tb,q.i*3+2)=(kI ts q).place:=by
 obtain⟨b0,ht⟩:=h.toks;have hi:ts[q.i]?=some (kI ts q):=by
  unfold kI;rw[List.getD,gE h.room];rfl
 obtain⟨g2,hg,_,hlt,hat⟩:=ht.some (by have:=h.room;omega);injection hg with hg;injection hg with hg;subst hg;exact⟨hi,hlt,hat q.i _ hi⟩
theorem gX.cells (h:gX src tb tc ts g w q):g<w.heap.size∧w.cell? (g,0)=src∧w.cell? (g,1)=some (.slice (some (tb,q.i*3)) (ts.length - q.i) (tc - q.i))∧w.cell? (g,2)=q.deep∧w.cell? (g,3)=q.e∧w.cell? (g,4)=q.place∧w.cell? (g,5)=some q.nv:=by
 have hb:=h.blk;refine⟨hb.lt,?_,?_,?_,?_,?_,?_⟩
 . rw[hb.cell 0];rfl
 . rw[hb.cell 1];rfl
 . rw[hb.cell 2];rfl
 . rw[hb.cell 3];rfl
 . rw[hb.cell 4];rfl
 . rw[hb.cell 5];rfl
end
def oL (t:Tok):Value:= .agg #[t.kind,bs t.text,t.place]
theorem tf0 (k:Int) (t:ByteArray) (p:Int) (w:World):(Instr.field 115 (.agg #[k,t,p]) 0).run prog w = .ok k w:=by kernel_rfl
theorem tf1 (k:Int) (t:ByteArray) (p:Int) (w:World):(Instr.field 115 (.agg #[k,t,p]) 1).run prog w = .ok t w:=by kernel_rfl
theorem tf2 (k:Int) (t:ByteArray) (p:Int) (w:World):(Instr.field 115 (.agg #[k,t,p]) 2).run prog w = .ok p w:=by kernel_rfl
theorem jG (h:gX src tb tc ts g w q):
  Calls prog 76 #[(g,())] w λe w'=>e = .returned (oL (kI ts q))∧Fr nob w w':=by
 obtain⟨hg,_,c1,_,_,_,_⟩:=h.cells;obtain⟨_,htb,x0,x1,x2⟩:=h.tok;have hroom:=h.room;have hcap:=h.cap;obtain⟨n,hn⟩:∃n,ts.length - q.i=n+1:=⟨ts.length - q.i - 1,by omega⟩;obtain⟨c,hc⟩:∃c,tc - q.i=c+1:=⟨tc - q.i - 1,by omega⟩;rw[hn,hc] at c1;unfold oL;clear h hn hc hroom hcap;generalize (kI ts q).kind=tk at *;generalize (kI ts q).text=tt at *;generalize (kI ts q).place=tp at *;generalize bs tt=bt at *;have n1:¬g=w.heap.size:=by omega
 have n2:¬tb=w.heap.size:=by omega
 go_enter func76,ntmps76;go_wp2
 refine bodyPost_ret (v:= .agg #[tk,bt,tp]) (by simp[results,results76,go_sem];try rfl) rfl ⟨rfl,(fR w).alloc _⟩
section
variable {src:ByteArray}{tb tc:Nat}{ts:List Tok}{g:Nat}{w w':World}{q q':PQ}
theorem gX.set (h:gX src tb tc ts g w q) (j:Nat) (u:Value) (hn:q'.nv=q.nv) (hm:q'.m=q.m) (hx:q'.xs=q.xs) (hr:q'.i<ts.length)
   (hc:(qM src tb (ts.length - q.i) (tc - q.i) q).setIfInBounds j u=qM src tb (ts.length - q'.i) (tc - q'.i) q'):gX src tb tc ts g (w.setCell (g,j) u) q':=by
 obtain⟨b0,ht⟩:=h.toks;have f:Fr (dG g) w (w.setCell (g,j) u):=(Fr.refl _ w).setCell _ _ (λ_=>rfl);have hb:=h.blk;refine⟨?_,?_,⟨b0,ht.own.fr f (λb hb' hm=>ht.own.aG hb (by decide) (by rw[hb',show b=g from hm])),ht.new⟩,hr,by rw[hn];exact h.newer⟩
 . have:=hb.setCell j u
   rwa [hc] at this
 . rw[hn,hm,hx]
   exact h.own.fr f (λb hb' hm=>h.own.aG hb (by decide) (by rw[hb',show b=g from hm]))
theorem gX.aMy (h:gX src tb tc ts g w q) (x:Nat):gX src tb tc ts g (w.setCell (g,U2) x) { q with deep:=x }:=h.set 2 _ rfl rfl rfl h.room rfl
theorem gX.aRq (h:gX src tb tc ts g w q) (x:Nat):gX src tb tc ts g (w.setCell (g,U3) x) { q with e:=x }:=h.set 3 _ rfl rfl rfl h.room rfl
theorem gX.aRp (h:gX src tb tc ts g w q) (x:Nat):gX src tb tc ts g (w.setCell (g,U4) x) { q with place:=x }:=h.set 4 _ rfl rfl rfl h.room rfl
theorem gX.aPk (h:gX src tb tc ts g w q){n c:Nat} (hn:ts.length - q.i=n+1) (hc:tc - q.i=c+1) (h1:0<n):gX src tb tc ts g (w.setCell (g,U1) (.slice (some (tb,(q.i+1)*3)) n c)) { q with i:=q.i+1 }:=by
 have hn2:ts.length - (q.i+1)=n:=by omega
 have hc2:tc - (q.i+1)=c:=by omega
 refine h.set 1 _ rfl rfl rfl (by show q.i+1<ts.length;omega) ?_
 show _=qM src tb (ts.length - (q.i+1)) (tc - (q.i+1)) { q with i:=q.i+1 }
 rw[hn2,hc2];rfl
end
def nX (ts:List Tok) (k:Nat) (q:PQ):Bool:=decide (q.e=0) && decide ((kI ts q).kind=k)
def rY (ts:List Tok) (k:Nat) (q:PQ):PQ:=if q.e=0 then { q with e:=k,place:=(kI ts q).place } else q
def uV (ts:List Tok) (q:PQ):PQ:=if 1<ts.length - q.i then { q with i:=q.i+1 } else q
theorem nE (h:gX src tb tc ts g w q) (k:Nat):
   Calls prog 50 #[(g,()),k] w λe w'=>e = .returned (nX ts k q)∧Fr nob w w':=by
 obtain⟨hg,_,_,_,c3,_,_⟩:=h.cells;have HN:=hD (jG h);unfold nX;unfold oL at HN;clear h;generalize (kI ts q).kind=tk at *;by_cases he:q.e=0
 . have heb:((q.e:Int)==0)=true:=by rw[he];rfl
   rw[decide_eq_true he,Bool.true_and];clear he;have hk:((tk:Int)==(k:Int))=decide (tk=k):=by
    by_cases h2:tk=k
    . rw[decide_eq_true h2,h2];simp
    . rw[decide_eq_false h2];exact bN.2 (by omega)
   have HK:=hD hk;clear hk;go_enter func50,ntmps50;go_wp2_with fail
   refine HN.o.mono ?_;rintro e w2 ⟨rfl,hf⟩;have F:=hD hf;have ff:=tf0;clear hf;go_wp2
   go_ret;exact⟨by rw[<-HK.o];simp,F⟩
 . have heb:((q.e:Int)==0)=false:=bN.2 (by omega)
   rw[decide_eq_false he,Bool.false_and];clear he;go_enter func50,ntmps50;go_wp2
   go_ret;exact⟨rfl,Fr.refl _ _⟩
theorem kV (h:gX src tb tc ts g w q) (k:Nat):
   Calls prog 119 #[(g,()),k] w λe w'=>e = .returned (.tuple #[])∧gX src tb tc ts g w' (rY ts k q)∧FrR g w w':=by
 obtain⟨hg,_,_,_,c3,_,_⟩:=h.cells;have HN:=hD (jG h);have H:=hD h;unfold oL at HN;by_cases he:q.e=0
 . have heb:((q.e:Int)==0)=true:=by rw[he];rfl
   have e1:rY ts k q={ q with e:=k,place:=(kI ts q).place }:=by unfold rY;rw[if_pos he]
   rw[e1];clear e1 he h;generalize (kI ts q).place=tp at *;go_enter func119,ntmps119;go_wp2_with fail
   refine HN.o.mono ?_;rintro e w2 ⟨rfl,hf⟩;have F:=hD hf;have H2:=hD (H.o.no hf);clear hf c3 hg;obtain⟨hg,_,_,_,c3,c4,_⟩:=H2.o.cells;have ff:=tf2;have f3:=H2.o.blk.frozen 3;have f4:=H2.o.blk.frozen 4;go_wp2
   refine gF rfl rfl ⟨rfl,(H2.o.aRq k).aRp tp,?_⟩;exact ((F.o.aEv.setCell (g,U3) _ (M:=dG g) (λ_=>rfl)).setCell (g,U4) _ (λ_=>rfl)).mono (λk _ e=> .inl e)
 . have heb:((q.e:Int)==0)=false:=bN.2 (by omega)
   have e1:rY ts k q=q:=by unfold rY;rw[if_neg he]
   rw[e1];clear e1 he h;go_enter func119,ntmps119;go_wp2
   refine gF rfl rfl ⟨rfl,H,Fr.refl _ _⟩
def qIs (ts:List Tok) (zs:List ByteArray) (q:PQ):Bool:=decide (q.e=0) && (decide ((kI ts q).kind=5) || decide ((kI ts q).kind=4)) && isIn zs (kI ts q).text
theorem pX {b:Nat}{ss:List ByteArray} (hb:Blk w b 9 (ss.map Value.string).toArray) (n:Nat) (hn:ss.length=n) (hm:n≤9223372036854775807) (x:ByteArray):
   Calls prog 122 #[(b,n,n),x] w λe w'=>
    e = .returned (isIn ss x.data.toList)∧w'=w:=by
 refine (slices_Contains_string _ _ _ _ ss x _ (by omega) hm (λj hj=>?_)).mono ?_
 . rw[Nat.zero_add,hb.cell j]
   simp[List.getD,hj]
 . rintro e w' ⟨rfl,rfl⟩
   rw[List.take_of_length_le (by omega),qY];exact⟨rfl,rfl⟩
theorem yR (h:gX src tb tc ts g w q) (zs:List ByteArray) (b n:Nat) (hb:Blk w b 9 (zs.map Value.string).toArray) (hn:zs.length=n) (hn1:n≤1000):
   Calls prog 83 #[(g,()),(b,n,n)] w λe w'=>e = .returned (qIs ts zs q)∧Fr nob w w':=by
 have HN:=hD (jG h);have H:=hD h;have HB:=hD hb;have HNN:=hD hn;unfold qIs;unfold oL at HN;have hbt:(bs (kI ts q).text).data.toList=(kI ts q).text:=rfl;have HBT:=hD hbt;clear h hb hn hbt;generalize (kI ts q).kind=tk at *;generalize (kI ts q).text=tt at *;generalize (kI ts q).place=tp at *;generalize bs tt=bt at *;obtain⟨z,hz⟩:∃z,isIn zs tt=z:=⟨_,rfl⟩;rw[hz];have HZ:=hD hz;clear hz;by_cases he:q.e=0
 . have heb:((q.e:Int)==0)=true:=by rw[he];rfl
   rw[decide_eq_true he,Bool.true_and];clear he;by_cases h5:tk=5
   . have h5b:((tk:Int)==5)=true:=by rw[h5];rfl
     rw[decide_eq_true h5,Bool.true_or,Bool.true_and];clear h5;go_enter func83,ntmps83;go_wp2_with fail
     refine HN.o.mono ?_;rintro e w2 ⟨rfl,hf⟩;have H2:=hD (H.o.no hf);have B2:=hD (HB.o.fr hf (λx=>x));have F2:=hD (hf.alloc (.cells #[tk,bt,tp] 115));have HC:=hD (pX (w:=w2.alloc (.cells #[tk,bt,tp] 115)) (B2.o.alloc _) n HNN (by omega) bt);rw[HBT.o,HZ.o] at HC;clear hf;have c3':(w2.alloc (.cells #[tk,bt,tp] 115)).cell? (g,3)=q.e:=((H2.o.no ((fR w2).alloc _)).cells).2.2.2.2.1;go_wp2_with fail
     refine HC.o.mono ?_;rintro e w3 ⟨rfl,rfl⟩;go_wp2
     go_ret;exact⟨by simp,F2⟩
   . have h5b:((tk:Int)==5)=false:=bN.2 (by omega)
     rw[decide_eq_false h5,Bool.false_or];clear h5;by_cases h4:tk=4
     . have h4b:((tk:Int)==4)=true:=by rw[h4];rfl
       rw[decide_eq_true h4,Bool.true_and];clear h4;go_enter func83,ntmps83;go_wp2_with fail
       refine HN.o.mono ?_;rintro e w2 ⟨rfl,hf⟩;have H2:=hD (H.o.no hf);have B2:=hD (HB.o.fr hf (λx=>x));have F2:=hD (hf.alloc (.cells #[tk,bt,tp] 115));have HC:=hD (pX (w:=w2.alloc (.cells #[tk,bt,tp] 115)) (B2.o.alloc _) n HNN (by omega) bt);rw[HBT.o,HZ.o] at HC;clear hf;have c3':(w2.alloc (.cells #[tk,bt,tp] 115)).cell? (g,3)=q.e:=((H2.o.no ((fR w2).alloc _)).cells).2.2.2.2.1;go_wp2_with fail
       refine HC.o.mono ?_;rintro e w3 ⟨rfl,rfl⟩;go_wp2
       go_ret;exact⟨by simp,F2⟩
     . have h4b:((tk:Int)==4)=false:=bN.2 (by omega)
       rw[decide_eq_false h4,Bool.false_and];clear h4;go_enter func83,ntmps83;go_wp2_with fail
       refine HN.o.mono ?_;rintro e w2 ⟨rfl,hf⟩;have H2:=hD (H.o.no hf);have B2:=hD (HB.o.fr hf (λx=>x));have F2:=hD (hf.alloc (.cells #[tk,bt,tp] 115));have HC:=hD (pX (w:=w2.alloc (.cells #[tk,bt,tp] 115)) (B2.o.alloc _) n HNN (by omega) bt);rw[HBT.o,HZ.o] at HC;clear hf;have c3':(w2.alloc (.cells #[tk,bt,tp] 115)).cell? (g,3)=q.e:=((H2.o.no ((fR w2).alloc _)).cells).2.2.2.2.1;go_wp2
       go_ret;exact⟨rfl,F2⟩
 . have heb:((q.e:Int)==0)=false:=bN.2 (by omega)
   rw[decide_eq_false he,Bool.false_and,Bool.false_and];clear he;go_enter func83,ntmps83;go_wp2_with fail
   refine HN.o.mono ?_;rintro e w2 ⟨rfl,hf⟩;have H2:=hD (H.o.no hf);have B2:=hD (HB.o.fr hf (λx=>x));have F2:=hD (hf.alloc (.cells #[tk,bt,tp] 115));have HC:=hD (pX (w:=w2.alloc (.cells #[tk,bt,tp] 115)) (B2.o.alloc _) n HNN (by omega) bt);rw[HBT.o,HZ.o] at HC;clear hf;have c3':(w2.alloc (.cells #[tk,bt,tp] 115)).cell? (g,3)=q.e:=((H2.o.no ((fR w2).alloc _)).cells).2.2.2.2.1;go_wp2
   go_ret;exact⟨rfl,F2⟩
theorem gX.fr {w':World}{M:Nat->Prop} (h:gX src tb tc ts g w q) (f:Fr M w w') (hg:¬M g) (ht:¬M tb) (hn:∀k,Go.Proofs.YtlbjicjinnnboaaGreatDoor.blk q.nv=some k->¬M k):gX src tb tc ts g w' q:=by
 obtain⟨b0,h0⟩:=h.toks;refine⟨h.blk.fr f hg,h.own.fr f hn,⟨b0,h0.own.fr f (λk hk hm=>?_),h0.new⟩,h.room,h.newer⟩;have hk2:k=tb:=by simp[Go.Proofs.YtlbjicjinnnboaaGreatDoor.blk] at hk;omega
 subst hk2;exact ht hm
theorem aFb {r:Nat}{cs:Array Value} (h:Blk w r 115 cs) (hs:cs.size=3) (a b c:Value):Blk (((w.setCell (r,()) a).setCell (r,U1) b).setCell (r,U2) c) r 115 #[a,b,c]:=by
 have h3:=((h.setCell 0 a).setCell 1 b).setCell 2 c;obtain⟨l⟩:=cs
 match l,hs with
 | [x,y,z],_=>simpa using h3
theorem nA (h:gX src tb tc ts g w q):
   Calls prog 120 #[(g,())] w λe w'=>e = .returned (oL (kI ts q))∧gX src tb tc ts g w' (uV ts q)∧FrR g w w':=by
 have A0:Hd (Fr nob w (w.alloc (.cells #[U0,.string ⟨#[]⟩,U0] 115))):=(fR w).alloc _;have H:=hD (h.no A0);have HN:=hD (jG H);have hroom:=h.room;have hcap:=h.cap;obtain⟨n,hn⟩:∃n,ts.length - q.i=n+1:=⟨ts.length - q.i - 1,by omega⟩;obtain⟨c,hc⟩:∃c,tc - q.i=c+1:=⟨tc - q.i - 1,by omega⟩;unfold uV;rw[hn];unfold oL at HN ⊢;generalize (kI ts q).kind=tk at *;generalize (kI ts q).text=tt at *;generalize (kI ts q).place=tp at *;generalize bs tt=bt at *;have GL:Hd (g<w.heap.size):=h.blk.lt;have TL:=hD (show ¬tb=w.heap.size by have:=h.tok.2.1;omega);clear h;have R0:=hD (show w.heap.size<(w.alloc (.cells #[U0,.string ⟨#[]⟩,U0] 115)).heap.size from by simp);have R1:=hD (Blk.new w 115 #[U0,.string ⟨#[]⟩,U0]);by_cases h1:1<n+1
 case' pos=>
  rw[if_pos h1]
  have hnc:n≤c:=by omega
  obtain⟨n',rfl⟩:∃n',n=n'+1:=⟨n - 1,by omega⟩;obtain⟨c',rfl⟩:∃c',c=c'+1:=⟨c - 1,by omega⟩;have h1i:(1:Int)<((n':Int)+1+1):=by omega
  go_enter func120,ntmps120;go_wp2_with fail
  refine HN.o.mono ?_;rintro e w2 ⟨rfl,hf⟩;have H2:=hD (H.o.no hf);have F2:=hD (A0.o.tr hf);have RB:=hD ((R1.o.fr hf (λx=>x)).alloc (.cells #[tk,bt,tp] 115));have TB:=hD (Blk.new w2 115 #[tk,bt,tp]);have H3:=hD (H2.o.no ((fR w2).alloc (.cells #[tk,bt,tp] 115)));have F3:=hD (F2.o.alloc (.cells #[tk,bt,tp] 115));have ng:¬w.heap.size=g:=λe=>by have:=H.o.blk.lt;exact absurd e (by have:=GL.o;omega)
  have ng2:¬g=w.heap.size:=λe=>ng e.symm
  have nt:¬w2.heap.size=g:=by have:=H2.o.blk.lt;omega
  have nt2:¬g=w2.heap.size:=λe=>nt e.symm
  have nr:¬w.heap.size=w2.heap.size:=by have:=hf.size;have:=R0.o;omega
  have nr2:¬w2.heap.size=w.heap.size:=λe=>nr e.symm
  clear hf;obtain⟨_,_,c1,_,_,_,_⟩:=H3.o.cells;rw[hn,hc] at c1;have f1:=H3.o.blk.frozen 1;have x0:(w2.alloc (.cells #[tk,bt,tp] 115)).cell? (w.heap.size,0)=U0:=by rw[RB.o.cell 0];rfl
  have x1:(w2.alloc (.cells #[tk,bt,tp] 115)).cell? (w.heap.size,1)=some (.string ⟨#[]⟩):=by rw[RB.o.cell 1];rfl
  have x2:(w2.alloc (.cells #[tk,bt,tp] 115)).cell? (w.heap.size,2)=U0:=by rw[RB.o.cell 2];rfl
  have z0:=RB.o.frozen 0;have z1:=RB.o.frozen 1;have z2:=RB.o.frozen 2;have y0:(w2.alloc (.cells #[tk,bt,tp] 115)).cell? (w2.heap.size,0)=tk:=by rw[TB.o.cell 0];rfl
  have y1:(w2.alloc (.cells #[tk,bt,tp] 115)).cell? (w2.heap.size,1)=bt:=by rw[TB.o.cell 1];rfl
  have y2:(w2.alloc (.cells #[tk,bt,tp] 115)).cell? (w2.heap.size,2)=tp:=by rw[TB.o.cell 2];rfl
  go_wp2_with fail
  have HI:=hD (H3.o.aPk hn hc (by omega));rw[show (q.i+1)*3=q.i*3+3 by omega] at HI;have RI:Hd (Blk ((w2.alloc (.cells #[tk,bt,tp] 115)).setCell (g,U1) (.slice (some (tb,q.i*3+3)) (n'+1) (c'+1))) w.heap.size 115 #[U0,.string ⟨#[]⟩,U0]):=RB.o.far (p:=(g,U1)) ng _;have FI:Hd (FrR g w ((w2.alloc (.cells #[tk,bt,tp] 115)).setCell (g,U1) (.slice (some (tb,q.i*3+3)) (n'+1) (c'+1)))):=F3.o.aEv.setCell (g,U1) _ (λ_=> .inl rfl);have RF:=hD (aFb RI rfl tk bt tp);have HF:=hD (HI.o.fr (M:=dG w.heap.size) ((((Fr.refl (dG w.heap.size) _).setCell (w.heap.size,()) tk (λ_=>rfl)).setCell (w.heap.size,U1) bt (λ_=>rfl)).setCell (w.heap.size,U2) tp (λ_=>rfl)) (λe=>ng2 e) (λe=>TL.o e) (λk hk hm=>by
   have hk2:k=w.heap.size:=hm;subst hk2;exact HI.o.own.aG RI (by decide) hk))
  have FF:Hd (FrR g w _):=((FI.o.setCell (w.heap.size,()) tk (λhl=>absurd hl (by show ¬w.heap.size<w.heap.size;omega))).setCell (w.heap.size,U1) bt (λhl=>absurd hl (by show ¬w.heap.size<w.heap.size;omega))).setCell (w.heap.size,U2) tp (λhl=>absurd hl (by show ¬w.heap.size<w.heap.size;omega));clear x0 x1 x2 y0 y1 y2 z0 z1 z2 c1 f1;generalize ((World.setCell (World.setCell _ _ _) _ _).setCell _ _).setCell _ _=wf at *
 case' neg=>
  rw[if_neg h1]
  have hn0:n=0:=by omega
  subst hn0;go_enter func120,ntmps120;go_wp2_with fail
  refine HN.o.mono ?_;rintro e w2 ⟨rfl,hf⟩;have H2:=hD (H.o.no hf);have F2:=hD (A0.o.tr hf);have RB:=hD ((R1.o.fr hf (λx=>x)).alloc (.cells #[tk,bt,tp] 115));have TB:=hD (Blk.new w2 115 #[tk,bt,tp]);have H3:=hD (H2.o.no ((fR w2).alloc (.cells #[tk,bt,tp] 115)));have F3:=hD (F2.o.alloc (.cells #[tk,bt,tp] 115));have ng:¬w.heap.size=g:=λe=>by have:=H.o.blk.lt;exact absurd e (by have:=GL.o;omega)
  have ng2:¬g=w.heap.size:=λe=>ng e.symm
  have nt:¬w2.heap.size=g:=by have:=H2.o.blk.lt;omega
  have nt2:¬g=w2.heap.size:=λe=>nt e.symm
  have nr:¬w.heap.size=w2.heap.size:=by have:=hf.size;have:=R0.o;omega
  have nr2:¬w2.heap.size=w.heap.size:=λe=>nr e.symm
  clear hf;obtain⟨_,_,c1,_,_,_,_⟩:=H3.o.cells;rw[hn,hc] at c1;have f1:=H3.o.blk.frozen 1;have x0:(w2.alloc (.cells #[tk,bt,tp] 115)).cell? (w.heap.size,0)=U0:=by rw[RB.o.cell 0];rfl
  have x1:(w2.alloc (.cells #[tk,bt,tp] 115)).cell? (w.heap.size,1)=some (.string ⟨#[]⟩):=by rw[RB.o.cell 1];rfl
  have x2:(w2.alloc (.cells #[tk,bt,tp] 115)).cell? (w.heap.size,2)=U0:=by rw[RB.o.cell 2];rfl
  have z0:=RB.o.frozen 0;have z1:=RB.o.frozen 1;have z2:=RB.o.frozen 2;have y0:(w2.alloc (.cells #[tk,bt,tp] 115)).cell? (w2.heap.size,0)=tk:=by rw[TB.o.cell 0];rfl
  have y1:(w2.alloc (.cells #[tk,bt,tp] 115)).cell? (w2.heap.size,1)=bt:=by rw[TB.o.cell 1];rfl
  have y2:(w2.alloc (.cells #[tk,bt,tp] 115)).cell? (w2.heap.size,2)=tp:=by rw[TB.o.cell 2];rfl
  go_wp2_with fail
  have FI:Hd (FrR g w _):=F3.o.aEv;have RF:=hD (aFb RB rfl tk bt tp);have HF:=hD (H3.o.fr (M:=dG w.heap.size) ((((Fr.refl (dG w.heap.size) _).setCell (w.heap.size,()) tk (λ_=>rfl)).setCell (w.heap.size,U1) bt (λ_=>rfl)).setCell (w.heap.size,U2) tp (λ_=>rfl)) (λe=>ng2 e) (λe=>TL.o e) (λk hk hm=>by
   have hk2:k=w.heap.size:=hm;subst hk2;exact H3.o.own.aG RB (by decide) hk))
  have FF:Hd (FrR g w _):=((FI.o.setCell (w.heap.size,()) tk (λhl=>absurd hl (by show ¬w.heap.size<w.heap.size;omega))).setCell (w.heap.size,U1) bt (λhl=>absurd hl (by show ¬w.heap.size<w.heap.size;omega))).setCell (w.heap.size,U2) tp (λhl=>absurd hl (by show ¬w.heap.size<w.heap.size;omega));clear x0 x1 x2 y0 y1 y2 z0 z1 z2 c1 f1;generalize ((World.setCell (w2.alloc _) _ _).setCell _ _).setCell _ _=wf at *
 all_goals
  have x0:wf.cell? (w.heap.size,0)=tk:=by rw[RF.o.cell 0];rfl
  have x1:wf.cell? (w.heap.size,1)=bt:=by rw[RF.o.cell 1];rfl
  have x2:wf.cell? (w.heap.size,2)=tp:=by rw[RF.o.cell 2];rfl
  refine bodyPost_ret (v:= .agg #[tk,bt,tp]) (by simp[results,results120,go_sem,x0,x1,x2];try rfl) rfl ⟨rfl,HF,FF⟩
def aRf (ts:List Tok) (X:ByteArray) (q:PQ):PQ:=if qIs ts [X] q=true then uV ts q else q
def aOd (ts:List Tok) (X:ByteArray) (q:PQ):PQ:=if qIs ts [X] q=true then uV ts q else rY ts 20 q
def aOc (ts:List Tok) (q:PQ):List UInt8:=if nX ts 3 q=true then (kI ts q).text else []
def aGr (ts:List Tok) (q:PQ):PQ:=if nX ts 3 q=true then uV ts q else rY ts 20 q
theorem aAn (h:gX src tb tc ts g w q) (X:ByteArray):
  Calls prog 118 #[(g,()),X] w λe w'=>e = .returned (qIs ts [X] q)∧gX src tb tc ts g w' (aRf ts X q)∧FrR g w w':=by
 obtain⟨w1,hw1⟩:∃w1,w1=w.alloc (.cells #[X] 9):=⟨_,rfl⟩;have F1:=hD (show Fr nob w w1 from by rw[hw1];exact (fR w).alloc _);have H1:=hD (h.no F1);have B1:=hD (show Blk w1 w.heap.size 9 ([X].map Value.string).toArray from by rw[hw1];exact Blk.new w _ _);have HI:=hD (yR H1 [X] w.heap.size 1 B1 rfl (by decide));unfold aRf;obtain⟨b,hb⟩:∃b,qIs ts [X] q=b:=⟨_,rfl⟩;rw[hb] at HI ⊢;clear hb h;cases b with
 | false=>
  rw[if_neg (by decide)];go_enter func118,ntmps118;go_wp2_with fail
  rw[<-hw1];clear hw1;refine HI.o.mono ?_;rintro e w2 ⟨rfl,hf⟩;have H2:=hD (H1.o.no hf);have F2:=hD (F1.o.tr hf);clear hf;go_wp2
  go_ret;exact⟨rfl,H2,FrR.no F2⟩
 | true=>
  rw[if_pos rfl];go_enter func118,ntmps118;go_wp2_with fail
  rw[<-hw1];clear hw1;refine HI.o.mono ?_;rintro e w2 ⟨rfl,hf⟩;have H2:=hD (H1.o.no hf);have F2:=hD (F1.o.tr hf);clear hf;go_wp2_with fail
  refine dY (nA H2) λw3 H3 hf=>?_;have F3:=hD (FrR.trans (FrR.no F2) hf);clear hf;go_wp2
  go_ret;exact⟨rfl,H3,F3⟩
theorem aGh (h:gX src tb tc ts g w q) (X:ByteArray):
  Calls prog 78 #[(g,()),X] w λe w'=>e = .returned (.tuple #[])∧gX src tb tc ts g w' (aOd ts X q)∧FrR g w w':=by
 have HI:=hD (aAn h X);unfold aOd;unfold aRf at HI;obtain⟨b,hb⟩:∃b,qIs ts [X] q=b:=⟨_,rfl⟩;rw[hb] at HI ⊢;clear hb h;cases b with
 | false=>
  rw[if_neg (by decide)] at HI ⊢;go_enter func78,ntmps78;go_wp2_with fail
  refine HI.o.mono ?_;rintro e w2 ⟨rfl,h2,hf⟩;have H2:=hD h2;have F2:=hD hf;clear h2 hf;go_wp2_with fail
  refine dY (kV H2 20) λw3 H3 hf=>?_;have F3:=hD (FrR.trans F2 hf);clear hf;go_wp2
  refine gF rfl rfl ⟨rfl,H3,F3⟩
 | true=>
  rw[if_pos rfl] at HI ⊢;go_enter func78,ntmps78;go_wp2_with fail
  refine HI.o.mono ?_;rintro e w2 ⟨rfl,h2,hf⟩;have H2:=hD h2;have F2:=hD hf;clear h2 hf;go_wp2
  refine gF rfl rfl ⟨rfl,H2,F2⟩
theorem aGg (h:gX src tb tc ts g w q):
  Calls prog 79 #[(g,())] w λe w'=>e = .returned (bs (aOc ts q))∧gX src tb tc ts g w' (aGr ts q)∧FrR g w w':=by
 have HK:=hD (nE h 3);have H:=hD h;unfold aGr aOc;obtain⟨b,hb⟩:∃b,nX ts 3 q=b:=⟨_,rfl⟩;rw[hb] at HK ⊢;clear hb h;cases b with
 | false=>
  rw[if_neg (by decide),if_neg (by decide)];go_enter func79,ntmps79;go_wp2_with fail
  refine HK.o.mono ?_;rintro e w2 ⟨rfl,hf⟩;have H2:=hD (H.o.no hf);have F2:=hD hf;clear hf;go_wp2_with fail
  refine dY (kV H2 20) λw3 H3 hf=>?_;have F3:=hD (FrR.trans (FrR.no F2) hf);clear hf;go_wp2
  go_ret;exact⟨rfl,H3,F3⟩
 | true=>
  rw[if_pos rfl,if_pos rfl];go_enter func79,ntmps79;go_wp2_with fail
  refine HK.o.mono ?_;rintro e w2 ⟨rfl,hf⟩;have H2:=hD (H.o.no hf);have F2:=hD hf;clear hf;go_wp2_with fail
  refine dY (nA H2) λw3 H3 hf=>?_;have F3:=hD (FrR.trans (FrR.no F2) hf);have ff:=tf1;clear hf;unfold oL;go_wp2
  go_ret;exact⟨rfl,H3,F3⟩
def aRe (k line n:Nat) (name:List UInt8) (lv nv:Value) (q:PQ):PQ:={ q with m:=q.m+1,nv:=nv,xs:=q.xs++[.int .i64 k,.int .i64 line,.int .i64 n,.string (bs name),lv] }
theorem uR (h:gX src tb tc ts g w q) (k line:Nat) (name:List UInt8) (A1:Option Addr) (M c1:Nat) (hn:q.m≤1000000):
   Calls prog 126 #[(g,()),k,line,bs name,.slice A1 M c1] w λe w'=>
     e = .returned q.m∧(∃nv,gX src tb tc ts g w' (aRe k line 0 name (.slice A1 M c1) nv q))∧FrR g w w':=by
 have hb:=h.blk;have ho:=h.own;obtain⟨b0,ht⟩:=h.toks;have NW:=hD h.newer;obtain⟨hg,_,_,_,_,_,c5⟩:=h.cells;have f5:=hb.frozen 5;obtain⟨A,c,hnv,hc1,hc2⟩:=ho.cap;rw[hnv] at ho c5 NW;have H:=hD h;have HO:=hD ho;have HB:=hD hb;have HT:=hD ht;have hn2:(q.m:Int)≤1000000:=by omega
 obtain⟨i,deep,er,place,N,nv,xs⟩:=q;dsimp only at *;obtain⟨B,hB⟩:∃B,bs name=B:=⟨_,rfl⟩;have NM:=hD hB;rw[hB];clear h ho hb ht hB hnv;go_enter func126,ntmps126;go_wp2_with (at_builtin;refine aN (v:= .slice A N c) (m:=1) (news:=[k,line,U0,B,.slice A1 M c1]) rfl _ _ rfl aNm rfl rfl (HO.o.alloc _) (Rd.gG (n:=1) (cs:=[k,line,U0,B,.slice A1 M c1]) (Blk.new _ _ _) rfl (by decide)) (by simp[Value.oneCell']) (by omega) (by unfold maxLen;omega) ?_;intro A3 c3' w3 ho3 hf3 hv3;have O3:=hD ho3;have F3:=hD hf3;have V3:=hD hv3;have B3:=hD ((HB.o.alloc _).fr hf3 (λhm=>HO.o.aG HB (by decide) hm));have g5:=B3.o.frozen 5;have d5:w3.cell? (g,5)=some nv:=(by rw[B3.o.cell 5];rfl);clear ho3 hf3 hv3)
 go_ret;have hFR:FrR g w w3:=by
   refine Fr.trans (M1:=nob) ((fR w).alloc _) F3 (λ_ _ x=>x.elim) (λk2 hk2 hm=>?_);obtain⟨cur,hcur⟩:=HO.o.ty (k:=k2) hm;exact .inr ⟨NW k2 hm,cur,_,hcur⟩
 have hset:Fr (dG g) w3 (w3.setCell (g,U5) (.slice A3 (N+1) c3')):=(Fr.refl (dG g) w3).setCell _ _ (λ_=>rfl);have hFR2:FrR g w (w3.setCell (g,U5) (.slice A3 (N+1) c3')):=FrR.trans hFR (hset.mono (λk _ e=> .inl e));refine⟨by first|rfl|simp,⟨.slice A3 (N+1) c3',⟨?_,?_,⟨b0,?_⟩,H.o.room,λk2 hk2=>?_⟩⟩,hFR2⟩
 . exact B3.o.setCell 5 _
 . have:=O3.o
   rw[<-NM.o] at this;exact this.fr hset (λb hb' hm=>O3.o.aG B3 (by decide) (by rw[hb',show b=g from hm]))
 . exact⟨HT.o.own.frR HB (by decide) (by decide) hFR2,HT.o.new⟩
 . have hk3:blk (.slice A3 (N+1) c3')=some k2:=hk2
   rcases V3.o with e|e
   . exact NW k2 (by rw[<-e];exact hk3)
   . rw[e] at hk3
     injection hk3 with hk3;have:=HB.o.lt;simp at hk3;omega
end Go.Proofs.YtlbjicjinnnboaaGreatDoor
/- The lexer's small functions: which byte is what, and how many bytes from the beginning on are so. -/
namespace Go.Proofs.YtlbjicjinnnboaaGreatDoor.Lx
open Go.RowKit Go.Proofs.Tryz
theorem jL (c:Int) (w:World):Calls prog 111 #[.int .u8 c] w λe w'=>e = .returned (bE c)∧w=w':=by
 unfold bE;go_enter func111,ntmps111;go_wp2
 all_goals (go_ret;simp_all;try omega)
theorem kC (c:Int) (w:World):Calls prog 113 #[.int .u8 c] w λe w'=>e = .returned (gN c)∧w=w':=by
 unfold gN;go_enter func113,ntmps113;go_wp2
 all_goals (go_ret;simp_all;try omega)
theorem sM (c:Int) (w:World):Calls prog 153 #[.int .u8 c] w λe w'=>e = .returned (aY c)∧w=w':=by
 unfold aY;go_enter func153,ntmps153;go_wp2_with (first|(go_at_call 113;refine bL (kC _ _) ?_)|(go_at_call 111;refine bL (jL _ _) ?_))
 all_goals (go_ret;simp_all;try omega)
theorem aAs (c:Int) (w:World):Calls prog 74 #[.int .u8 c] w λe w'=>e = .returned (cZ c)∧w=w':=by
 unfold cZ;go_enter func74,ntmps74;go_wp2
 all_goals (go_ret;simp_all;try omega)
theorem wO (c:Int) (w:World):Calls prog 155 #[.int .u8 c] w λe w'=>e = .returned (dD c)∧w=w':=by
 unfold dD;go_enter func155,ntmps155;go_wp2
 all_goals (go_ret;simp_all;try omega)
theorem aFt (s:ByteArray) (hs:s.size≤9223372036854775807) (w:World):
  Calls prog 73 #[s,.func (.func 111) #[] #[]] w λe w'=>e = .returned (runN bE s.data.toList)∧w=w':=by
 have hl:s.data.toList.length=s.size:=by simp
 have HL:=hD hl;clear hl;go_enter func73,ntmps73;go_wp2
 go_loopw [5,8] (λ_ i w'=>∃k:Nat,k≤s.size∧i = .int .i64 k∧w=w'∧Hd (runN bE s.data.toList=k+runN bE (s.data.toList.drop k))) (λ_ i _=>s.size - (intOf i).toNat)
 case atStart=>exact⟨0,Nat.zero_le _,rfl,rfl,hD (by simp)⟩
 case round=>
  obtain⟨k,hk,rfl,rfl,H⟩:=hrel;by_cases hlt:k<s.size
  . have hst:=hD (gI bE s.data.toList k (by rw[HL.o];exact hlt))
    rw[dF s k hlt] at hst;by_cases hb:bE ((s[k]'hlt).toNat:Int)=true
    . have HB:=hD hb
      go_wp2_with (go_at_call 111;refine bL (jL _ _) ?_)
      go_roundw
      case rel=>exact⟨k+1,by omega,by go_num,trivial,hD (by rw[H.o,hst.o,if_pos HB.o];omega)⟩
      case measure=>simp[intOf];omega
    . have hb':bE ((s[k]'hlt).toNat:Int)=false:=by simpa using hb
      have HB:=hD hb;clear hb;go_wp2_with (go_at_call 111;refine bL (jL _ _) ?_)
      go_ret;exact⟨by rw[H.o,hst.o,if_neg HB.o];simp,rfl⟩
  . have h0:runN bE (s.data.toList.drop k)=0:=by rw[List.drop_of_length_le (by rw[HL.o];omega)];rfl
    have H0:=hD h0;clear h0;go_wp2
    go_ret
    exact ⟨by rw [H.o, H0.o]; have : k = s.size := by omega
              subst this; rfl, rfl⟩
theorem aCd (s:ByteArray) (hs:s.size≤9223372036854775807) (w:World):
  Calls prog 73 #[s,.func (.func 153) #[] #[]] w λe w'=>e = .returned (runN aY s.data.toList)∧w=w':=by
 have hl:s.data.toList.length=s.size:=by simp
 have HL:=hD hl;clear hl;go_enter func73,ntmps73;go_wp2
 go_loopw [5,8] (λ_ i w'=>∃k:Nat,k≤s.size∧i = .int .i64 k∧w=w'∧Hd (runN aY s.data.toList=k+runN aY (s.data.toList.drop k))) (λ_ i _=>s.size - (intOf i).toNat)
 case atStart=>exact⟨0,Nat.zero_le _,rfl,rfl,hD (by simp)⟩
 case round=>
  obtain⟨k,hk,rfl,rfl,H⟩:=hrel;by_cases hlt:k<s.size
  . have hst:=hD (gI aY s.data.toList k (by rw[HL.o];exact hlt))
    rw[dF s k hlt] at hst;by_cases hb:aY ((s[k]'hlt).toNat:Int)=true
    . have HB:=hD hb
      go_wp2_with (go_at_call 153;refine bL (sM _ _) ?_)
      go_roundw
      case rel=>exact⟨k+1,by omega,by go_num,trivial,hD (by rw[H.o,hst.o,if_pos HB.o];omega)⟩
      case measure=>simp[intOf];omega
    . have hb':aY ((s[k]'hlt).toNat:Int)=false:=by simpa using hb
      have HB:=hD hb;clear hb;go_wp2_with (go_at_call 153;refine bL (sM _ _) ?_)
      go_ret;exact⟨by rw[H.o,hst.o,if_neg HB.o];simp,rfl⟩
  . have h0:runN aY (s.data.toList.drop k)=0:=by rw[List.drop_of_length_le (by rw[HL.o];omega)];rfl
    have H0:=hD h0;clear h0;go_wp2
    go_ret
    exact ⟨by rw [H.o, H0.o]; have : k = s.size := by omega
              subst this; rfl, rfl⟩
theorem aKl (s:ByteArray) (hs:s.size≤9223372036854775807) (w:World):
  Calls prog 73 #[s,.func (.func 74) #[] #[]] w λe w'=>e = .returned (runN cZ s.data.toList)∧w=w':=by
 have hl:s.data.toList.length=s.size:=by simp
 have HL:=hD hl;clear hl;go_enter func73,ntmps73;go_wp2
 go_loopw [5,8] (λ_ i w'=>∃k:Nat,k≤s.size∧i = .int .i64 k∧w=w'∧Hd (runN cZ s.data.toList=k+runN cZ (s.data.toList.drop k))) (λ_ i _=>s.size - (intOf i).toNat)
 case atStart=>exact⟨0,Nat.zero_le _,rfl,rfl,hD (by simp)⟩
 case round=>
  obtain⟨k,hk,rfl,rfl,H⟩:=hrel;by_cases hlt:k<s.size
  . have hst:=hD (gI cZ s.data.toList k (by rw[HL.o];exact hlt))
    rw[dF s k hlt] at hst;by_cases hb:cZ ((s[k]'hlt).toNat:Int)=true
    . have HB:=hD hb
      go_wp2_with (go_at_call 74;refine bL (aAs _ _) ?_)
      go_roundw
      case rel=>exact⟨k+1,by omega,by go_num,trivial,hD (by rw[H.o,hst.o,if_pos HB.o];omega)⟩
      case measure=>simp[intOf];omega
    . have hb':cZ ((s[k]'hlt).toNat:Int)=false:=by simpa using hb
      have HB:=hD hb;clear hb;go_wp2_with (go_at_call 74;refine bL (aAs _ _) ?_)
      go_ret;exact⟨by rw[H.o,hst.o,if_neg HB.o];simp,rfl⟩
  . have h0:runN cZ (s.data.toList.drop k)=0:=by rw[List.drop_of_length_le (by rw[HL.o];omega)];rfl
    have H0:=hD h0;clear h0;go_wp2
    go_ret
    exact ⟨by rw [H.o, H0.o]; have : k = s.size := by omega
              subst this; rfl, rfl⟩
theorem aFs (s:ByteArray) (hs:s.size≤9223372036854775807) (w:World):
  Calls prog 73 #[s,.func (.func 155) #[] #[]] w λe w'=>e = .returned (runN dD s.data.toList)∧w=w':=by
 have hl:s.data.toList.length=s.size:=by simp
 have HL:=hD hl;clear hl;go_enter func73,ntmps73;go_wp2
 go_loopw [5,8] (λ_ i w'=>∃k:Nat,k≤s.size∧i = .int .i64 k∧w=w'∧Hd (runN dD s.data.toList=k+runN dD (s.data.toList.drop k))) (λ_ i _=>s.size - (intOf i).toNat)
 case atStart=>exact⟨0,Nat.zero_le _,rfl,rfl,hD (by simp)⟩
 case round=>
  obtain⟨k,hk,rfl,rfl,H⟩:=hrel;by_cases hlt:k<s.size
  . have hst:=hD (gI dD s.data.toList k (by rw[HL.o];exact hlt))
    rw[dF s k hlt] at hst;by_cases hb:dD ((s[k]'hlt).toNat:Int)=true
    . have HB:=hD hb
      go_wp2_with (go_at_call 155;refine bL (wO _ _) ?_)
      go_roundw
      case rel=>exact⟨k+1,by omega,by go_num,trivial,hD (by rw[H.o,hst.o,if_pos HB.o];omega)⟩
      case measure=>simp[intOf];omega
    . have hb':dD ((s[k]'hlt).toNat:Int)=false:=by simpa using hb
      have HB:=hD hb;clear hb;go_wp2_with (go_at_call 155;refine bL (wO _ _) ?_)
      go_ret;exact⟨by rw[H.o,hst.o,if_neg HB.o];simp,rfl⟩
  . have h0:runN dD (s.data.toList.drop k)=0:=by rw[List.drop_of_length_le (by rw[HL.o];omega)];rfl
    have H0:=hD h0;clear h0;go_wp2
    go_ret
    exact ⟨by rw [H.o, H0.o]; have : k = s.size := by omega
              subst this; rfl, rfl⟩
end Go.Proofs.YtlbjicjinnnboaaGreatDoor.Lx
/- The lexer's numbers. -/
namespace Go.Proofs.YtlbjicjinnnboaaGreatDoor.Lx
open Go.RowKit Go.Proofs.Tryz
theorem wP (M:Nat) (hM:M<18446744073709551616) (l:List UInt8) (h:dP l) (a:Nat) (ha:a≤M):
  Lib.parseUintM M a l=if M<aS a l then .range else .ok (aS a l):=by
 induction l generalizing a with
 | nil=>
  have:¬M<aS a []:=by show ¬M<a;omega
  rw[Lib.parseUintM,if_neg this];rfl
 | cons c l ih=>
  have hc:=h c (by simp);have hg:=oP (a*10+(c.toNat - 48)) l;rw[Lib.parseUintM,if_pos hc,eG];by_cases h1:1844674407370955162≤a
  . rw[if_pos h1,if_pos (by omega)]
  . rw[if_neg h1]
    by_cases h2:M<a*10+(c.toNat - 48)
    . rw[if_pos h2,if_pos (by omega)]
    . rw[if_neg h2]
      exact ih (λx hx=>h x (by simp[hx])) _ (by omega)
theorem qQ (l:List UInt8) (h:dP l) (hne:l≠[]):
  Lib.parseIntB 64 l=if aS 0 l≤9223372036854775807 then .ok (aS 0 l:Int) else .range:=by
 cases l with
 | nil=>exact absurd rfl hne
 | cons c r=>
  have hc:=h c (by simp);have e:Lib.parseUintB 64 (c :: r)=if 18446744073709551615<aS 0 (c :: r) then .range else .ok (aS 0 (c :: r)):=by
    unfold Lib.parseUintB;rw[if_neg (by simp)];generalize hM:2 ^ 64 - 1=M;have hM2:M=18446744073709551615:=by omega
    rw[wP M (by omega) (c :: r) h 0 (by omega),hM2]
  unfold Lib.parseIntB;simp only;rw[if_neg (by omega),e];by_cases h1:18446744073709551615<aS 0 (c :: r)
  . rw[if_pos h1,if_neg (by omega)]
  . rw[if_neg h1]
    simp only;by_cases h2:aS 0 (c :: r)≤9223372036854775807
    . rw[if_pos h2,if_neg (by omega),if_neg (by omega),if_neg (by omega)]
    . rw[if_neg h2,if_pos (by omega)]
structure Vars (w:World):Prop where
 most:∃m,w.cell? ⟨0,0,none⟩=some (.int .i64 m)
 rng : ∃ tp p, w.var? Tryz.prog "strconv.ErrRange" = some #[.iface tp p]
end Go.Proofs.YtlbjicjinnnboaaGreatDoor.Lx
/- The lexer's number: the walk. -/
namespace Go.Proofs.YtlbjicjinnnboaaGreatDoor.Lx
open Go.RowKit Go.Proofs.Tryz
variable {w w':World}
theorem aMv {P:Program}{x:String}{cs:Array Value} (h:w.var? P x=some cs) (f:Fr nob w w'):w'.var? P x=some cs:=by
 unfold World.var? at *;cases hg:P.globalNamed x with
 | none=>rw[hg] at h;simp at h
 | some g=>
  rw[hg] at h;simp only[Option.bind_some] at h ⊢;have hlt:g<w.heap.size:=by
   by_cases hlt:g<w.heap.size
   . exact hlt
   . rw[Array.getElem?_eq_none (by omega)] at h;simp at h
  rw[f.block g hlt (λx=>x)];exact h
theorem Vars.fr (h:Vars w) (f:Fr nob w w'):Vars w':=by
 obtain⟨⟨m,hm⟩,tp,p,hr⟩:=h;exact⟨⟨m,(f.cell (World.block_lt_of_cell? _ _ hm) (λx=>x)).trans hm⟩,tp,p,aMv hr f⟩
theorem Fr.aAr (h:Below w.heap.size w w'):Fr nob w w':=⟨h.os,h.tape,h.output,h.size,λk hk _=>h.block k hk⟩
theorem Fr.bytes (e:TypeId) (h:w'=w∨∃t,w'=Lib.bytesWorld w e t):Fr nob w w':=by
 rcases h with rfl|⟨t,rfl⟩
 . exact Fr.refl _ _
 . exact Fr.aAr (Lib.bytesWorld_below _ _ _)
theorem aDh (s:ByteArray) (w:World) (hs:s.size≤281474976710656) (hd:0<runN bE s.data.toList) (hv:Vars w):
   Calls prog 112 #[s] w λe w'=>e = .returned (kT s (iW s.data.toList))∧Fr nob w w':=by
 have hn:=iK bE s.data.toList;have hn2:runN bE s.data.toList≤s.size:=by simpa using hn
 have hex:(s.extract 0 (runN bE s.data.toList)).data.toList=s.data.toList.take (runN bE s.data.toList):=lS _ _;have hdg:=nR s.data.toList;have hlen:(s.data.toList.take (runN bE s.data.toList)).length=runN bE s.data.toList:=by rw[List.length_take];omega
 have hsz:(s.extract 0 (runN bE s.data.toList)).size=runN bE s.data.toList:=by simp;omega
 have hr:=hD (aFt s (by omega) );unfold iW;have hp:=qQ _ hdg (by intro h;rw[h] at hlen;simp at hlen;omega);rw[<-hex] at hp;generalize runN bE s.data.toList=n at *;obtain⟨tp,p,hrv⟩:=hv.rng;have RV:=hD hrv;have hok:mP (s.data.toList.take n)=(decide (n≤19) && decide (aS 0 (s.extract 0 n).data.toList≤9223372036854775807)):=by unfold mP;rw[hlen,hex]
 rw[hok];clear hok hdg hlen hex hn hrv hv;have HP:=hD hp;have HSZ:=hD hsz;clear hp hsz;by_cases h1:aS 0 (s.extract 0 n).data.toList≤9223372036854775807
 . have hp:=HP.o
   rw[if_pos h1] at hp;have HQ:=hD hp;clear hp;rw[decide_eq_true h1];clear h1 HP;by_cases h2:n≤19
   . rw[decide_eq_true h2]
     go_enter func112,ntmps112;go_wp2_with (first|(go_at_call 73;refine bL (hr.o _) ?_)|(go_at_call 152;go_must (refine (strconv_ParseInt_10_at64_ok _ (by (have:=HSZ.o;omega)) _ HQ _).mono ?_;rintro e w2 ⟨rfl,hw⟩;have F2:=hD (Fr.bytes _ hw);(have B:=(Blk.new w 115 #[U0,.string ⟨#[]⟩,U0]).fr F2 (λx=>x));have c0:=B.cell 0;have c1:=B.cell 1;have c2:=B.cell 2;have f0:=B.frozen 0;have f1:=B.frozen 1;have f2:=B.frozen 2;clear B;clear hw)))
     refine bodyPost_ret (v:=kT s (.ok 1 0 n n)) (by simp[results,results112,go_sem,kT,jC,c0,c1,c2];try rfl) rfl ⟨by simp,Fr.vN F2 _ _ _⟩
   . rw[decide_eq_false h2]
     have h3:(19:Int)<(n:Int):=by omega
     clear h2;go_enter func112,ntmps112;go_wp2_with (first|(go_at_call 73;refine bL (hr.o _) ?_)|(go_at_call 152;go_must (refine (strconv_ParseInt_10_at64_ok _ (by (have:=HSZ.o;omega)) _ HQ _).mono ?_;rintro e w2 ⟨rfl,hw⟩;have F2:=hD (Fr.bytes _ hw);(have B:=(Blk.new w 115 #[U0,.string ⟨#[]⟩,U0]).fr F2 (λx=>x));have c0:=B.cell 0;have c1:=B.cell 1;have c2:=B.cell 2;have f0:=B.frozen 0;have f1:=B.frozen 1;have f2:=B.frozen 2;clear B;clear hw)))
     refine bodyPost_ret (v:=kT s (.err 12)) (by simp[results,results112,go_sem,kT,jC,c0,c1,c2];try rfl) rfl ⟨by simp,Fr.vN F2 _ _ _⟩
 . have hp:=HP.o
   rw[if_neg h1] at hp;have HQ:=hD hp;clear hp;rw[decide_eq_false h1];clear h1 HP;rw[Bool.and_false];by_cases h2:n≤19
   case' pos=>
    have h3:(n:Int)≤19:=by omega
   case' neg=>
    have h3:(19:Int)<(n:Int):=by omega
   all_goals
    clear h2;go_enter func112,ntmps112;go_wp2_with (first|(go_at_call 73;refine bL (hr.o _) ?_)|(go_at_call 152;go_must (refine (strconv_ParseInt_10_at64_range_var _ (by (have:=HSZ.o;omega)) HQ tp p _ (aMv RV ((fR w).alloc _))).mono ?_;rintro e w2 ⟨N,rfl,_,_,hb⟩;have F2:=hD (Fr.aAr hb);(have B:=(Blk.new w 115 #[U0,.string ⟨#[]⟩,U0]).fr F2 (λx=>x));have c0:=B.cell 0;have c1:=B.cell 1;have c2:=B.cell 2;have f0:=B.frozen 0;have f1:=B.frozen 1;have f2:=B.frozen 2;clear B;clear hb)))
    refine bodyPost_ret (v:=kT s (.err 12)) (by simp[results,results112,go_sem,kT,jC,c0,c1,c2];try rfl) rfl ⟨by simp,Fr.vN F2 _ _ _⟩
end Go.Proofs.YtlbjicjinnnboaaGreatDoor.Lx
/- The lexer's words and names: the walks. -/
namespace Go.Proofs.YtlbjicjinnnboaaGreatDoor.Lx
open Go.RowKit Go.Proofs.Tryz
theorem aIo:Lib.countB ⟨(List.append [102,110,32,108,101,116,32,105,102,32,101,108,115,101,32,119,104,105,108,101,32,114,101,116,117,114,110,32,112,114,105,110,116,32,105,110,112,117,116,32] [110,101,119,32,108,101,110,32,116,114,117,101,32,102,97,108,115,101,32,105,110,116,32,98,111,111,108,32,116,101,120,116,32,108,105,115,116]).toArray⟩ ⟨#[32]⟩=15:=by kernel_rfl
theorem aFg:Lib.splitB ⟨#[32]⟩ 0 15 ⟨(List.append [102,110,32,108,101,116,32,105,102,32,101,108,115,101,32,119,104,105,108,101,32,114,101,116,117,114,110,32,112,114,105,110,116,32,105,110,112,117,116,32] [110,101,119,32,108,101,110,32,116,114,117,101,32,102,97,108,115,101,32,105,110,116,32,98,111,111,108,32,116,101,120,116,32,108,105,115,116]).toArray⟩=iY:=by kernel_rfl
theorem yA (w:World) (hv:Vars w):Calls prog 156 #[.string ⟨(List.append [102,110,32,108,101,116,32,105,102,32,101,108,115,101,32,119,104,105,108,101,32,114,101,116,117,114,110,32,112,114,105,110,116,32,105,110,112,117,116,32] [110,101,119,32,108,101,110,32,116,114,117,101,32,102,97,108,115,101,32,105,110,116,32,98,111,111,108,32,116,101,120,116,32,108,105,115,116]).toArray⟩,.string ⟨#[32]⟩] w λe w'=>
  e = .returned (w.heap.size,16,16)∧w'=w.alloc (.cells (iY.map Value.string).toArray 9):=by
 obtain⟨m,hm⟩:=hv.most;refine lY (strings_Split _ _ m w (by decide) hm (by decide)) ?_;rw[aIo,aFg];exact⟨rfl,rfl⟩
theorem aMj:Lib.countB ⟨#[124,124,32,38,38,32,60,61,32,61,61,32,33,61]⟩ ⟨#[32]⟩=4:=by kernel_rfl
theorem aKe:Lib.splitB ⟨#[32]⟩ 0 4 ⟨#[124,124,32,38,38,32,60,61,32,61,61,32,33,61]⟩=jW:=by kernel_rfl
theorem sO (w:World) (hv:Vars w):Calls prog 156 #[.string ⟨#[124,124,32,38,38,32,60,61,32,61,61,32,33,61]⟩,.string ⟨#[32]⟩] w λe w'=>
  e = .returned (w.heap.size,5,5)∧w'=w.alloc (.cells (jW.map Value.string).toArray 9):=by
 obtain⟨m,hm⟩:=hv.most;refine lY (strings_Split _ _ m w (by decide) hm (by decide)) ?_;rw[aMj,aKe];exact⟨rfl,rfl⟩
theorem among (ss:List ByteArray) (n:Nat) (hn:ss.length=n) (hm:n≤9223372036854775807) (x:ByteArray) (w:World):
   Calls prog 122 #[(w.heap.size,n,n),x] (w.alloc (.cells (ss.map Value.string).toArray 9)) λe w'=>
    e = .returned (isIn ss x.data.toList)∧w'=w.alloc (.cells (ss.map Value.string).toArray 9):=by
 refine (slices_Contains_string _ _ _ _ ss x _ (by omega) hm (λj hj=>?_)).mono ?_
 . have:=(Blk.new w 9 (ss.map Value.string).toArray).cell j
   rw[Nat.zero_add,this];simp[List.getD,hj]
 . rintro e w' ⟨rfl,rfl⟩
   rw[List.take_of_length_le (by omega),qY];exact⟨rfl,rfl⟩
theorem aJt (s:ByteArray) (w:World) (hv:Vars w):Calls prog 154 #[s] w λe w'=>e = .returned (oZ s.data.toList)∧Fr nob w w':=by
 unfold oZ;have V:=hD hv;clear hv;go_enter func154,ntmps154;go_wp2_with (first|(go_at_call 156;go_must (refine lY (yA _ V) ?_))|(go_at_call 122;go_must (refine lY (among iY 16 rfl (by decide) _ w) ?_)))
 go_ret;exact⟨rfl,(fR w).alloc _⟩
theorem vB (s:ByteArray) (w:World) (hs:s.size≤281474976710656) (hv:Vars w):
  Calls prog 114 #[s] w λe w'=>e = .returned (kT s (pG s.data.toList))∧Fr nob w w':=by
 have hn:=iK aY s.data.toList;have hn2:runN aY s.data.toList≤s.size:=by simpa using hn
 have hex:(s.extract 0 (runN aY s.data.toList)).data.toList=s.data.toList.take (runN aY s.data.toList):=lS _ _;have hr:=hD (aCd s (by omega));have HW:=hD (λw' hv'=>aJt (s.extract 0 (runN aY s.data.toList)) w' hv');rw[hex] at HW;unfold pG;generalize runN aY s.data.toList=n at *;generalize oZ (s.data.toList.take n)=b at *;have V:=hD hv;clear hv hex hn;cases b with
 | true=>
  go_enter func114,ntmps114;go_wp2_with (first|(go_at_call 73;refine bL (hr.o _) ?_)|(go_at_call 154;go_must (refine (HW _ (V.o.fr ((fR w).alloc _))).mono ?_;rintro e w2 ⟨rfl,hf⟩;have F2:=hD hf;(have B:=(Blk.new w 115 #[U0,.string ⟨#[]⟩,U0]).fr F2 (λx=>x));have c0:=B.cell 0;have c1:=B.cell 1;have c2:=B.cell 2;have f0:=B.frozen 0;have f1:=B.frozen 1;have f2:=B.frozen 2;clear B;clear hf)))
  refine bodyPost_ret (v:=kT s (.ok 4 0 n n)) (by simp[results,results114,go_sem,kT,jC,c0,c1,c2];try rfl) rfl ⟨by simp,Fr.vN F2 _ _ _⟩
 | false=>
  by_cases h8:8<n
  . have h3:(8:Int)<(n:Int):=by omega
    rw[if_neg (by decide),if_pos h8];clear h8;go_enter func114,ntmps114;go_wp2_with (first|(go_at_call 73;refine bL (hr.o _) ?_)|(go_at_call 154;go_must (refine (HW _ (V.o.fr ((fR w).alloc _))).mono ?_;rintro e w2 ⟨rfl,hf⟩;have F2:=hD hf;(have B:=(Blk.new w 115 #[U0,.string ⟨#[]⟩,U0]).fr F2 (λx=>x));have c0:=B.cell 0;have c1:=B.cell 1;have c2:=B.cell 2;have f0:=B.frozen 0;have f1:=B.frozen 1;have f2:=B.frozen 2;clear B;clear hf)))
    refine bodyPost_ret (v:=kT s (.err 13)) (by simp[results,results114,go_sem,kT,jC,c0,c1,c2];try rfl) rfl ⟨by simp,Fr.vN F2 _ _ _⟩
  . have h3:(n:Int)≤8:=by omega
    rw[if_neg (by decide),if_neg h8];clear h8;go_enter func114,ntmps114;go_wp2_with (first|(go_at_call 73;refine bL (hr.o _) ?_)|(go_at_call 154;go_must (refine (HW _ (V.o.fr ((fR w).alloc _))).mono ?_;rintro e w2 ⟨rfl,hf⟩;have F2:=hD hf;(have B:=(Blk.new w 115 #[U0,.string ⟨#[]⟩,U0]).fr F2 (λx=>x));have c0:=B.cell 0;have c1:=B.cell 1;have c2:=B.cell 2;have f0:=B.frozen 0;have f1:=B.frozen 1;have f2:=B.frozen 2;clear B;clear hf)))
    refine bodyPost_ret (v:=kT s (.ok 3 0 n n)) (by simp[results,results114,go_sem,kT,jC,c0,c1,c2];try rfl) rfl ⟨by simp,Fr.vN F2 _ _ _⟩
end Go.Proofs.YtlbjicjinnnboaaGreatDoor.Lx
/- The lexer's texts and signs: the walks. -/
namespace Go.Proofs.YtlbjicjinnnboaaGreatDoor.Lx
open Go.RowKit Go.Proofs.Tryz
theorem aJy (s:ByteArray) (w:World) (hs:s.size≤281474976710656) (h0:0<s.size):
   Calls prog 115 #[s] w λe w'=>e = .returned (kT s (lX s.data.toList))∧Fr nob w w':=by
 have hex:(s.extract 1 s.size).data.toList=s.data.toList.drop 1:=Lib.extract_to_end s 1;have hsx:(s.extract 1 s.size).size=s.size - 1:=by simp
 have hn:=iK dD (s.extract 1 s.size).data.toList;have hn2:runN dD (s.extract 1 s.size).data.toList+1≤s.size:=by
   have:(s.extract 1 s.size).data.toList.length=s.size - 1:=by simp
   omega
 have hr:=hD (aFs (s.extract 1 s.size) (by omega));unfold lX;rw[hex] at hr hn2;have hl:s.data.toList.length=s.size:=by simp
 rw[hl];have hby:=λh=>dF s (runN dD (s.data.toList.drop 1)+1) h
 generalize runN dD (s.data.toList.drop 1)=n at *;clear hn hex hsx hl;by_cases h1:s.size≤n+1
 . rw[if_pos (.inl h1)]
   have h2:(s.size:Int)≤(n:Int)+1:=by omega
   clear hby;go_enter func115,ntmps115;go_wp2_with (go_at_call 73;refine bL (hr.o _) ?_)
   refine bodyPost_ret (v:=kT s (.err 11)) (by simp[results,results115,go_sem,kT,jC];try rfl) rfl ⟨by simp,(fR w).alloc _⟩
 . have h3:n+1<s.size:=by omega
   have hb:=hby h3;clear hby;by_cases hq:((s[n+1]'h3).toNat:Int)=34
   . rw[if_neg (by rw[hb,hq];simp;omega)]
     have hqb:s[n+1]'h3=34:=by
       have:(s[n+1]'h3).toNat=34:=by omega
       exact UInt8.toNat_inj.1 this
     have hi:(n:Int)+1<(s.size:Int):=by omega
     by_cases h12:12<n
     . rw[if_pos h12]
       have h4:(12:Int)<(n:Int):=by omega
       clear hb h1;go_enter func115,ntmps115;go_wp2_with (go_at_call 73;refine bL (hr.o _) ?_)
       refine bodyPost_ret (v:=kT s (.err 4)) (by simp[results,results115,go_sem,kT,jC];try rfl) rfl ⟨by simp,(fR w).alloc _⟩
     . rw[if_neg h12]
       have h4:(n:Int)≤12:=by omega
       clear hb h1;go_enter func115,ntmps115;go_wp2_with (go_at_call 73;refine bL (hr.o _) ?_)
       refine bodyPost_ret (v:=kT s (.ok 2 1 n (n+2))) (by simp[results,results115,go_sem,kT,jC];try rfl) rfl ⟨by simp,(fR w).alloc _⟩
   . rw[if_pos (.inr (by rw[hb];exact hq))]
     have hi:(n:Int)+1<(s.size:Int):=by omega
     have hq1:(((s[n+1]'h3).toNat:Int) != 34)=true:=bne_iff_ne.2 hq;clear hb h1 hq;go_enter func115,ntmps115;go_wp2_with (go_at_call 73;refine bL (hr.o _) ?_)
     refine bodyPost_ret (v:=kT s (.err 11)) (by simp[results,results115,go_sem,kT,jC];try rfl) rfl ⟨by simp,(fR w).alloc _⟩
theorem aQv (ss:List ByteArray) (n:Nat) (hn:ss.length=n) (hm:n≤9223372036854775807) (x:ByteArray) (g:Nat) (w:World) (hB:Blk w g 9 (ss.map Value.string).toArray):
   Calls prog 122 #[(g,n,n),x] w λe w'=>e = .returned (isIn ss x.data.toList)∧w=w':=by
 refine (slices_Contains_string _ _ _ _ ss x _ (by omega) hm (λj hj=>?_)).mono ?_
 . have:=hB.cell j
   rw[Nat.zero_add,this];simp[List.getD,hj]
 . rintro e w' ⟨rfl,rfl⟩
   rw[List.take_of_length_le (by omega),qY];exact⟨rfl,rfl⟩
theorem aLo (c:Int) (w:World):Calls prog 71 #[.string ⟨#[40,41,123,125,91,93,44,59,61,60,43,45,42,47,37,33]⟩,.int .u8 c] w λe w'=>
  ∃i:Int,e = .returned i∧aLa c=decide (0≤i)∧w'=w:=by
 refine lY (strings_IndexByte _ c w) ?_;exact⟨_,rfl,rfl,rfl⟩
theorem aKg (s:ByteArray) (w:World) (hs:s.size≤281474976710656) (h0:0<s.size) (hv:Vars w):
   Calls prog 116 #[s] w λe w'=>e = .returned (kT s (jX s.data.toList))∧Fr nob w w':=by
 have hl:s.data.toList.length=s.size:=by simp
 have hb:=dF s 0 h0;have hex:(s.extract 0 2).data.toList=s.data.toList.take 2:=lS _ _;unfold jX;rw[hl,hb];have V:=hD hv;clear hv hl hb;have HA:=hD (λg w' hB=>aQv jW 5 rfl (by decide) (s.extract 0 2) g w' hB);rw[hex] at HA;have e2:aMw (s.data.toList.take 2)=isIn jW (s.data.toList.take 2):=rfl;rw[e2];generalize isIn jW (s.data.toList.take 2)=b at *;have HO:=hD (aLo ((s[0]'h0).toNat:Int));generalize aLa ((s[0]'h0).toNat:Int)=ob at *;clear hex e2;have h3:(0:Int)<(s.size:Int):=by omega
 by_cases h1:1<s.size
 . have h2:(1:Int)<(s.size:Int):=by omega
   have h4:(2:Int)≤(s.size:Int):=by omega
   have hd:decide ((1:Int)<(s.size:Int))=true:=decide_eq_true h2;cases b with
   | true=>
    rw[if_pos ⟨h1,rfl⟩];go_enter func116,ntmps116;go_wp2
    go_region_held3 (λ_=>True) (trivial) (first|(go_at_call 156;with_reducible refine lY (sO _ (V.o.fr (((fR w).alloc _).drew))) ?_)|(go_at_call 122;with_reducible refine bL (HA.o _ _ (by (have hB:=Blk.new (w.alloc (.cells #[U0,.string ⟨#[]⟩,U0] 115)) 9 (jW.map Value.string).toArray);rw[World.size_alloc] at hB;exact hB.fr ((fR _).drew) (λx=>x))) ?_))
    go_wp2
    refine bodyPost_ret (v:=kT s (.ok 5 0 2 2)) (by simp[results,results116,go_sem,kT,jC];try rfl) rfl ⟨by simp,(((fR w).alloc _).alloc _).drew⟩
   | false=>
    rw[if_neg (by simp)];go_enter func116,ntmps116;go_wp2
    go_region_held3 (λ_=>True) (trivial) (first|(go_at_call 156;with_reducible refine lY (sO _ (V.o.fr (((fR w).alloc _).drew))) ?_)|(go_at_call 122;with_reducible refine bL (HA.o _ _ (by (have hB:=Blk.new (w.alloc (.cells #[U0,.string ⟨#[]⟩,U0] 115)) 9 (jW.map Value.string).toArray);rw[World.size_alloc] at hB;exact hB.fr ((fR _).drew) (λx=>x))) ?_))
    cases ob with
    | true=>
     go_wp2_with (go_at_call 71;go_must (refine (HO _).mono ?_;rintro e w5 ⟨i,rfl,hob,rfl⟩;have hi:(0:Int)≤i:=of_decide_eq_true hob.symm;clear hob))
     refine bodyPost_ret (v:=kT s (.ok 5 0 1 1)) (by simp[results,results116,go_sem,kT,jC];try rfl) rfl ⟨by simp,(((fR w).alloc _).alloc _).drew⟩
    | false=>
     go_wp2_with (go_at_call 71;go_must (refine (HO _).mono ?_;rintro e w5 ⟨i,rfl,hob,rfl⟩;have hi:i<(0:Int):=Int.not_le.1 (of_decide_eq_false hob.symm);clear hob))
     refine bodyPost_ret (v:=kT s (.err 10)) (by simp[results,results116,go_sem,kT,jC];try rfl) rfl ⟨by simp,(((fR w).alloc _).alloc _).drew⟩
 . rw[if_neg (by omega)]
   have hd:decide ((1:Int)<(s.size:Int))=false:=decide_eq_false (by omega);clear h1;go_enter func116,ntmps116;go_wp2
   go_quiet (fail)
   cases ob with
   | true=>
    go_wp2_with (go_at_call 71;go_must (refine (HO _).mono ?_;rintro e w5 ⟨i,rfl,hob,rfl⟩;have hi:(0:Int)≤i:=of_decide_eq_true hob.symm;clear hob))
    refine bodyPost_ret (v:=kT s (.ok 5 0 1 1)) (by simp[results,results116,go_sem,kT,jC];try rfl) rfl ⟨by simp,Fr.vN ((fR _).drewN _) _ _ _⟩
   | false=>
    go_wp2_with (go_at_call 71;go_must (refine (HO _).mono ?_;rintro e w5 ⟨i,rfl,hob,rfl⟩;have hi:i<(0:Int):=Int.not_le.1 (of_decide_eq_false hob.symm);clear hob))
    refine bodyPost_ret (v:=kT s (.err 10)) (by simp[results,results116,go_sem,kT,jC];try rfl) rfl ⟨by simp,Fr.vN ((fR _).drewN _) _ _ _⟩
end Go.Proofs.YtlbjicjinnnboaaGreatDoor.Lx
/- What a text begins with: the walk. -/
namespace Go.Proofs.YtlbjicjinnnboaaGreatDoor.Lx
open Go.RowKit Go.Proofs.Tryz
theorem aIc (s:ByteArray) (w:World) (hs:s.size≤281474976710656) (h0:0<s.size) (hv:Vars w):
   Calls prog 75 #[s] w λe w'=>e = .returned (kT s (firstM s.data.toList))∧Fr nob w w':=by
 have hb:=dF s 0 h0;have h3:(0:Int)<(s.size:Int):=by omega
 have V:=hD hv;clear hv;unfold firstM;by_cases hd:bE (aT s.data.toList 0)=true
 case' pos=>
  rw[if_pos hd]
  have hr:0<runN bE s.data.toList:=by
    have:=gI bE s.data.toList 0 (by simpa using h0);rw[List.drop_zero,if_pos hd] at this;omega
  rw[hb] at hd;clear hb;have HC:=hD (λw' (hf:Fr nob w w')=>aDh s w' hs hr (V.o.fr hf));obtain⟨k,t,n,er,hV⟩:=nH s (iW s.data.toList);rw[hV] at HC ⊢;go_enter func75,ntmps75;go_wp2_with (first|(go_at_call 111;refine bL (jL _ _) ?_)|(go_at_call 113;refine bL (kC _ _) ?_)|(go_at_call 112;go_must (refine (HC _ ((fR w).alloc _)).mono ?_;rintro e w2 ⟨rfl,hf⟩;have F2:=hD hf;(have B:=(Blk.new w 115 #[U0,.string ⟨#[]⟩,U0]).fr F2 (λx=>x));have c0:=B.cell 0;have c1:=B.cell 1;have c2:=B.cell 2;have f0:=B.frozen 0;have f1:=B.frozen 1;have f2:=B.frozen 2;clear B;clear hf)))
 case' neg=>
  rw[if_neg hd]
  rw[hb] at hd ⊢;have hd':bE ((s[0]'h0).toNat:Int)=false:=by simpa using hd
  clear hd hb;by_cases hl:gN ((s[0]'h0).toNat:Int)=true
  case' pos=>
   rw[if_pos hl]
   have HC:=hD (λw' (hf:Fr nob w w')=>vB s w' hs (V.o.fr hf));obtain⟨k,t,n,er,hV⟩:=nH s (pG s.data.toList);rw[hV] at HC ⊢;go_enter func75,ntmps75;go_wp2_with (first|(go_at_call 111;refine bL (jL _ _) ?_)|(go_at_call 113;refine bL (kC _ _) ?_)|(go_at_call 114;go_must (refine (HC _ ((fR w).alloc _)).mono ?_;rintro e w2 ⟨rfl,hf⟩;have F2:=hD hf;(have B:=(Blk.new w 115 #[U0,.string ⟨#[]⟩,U0]).fr F2 (λx=>x));have c0:=B.cell 0;have c1:=B.cell 1;have c2:=B.cell 2;have f0:=B.frozen 0;have f1:=B.frozen 1;have f2:=B.frozen 2;clear B;clear hf)))
  case' neg=>
   rw[if_neg hl]
   have hl':gN ((s[0]'h0).toNat:Int)=false:=by simpa using hl
   clear hl;by_cases hq:((s[0]'h0).toNat:Int)=34
   case' pos=>
    have hq':(((s[0]'h0).toNat:Int)==34)=true:=beq_iff_eq.2 hq
    rw[if_pos hq'];clear hq;have HC:=hD (λw' (hf:Fr nob w w')=>aJy s w' hs h0);obtain⟨k,t,n,er,hV⟩:=nH s (lX s.data.toList);rw[hV] at HC ⊢;go_enter func75,ntmps75;go_wp2_with (first|(go_at_call 111;refine bL (jL _ _) ?_)|(go_at_call 113;refine bL (kC _ _) ?_)|(go_at_call 115;go_must (refine (HC _ ((fR w).alloc _)).mono ?_;rintro e w2 ⟨rfl,hf⟩;have F2:=hD hf;(have B:=(Blk.new w 115 #[U0,.string ⟨#[]⟩,U0]).fr F2 (λx=>x));have c0:=B.cell 0;have c1:=B.cell 1;have c2:=B.cell 2;have f0:=B.frozen 0;have f1:=B.frozen 1;have f2:=B.frozen 2;clear B;clear hf)))
   case' neg=>
    have hq':(((s[0]'h0).toNat:Int)==34)=false:=by simpa using hq
    rw[if_neg (by rw[hq'];simp)];clear hq;have HC:=hD (λw' (hf:Fr nob w w')=>aKg s w' hs h0 (V.o.fr hf));obtain⟨k,t,n,er,hV⟩:=nH s (jX s.data.toList);rw[hV] at HC ⊢;go_enter func75,ntmps75;go_wp2_with (first|(go_at_call 111;refine bL (jL _ _) ?_)|(go_at_call 113;refine bL (kC _ _) ?_)|(go_at_call 116;go_must (refine (HC _ ((fR w).alloc _)).mono ?_;rintro e w2 ⟨rfl,hf⟩;have F2:=hD hf;(have B:=(Blk.new w 115 #[U0,.string ⟨#[]⟩,U0]).fr F2 (λx=>x));have c0:=B.cell 0;have c1:=B.cell 1;have c2:=B.cell 2;have f0:=B.frozen 0;have f1:=B.frozen 1;have f2:=B.frozen 2;clear B;clear hf)))
 all_goals
  refine bodyPost_ret (v:= .tuple #[.agg #[k,t,U0],n,er]) (by simp[results,results75,go_sem,c0,c1,c2];try rfl) rfl ⟨by simp,Fr.vN F2 _ _ _⟩
end Go.Proofs.YtlbjicjinnnboaaGreatDoor.Lx
/- The tokens of a source: the model, and how the walk goes along it. -/
namespace Go.Proofs.YtlbjicjinnnboaaGreatDoor.Lx
open Go.RowKit Go.Proofs.Tryz
section
variable {l:List UInt8}{p:Nat}
end
end Go.Proofs.YtlbjicjinnnboaaGreatDoor.Lx
