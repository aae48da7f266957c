/- MaK: BwP, BwB, SgA, fZ, aPd, QHas, QPut, LXA, LXB, LXC, LXD, LXE, LXF, LXG. -/
import Derived.Test.YtlbjicjinnnboaaGreatDoorUShelf
import Derived.Test.YtlbjicjinnnboaaGreatDoorMaJ
import Derived.Test.YtlbjicjinnnboaaGreatDoorMaB
import Derived.Test.YtlbjicjinnnboaaGreatDoorMaC
import Derived.Test.YtlbjicjinnnboaaGreatDoorMaA
set_option maxHeartbeats 8000000
set_option maxRecDepth 100000
set_option linter.unusedVariables false
set_option linter.unusedSimpArgs false
/- ParseBelow: nodes stand behind those below them, in order. The first part of BkG, in Pw. -/
namespace Go.Proofs.YtlbjicjinnnboaaGreatDoor
open Go.RowKit Go.Proofs.Tryz
namespace Pw
variable {st:List Nat}
inductive Pst:List aG->List Nat->Prop where
 | nil:Pst [] []
 | put (ns:List aG) (st:List Nat) (nd:aG) (h:Pst ns (st++nd.l)):Pst (ns++[nd]) (st++[ns.length])
theorem Pst.lt {ns:List aG} (h:Pst ns st):∀a∈st,a<ns.length:=by
 induction h with
 | nil=>intro a ha;cases ha
 | put ns st nd h ih=>
  intro a ha;rw[List.length_append,List.length_singleton];rcases List.mem_append.1 ha with ha|ha
  . have:=ih a (List.mem_append_left _ ha);omega
  . rw[List.mem_singleton.1 ha];omega
section
variable {src:List UInt8}{ts:List Tok}
theorem eZ {s:PS}{k line n:Nat}{name:List UInt8}{l:List Nat} (h:Pst s.nodes (st++l)):Pst (bO k line n name l s).2.nodes (st++(bO k line n name l s).1):=Pst.put s.nodes st ⟨k,line,n,name,l⟩ h
theorem aMn:∀(n:Nat) (k:Task) (s:PS) (r:List Nat×PS),run src ts n k s=some r->r.2.e=0->∀st,Pst s.nodes (st++dV k)->Pst r.2.nodes (st++r.1):=by
 intro n;induction n with
 | zero=>intro k s r h;simp[run] at h
 | succ n ih=>
  intro k s r h he st hp;have ih2:∀{k:Task} {s:PS} {r:List Nat×PS} {ns:List aG} {st:List Nat},run src ts n k s=some r->r.2.e=0->s.nodes=ns->Pst ns (st++dV k)->Pst r.2.nodes (st++r.1):=λh1 h2 h3 h4=>by
   subst h3;exact ih _ _ _ h1 h2 _ h4
  have uE:∀(k line m:Nat) (name:List UInt8) (t:PS),t.nodes=s.nodes->Pst s.nodes st->Pst (bO k line m name [] t).2.nodes (st++(bO k line m name [] t).1):=λk line m name t h1 h2=>eZ (by rw[h1,List.append_nil];exact h2)
  cases k with
  | atom=>
   simp only[run] at h;simp only[dV,List.append_nil] at hp;split at h
   . rename_i h0
     simp only[Option.some.injEq] at h;subst h;exact absurd he h0
   . split at h
     . simp only[Option.some.injEq] at h;subst h;exact uE _ _ _ _ (pGo s) rfl hp
     . split at h
       . simp only[Option.some.injEq] at h;subst h;exact uE _ _ _ _ (pGo s) rfl hp
       . split at h
         . split at h
           . simp only[mS] at h
             obtain⟨q,hq,rfl⟩:=h;have c:=ih2 (st:=st) hq (iY (x:=[93]) (ts:=ts) he) (show _=s.nodes by rw[aB,dJ];rfl) (by simpa[dV] using hp);exact eZ (by rw[uG,aB];exact c)
           . simp only[Option.some.injEq] at h;subst h;exact uE _ _ _ _ (pGo s) rfl hp
         . split at h
           . simp only[Option.some.injEq] at h;subst h;exact uE _ _ _ _ (pGo s) rfl hp
           . split at h
             . simp only[Option.some.injEq] at h;subst h;exact uE _ _ _ _ (pGo s) rfl hp
             . split at h
               . split at h
                 . simp only[mS] at h
                   obtain⟨q,hq,rfl⟩:=h;have c:=ih2 (st:=st) hq (iY (x:=[41]) (ts:=ts) he) (show _=s.nodes by rw[aB,dJ];rfl) (by simpa[dV] using hp);exact eZ (by rw[uG,aB];exact c)
                 . simp only[Option.some.injEq] at h;subst h;exact (qP (by decide) he).elim
               . split at h
                 . simp only[mS] at h
                   obtain⟨q,hq,rfl⟩:=h;have c:=ih2 (st:=st) hq (iY (x:=[41]) (ts:=ts) he) (show _=s.nodes by rw[aB,dJ]) (by simpa[dV] using hp)
                   show Pst (aA ts [41] q.2).nodes (st++q.1)
                   rw[aB];exact c
                 . simp only[Option.some.injEq] at h;subst h;exact (qP (by decide) he).elim
  | factor=>
   simp only[run] at h;simp only[dV,List.append_nil] at hp;have go:∀{k},((run src ts n .factor (pGo (aW ts s))).map λr=>bO k (bG src ts s) 0 [] r.1 (pUp r.2))=some r->Pst r.2.nodes (st++r.1):=λh=>by
     simp only[mS] at h;obtain⟨q,hq,rfl⟩:=h;have c:=ih2 (st:=st) hq he (show (aW ts s).nodes=s.nodes from dJ s) (by simpa[dV] using hp);exact eZ c
   split at h
   . exact go h
   . split at h
     . exact go h
     . exact ih _ _ _ h he st (by simpa[dV] using hp)
  | chain lv=>
   simp only[run] at h;simp only[dV,List.append_nil] at hp;split at h
   . exact ih _ _ _ h he st (by simpa[dV] using hp)
   . simp only[bS] at h
     obtain⟨q,hq,h⟩:=h;have hq1:=aK _ _ _ _ hq trivial;have c:=ih2 (st:=st) hq (tQ h he) rfl (by simpa[dV] using hp);rw[hq1] at c;exact ih _ _ _ h he st c
  | more lv line y=>
   simp only[run] at h;simp only[dV] at hp;split at h
   . simp only[Option.some.injEq] at h;subst h;exact hp
   . simp only[bS] at h
     obtain⟨q,hq,h⟩:=h;have hq1:=aK _ _ _ _ hq trivial;have key:q.2.e=0->Pst (bO 9 line 0 (fI ts lv s) [y,q.1.headD 0] q.2).2.nodes (st++(bO 9 line 0 (fI ts lv s) [y,q.1.headD 0] q.2).1):=λe1=>by
       have c:=ih2 (st:=st++[y]) hq e1 (show (pGo s).nodes=s.nodes from rfl) (by simpa[dV] using hp);rw[hq1,List.append_assoc] at c;exact eZ c
     split at h
     . simp only[Option.some.injEq] at h;subst h
       exact key he
     . have e5:=tQ h he
       exact ih _ _ _ h he st (key e5)
  | args l=>
   simp only[run,bS] at h;simp only[dV] at hp;obtain⟨q,hq,h⟩:=h;have key:q.2.e=0->Pst q.2.nodes (st++(l++q.1)):=λe1=>by
     have c:=ih2 (st:=st++l) hq e1 rfl (by simpa[dV] using hp);rw[List.append_assoc] at c;exact c
   split at h
   . have e1:=tQ h he
     exact ih _ _ _ h he st (key e1)
   . simp only[Option.some.injEq] at h;subst h
     exact key he
  | call=>
   simp only[run,mS] at h;simp only[dV,List.append_nil] at hp;obtain⟨q,hq,rfl⟩:=h;have e1:q.2.e=0:=iY (x:=[41]) (ts:=ts) he;have hn:(aA ts [40] (aF ts s)).nodes=s.nodes:=by rw[aB,bX]
   have key:Pst q.2.nodes (st++q.1):=by
     split at hq
     . exact ih2 hq e1 hn (by simpa[dV] using hp)
     . simp only[Option.some.injEq] at hq;subst hq
       show Pst (aA ts [40] (aF ts s)).nodes (st++[])
       rw[hn,List.append_nil];exact hp
   exact eZ (by rw[aB];exact key)
  | right=>
   simp only[run] at h;simp only[dV,List.append_nil] at hp;split at h
   . simp only[Option.some.injEq] at h;subst h;exact uE _ _ _ _ (pGo s) rfl hp
   . split at h
     . simp only[mS] at h
       obtain⟨q,hq,rfl⟩:=h;have c:=ih2 (st:=st) hq (iY (x:=[41]) (ts:=ts) he) (show _=s.nodes by rw[aB];rfl) (by simpa[dV] using hp);exact eZ (by rw[aB];exact c)
     . split at h<;>exact ih _ _ _ h he st (by simpa[dV] using hp)
  | block=>
   simp only[run] at h;simp only[dV,List.append_nil] at hp;split at h
   . simp only[mS] at h
     obtain⟨q,hq,rfl⟩:=h;have c:=ih2 (st:=st) hq (iY (x:=[125]) (ts:=ts) he) (show _=s.nodes by rw[aB,dJ]) (by simpa[dV] using hp);exact eZ (by rw[uG,aB];exact c)
   . simp only[Option.some.injEq] at h;subst h;exact (qP (by decide) he).elim
  | stmts l=>
   simp only[run] at h;simp only[dV] at hp;split at h
   . rename_i h0
     simp only[Option.some.injEq] at h;subst h;exact absurd he h0
   . split at h
     . simp only[Option.some.injEq] at h;subst h;exact hp
     . simp only[bS] at h
       obtain⟨q,hq,h⟩:=h;have c:=ih2 (st:=st++l) hq (tQ h he) rfl (by simpa[dV] using hp);rw[List.append_assoc] at c;exact ih _ _ _ h he st c
  | named line=>
   simp only[run] at h;simp only[dV,List.append_nil] at hp;split at h
   . simp only[mS] at h
     obtain⟨q,hq,rfl⟩:=h;have c:=ih2 (st:=st) hq (iY (x:=[59]) (ts:=ts) he) rfl (by simpa[dV] using hp);exact eZ (by rw[aB];exact c)
   . split at h
     . simp only[mS,bS] at h
       obtain⟨q,hq,u,hu,rfl⟩:=h;have e2:u.2.e=0:=iY (x:=[59]) (ts:=ts) he;have e1:q.2.e=0:=iY (ts:=ts) (x:=[93]) (s:=q.2) (iY (ts:=ts) (x:=[61]) (s:=pUp (aA ts [93] q.2)) (tQ hu e2));have c:=ih2 (st:=st) hq e1 (show _=s.nodes by rw[aB,dJ,bX]) (by simpa[dV] using hp);have g:=ih2 (st:=st++q.1) hu e2 (show (aA ts [61] (pUp (aA ts [93] q.2))).nodes=q.2.nodes by rw[aB];exact aB _ _) (by simpa[dV] using c);rw[List.append_assoc] at g;exact eZ (by rw[aB];exact g)
     . simp only[mS] at h
       obtain⟨q,hq,rfl⟩:=h;have c:=ih2 (st:=st) hq (iY (x:=[59]) (ts:=ts) he) (show _=s.nodes by rw[aB,bX]) (by simpa[dV] using hp);exact eZ (by rw[aB];exact c)
  | stmt=>
   simp only[run] at h;simp only[dV,List.append_nil] at hp;split at h
   . simp only[mS] at h
     obtain⟨q,hq,rfl⟩:=h;have c:=ih2 (st:=st) hq (iY (x:=[59]) (ts:=ts) he) (show _=s.nodes by rw[aB,bX];rfl) (by simpa[dV] using hp);exact eZ (by rw[aB];exact c)
   . split at h
     . simp only[mS] at h
       obtain⟨q,hq,rfl⟩:=h;have c:=ih2 (st:=st) hq (iY (x:=[59]) (ts:=ts) he) (show (pGo s).nodes=s.nodes from rfl) (by simpa[dV] using hp);exact eZ (by rw[aB];exact c)
     . split at h
       . simp only[mS,bS] at h
         obtain⟨q,hq,u,hu,rfl⟩:=h;have e1:q.2.e=0:=tQ hu he;have c:=ih2 (st:=st) hq e1 (show (pGo s).nodes=s.nodes from rfl) (by simpa[dV] using hp);have g:=ih2 (st:=st++q.1) hu he rfl (by simpa[dV] using c);rw[List.append_assoc] at g;exact eZ g
       . split at h
         . simp only[bS] at h
           obtain⟨q,hq,u,hu,h⟩:=h;split at h
           . simp only[mS] at h
             obtain⟨v,hv,rfl⟩:=h;have e2:u.2.e=0:=tQ (s:=pGo u.2) hv he;have e1:q.2.e=0:=tQ hu e2;have c:=ih2 (st:=st) hq e1 (show (pGo s).nodes=s.nodes from rfl) (by simpa[dV] using hp);have g:=ih2 (st:=st++q.1) hu e2 rfl (by simpa[dV] using c);have g2:=ih2 (st:=st++q.1++u.1) hv he (show (pGo u.2).nodes=u.2.nodes from rfl) (by simpa[dV] using g);exact eZ (by rw[<-List.append_assoc,<-List.append_assoc];exact g2)
           . simp only[Option.some.injEq] at h;subst h
             have e1:q.2.e=0:=tQ hu he;have c:=ih2 (st:=st) hq e1 (show (pGo s).nodes=s.nodes from rfl) (by simpa[dV] using hp);have g:=ih2 (st:=st++q.1) hu he rfl (by simpa[dV] using c);exact eZ (by rw[<-List.append_assoc];exact g)
         . split at h
           . split at h
             . simp only[Option.some.injEq] at h;subst h
               exact uE 17 (bG src ts s) 0 [] (aA ts [59] (pGo s)) (by rw[aB];rfl) hp
             . simp only[mS] at h
               obtain⟨q,hq,rfl⟩:=h;have c:=ih2 (st:=st) hq (iY (x:=[59]) (ts:=ts) he) (show (pGo s).nodes=s.nodes from rfl) (by simpa[dV] using hp);exact eZ (by rw[aB];exact c)
           . exact ih _ _ _ h he st (by simpa[dV] using hp)
theorem aKv {n:Nat}{s:PS}{fs:aH×PS} (h:eT src ts n s=some fs) (he:fs.2.e=0) (hs:Pst s.nodes st):Pst fs.2.nodes (st++[fs.1.body]):=by
 simp only[eT,bS,mS] at h;obtain⟨p,hp,b,hb,rfl⟩:=h;have hn1:(aA ts [40] (aF ts (aA ts [102,110] s))).nodes=s.nodes:=by rw[aB,bX,aB]
 have h2:p.2.nodes=s.nodes:=by
  split at hp
  . rw[kG _ _ _ _ hp,hn1]
  . simp only[Option.some.injEq] at hp
    subst hp;exact hn1
 have hb1:=aK _ _ _ _ hb trivial;have hn:(if pIs ts [123] (aA ts [41] p.2)=true then aA ts [41] p.2 else bL ts (aA ts [41] p.2)).nodes=s.nodes:=by
  split
  . rw[aB,h2]
  . rw[jW,aB,h2]
 have c:=aMn _ _ _ _ hb he st (by rw[hn];simpa[dV] using hs);rw[hb1] at c;exact c
theorem aHg:∀(n:Nat) (acc:List aH) (s:PS) (r:List aH×PS),dP src ts n acc s=some r->r.2.e=0->Pst s.nodes (acc.map (·.body))->Pst r.2.nodes (r.1.map (·.body))
 | 0,_,_,_,h,_,_=>by simp[dP] at h
 | n+1,acc,s,r,h,he,hs=>by
  simp only[dP] at h;split at h
  . simp only[Option.some.injEq] at h;subst h;exact hs
  . split at h
    . simp only[Option.some.injEq] at h;subst h;exact hs
    . simp only[bS] at h
      obtain⟨fs,hfs,h⟩:=h;refine aHg n _ _ _ h he ?_;rw[List.map_append];exact aKv hfs ((nO _ _ _ _ h).e0 he) hs
end
end Pw
namespace Pw
section
variable {src:List UInt8}{ts:List Tok}
end
theorem Pst.asc {ns:List aG}{st:List Nat} (h:Pst ns st):st.Pairwise (· < ·)∧∀(i:Nat) (nd:aG),ns[i]?=some nd->nd.l.Pairwise (· < ·):=by
 induction h with
 | nil=>exact⟨List.Pairwise.nil,λi nd h=>by simp at h⟩
 | put ns st nd h ih=>
  obtain⟨a,b⟩:=ih;obtain⟨a1,a2,a3⟩:=List.pairwise_append.1 a;refine⟨List.pairwise_append.2 ⟨a1,List.pairwise_singleton _ _,λx hx y hy=>?_⟩,λi x hx=>?_⟩
  . rw[List.mem_singleton.1 hy]
    exact h.lt x (List.mem_append_left _ hx)
  . by_cases hi:i<ns.length
    . rw[List.getElem?_append_left hi] at hx
      exact b i x hx
    . rw[List.getElem?_append_right (by omega)] at hx
      by_cases he:i=ns.length
      . subst he
        rw[Nat.sub_self] at hx;simp at hx
        subst hx;exact a2
      . rw[List.getElem?_eq_none (by simp;omega)] at hx;cases hx
structure Below (ns:List aG) (fs:List aH):Prop where
 ok:jN ns fs
 lines:uY ns
 asc:∀(i:Nat) (nd:aG),ns[i]?=some nd->nd.l.Pairwise (· < ·)
 par:∀x,aQs ns x+aQe fs x=if x<ns.length then 1 else 0
end Pw
namespace Pw
open Go.Proofs.Tryz
inductive Seg (ns:List aG):Nat->List Nat->Nat->Prop where
 | nil (a:Nat):Seg ns a [] a
 | cons (a x:Nat) (l:List Nat) (b:Nat) (nd:aG) (hx:ns[x]?=some nd) (h:Seg ns a nd.l x) (h2:Seg ns (x+1) l b):Seg ns a (x :: l) b
section
variable {ns:List aG}{a b c:Nat}{l m:List Nat}
theorem Seg.le (h:Seg ns a l b):a≤b:=by
 induction h with
 | nil=>exact Nat.le_refl _
 | cons a x l b nd hx h h2 ih1 ih2=>omega
theorem Seg.ext (h:Seg ns a l b) (u:List aG):Seg (ns++u) a l b:=by
 induction h with
 | nil a=>exact .nil a
 | cons a x l b nd hx h h2 ih1 ih2=>exact .cons a x l b nd (by rw[List.getElem?_append_left (gK hx)];exact hx) ih1 ih2
theorem Seg.split:∀{l m:List Nat}{a b:Nat},Seg ns a (l++m) b->∃c,Seg ns a l c∧Seg ns c m b
 | [],m,a,b,h=>⟨a,.nil a,h⟩
 | x :: l,m,a,b,h=>by
  cases h with
  | cons _ _ _ _ nd hx h h2=>
   obtain⟨c,h3,h4⟩:=Seg.split h2;exact⟨c,.cons a x l c nd hx h h3,h4⟩
theorem Seg.app (h:Seg ns a l c) (h2:Seg ns c m b):Seg ns a (l++m) b:=by
 induction h with
 | nil a=>exact h2
 | cons a x l b nd hx h _ ih1 ih2=>exact .cons _ _ _ _ nd hx h (ih2 h2)
theorem Pst.seg {ns:List aG}{st:List Nat} (h:Pst ns st):Seg ns 0 st ns.length:=by
 induction h with
 | nil=>exact .nil 0
 | put ns st nd h ih=>
  obtain⟨c,h1,h2⟩:=ih.split;rw[List.length_append,List.length_singleton];exact (h1.ext _).app (.cons _ _ _ _ nd (by simp) (h2.ext _) (.nil _))
end
section
variable {src:List UInt8}{ts:List Tok}
theorem aEh {s:PS} (h:(bL ts s).e=0):1≤eB ts s:=by
 unfold bL at h;split at h
 . exact (qP (by decide) h).elim
 . omega
theorem sN:∀(n:Nat) (acc:List (List UInt8×Nat)) (s:PS) (p:List (List UInt8×Nat)×PS),aQ ts n acc s=some p->p.2.e=0->(∀q∈acc,1≤q.2)->∀q∈p.1,1≤q.2
 | 0,_,_,_,h,_,_=>by simp[aQ] at h
 | n+1,acc,s,p,h,he,ha=>by
  have h2:(bL ts (aF ts s)).e=0->∀q∈acc++[(dI ts s,eB ts (aF ts s))],1≤q.2:=λh0 q hq=>by
    rcases List.mem_append.1 hq with hq|hq
    . exact ha q hq
    . rw[List.mem_singleton.1 hq];exact aEh h0
  simp only[aQ] at h;split at h
  . exact sN n _ _ _ h he (h2 ((kZ _ _ _ _ h).e0 he))
  . simp only[Option.some.injEq] at h
    subst h;exact h2 he
theorem aKw {n:Nat}{s:PS}{fs:aH×PS} (h:eT src ts n s=some fs) (he:fs.2.e=0):∀p∈fs.1.params,1≤p.2:=by
 simp only[eT,bS,mS] at h;obtain⟨p,hp,b,hb,rfl⟩:=h;have h5:=(aJ _ _ _ _ hb).e0 he;have h4:(aA ts [41] p.2).e=0:=by
   split at h5
   . exact h5
   . exact ((Ext.refl (aA ts [41] p.2)).typed (ts:=ts)).e0 h5
 have h3:p.2.e=0:=iY (x:=[41]) (ts:=ts) h4;split at hp
 . exact sN _ _ _ _ hp h3 (λq hq=>by cases hq)
 . simp only[Option.some.injEq] at hp
   subst hp;exact λq hq=>by cases hq
theorem aHh:∀(n:Nat) (acc:List aH) (s:PS) (r:List aH×PS),dP src ts n acc s=some r->r.2.e=0->(∀f∈acc,∀p∈f.params,1≤p.2)->∀f∈r.1,∀p∈f.params,1≤p.2
 | 0,_,_,_,h,_,_=>by simp[dP] at h
 | n+1,acc,s,r,h,he,ha=>by
  simp only[dP] at h;split at h
  . simp only[Option.some.injEq] at h;subst h;exact ha
  . split at h
    . simp only[Option.some.injEq] at h;subst h;exact ha
    . simp only[bS] at h
      obtain⟨fs,hfs,h⟩:=h;refine aHh n _ _ _ h he (λf hf=>?_);rcases List.mem_append.1 hf with hf|hf
      . exact ha f hf
      . rw[List.mem_singleton.1 hf];exact aKw hfs ((nO _ _ _ _ h).e0 he)
end
theorem aIf:∀(l:List Nat) (a n:Nat),l.Pairwise (· < ·)->(∀x∈l,a≤x∧x<n)->l.length≤n - a
 | [],_,_,_,_=>by simp
 | x :: l,a,n,h,hb=>by
  obtain⟨h1,h2⟩:=List.pairwise_cons.1 h;have:=aIf l (x+1) n h2 (λy hy=>⟨h1 y hy,(hb y (List.mem_cons_of_mem _ hy)).2⟩);have:=hb x (List.mem_cons_self ..);rw[List.length_cons];omega
structure aPc (ns:List aG) (fs:List aH):Prop where
 ok:jN ns fs
 seg:Seg ns 0 (fs.map (·.body)) ns.length
 pos:∀f∈fs,∀p∈f.params,1≤p.2
 rows:∀nd∈ns,nd.l.length≤300
theorem aNc {ns:List aG}{nd:aG} (h:dU ns nd):∀a∈nd.l,a<ns.length:=by
 have kl:∀{ns:List aG} {cls:Nat->Bool} {x:Nat},Kid ns cls x->x<ns.length:=λh=>by
  obtain⟨c,hc,_⟩:=h;exact (gK hc)
 cases h<;>intro x hx<;>simp only[List.mem_cons,List.not_mem_nil,or_false] at hx
 all_goals first
  | exact hx.elim
  | (subst hx;exact kl (by assumption))
  | (rcases hx with hx|hx<;>subst hx<;>exact kl (by assumption))
  | (rcases hx with hx|hx|hx<;>subst hx<;>exact kl (by assumption))
  | (rename_i h1;exact kl (h1 x hx))
theorem oP {src:List UInt8}{ns:List aG}{fs:List aH} (h:parseM src=some (.good ns fs)):aPc ns fs:=by
 have h1:=aKb h;unfold parseM at h;cases hl:uM src with
 | bad p e=>rw[hl] at h;simp at h
 | good ts=>
  rw[hl] at h;simp only[nY,mS] at h;obtain⟨q,hq,h⟩:=h;split at h
  . cases h
  . rename_i h0
    have h0:q.2.e=0:=by simpa using h0
    split at h
    . cases h
    . injection h with e1 e2
      subst e1;subst e2;have hp:=aHg _ _ _ _ hq h0 Pst.nil;refine⟨h1,hp.seg,aHh _ _ _ _ hq h0 (λf hf=>by cases hf),λnd hnd=>?_⟩;obtain⟨i,hi,e⟩:=List.getElem_of_mem hnd;have hi2:q.2.nodes[i]?=some nd:=by rw[gE hi,e]
      exact aIf nd.l 0 300 (hp.asc.2 i nd hi2) (λx hx=>⟨Nat.zero_le _,by
       have:=aNc (h1.nodes i nd hi2) x hx;rw[List.length_take] at this;have:=h1.few;omega⟩)
end Pw
variable {w:World}{src:ByteArray}{tb tc g:Nat}{ts:List Tok}
structure PQ where
 i:Nat
 deep:Nat
 e:Nat
 place:Nat
 m:Nat
 nv:Value
 xs:List Value
variable {q:PQ}
def jO (ts:List Tok) (q:PQ):Tok:=ts.getD q.i aAw
def pW (src:ByteArray) (tb n c:Nat) (q:PQ):Array Value:=#[.string src,.slice (some ⟨tb,q.i*3,none⟩) n c,.int .i64 q.deep,.int .i64 q.e,.int .i64 q.place,q.nv]
structure fZ (src:ByteArray) (tb tc:Nat) (ts:List Tok) (g:Nat) (w:World) (q:PQ):Prop where
 blk:Blk w g 82 (pW src tb (ts.length - q.i) (tc - q.i) q)
 own:Own w 50 5 q.nv q.m q.xs
 toks:∃b0,wW b0 w (.slice (some ⟨tb,0,none⟩) ts.length tc) ts
 room:q.i<ts.length
 newer:∀k,Go.Proofs.YtlbjicjinnnboaaGreatDoor.blk q.nv=some k->g<k
section
variable {src:ByteArray}{tb tc:Nat}{ts:List Tok}{g:Nat}{w w':World}{q:PQ}
theorem fZ.no (h:fZ src tb tc ts g w q) (f:Fr nob w w'):fZ src tb tc ts g w' q:=by
 obtain⟨b0,ht⟩:=h.toks;exact⟨h.blk.fr f (λx=>x),h.own.fr f (λ_ _ x=>x),⟨b0,ht.no f⟩,h.room,h.newer⟩
theorem fZ.cap (h:fZ src tb tc ts g w q):ts.length≤tc∧tc≤maxLen:=by
 obtain⟨b0,ht⟩:=h.toks;obtain⟨A,c,e,h1,h2⟩:=ht.own.cap;injection e with _ _ e3;subst e3;exact⟨h1,h2⟩
theorem fZ.tok (h:fZ src tb tc ts g w q):ts[q.i]?=some (jO ts q)∧tb<w.heap.size ∧
  w.cell? ⟨tb,q.i*3,none⟩=some (.int .i64 (jO ts q).kind)∧w.cell? ⟨tb,q.i*3+1,none⟩=some (.string (bs (jO ts q).text))∧w.cell? ⟨tb,q.i*3+2,none⟩=some (.int .i64 (jO ts q).place):=by
 obtain⟨b0,ht⟩:=h.toks;have hi:ts[q.i]?=some (jO ts q):=by
  unfold jO;rw[List.getD,gE h.room];rfl
 obtain⟨g2,hg,_,hlt,hat⟩:=ht.some (by have:=h.room;omega);injection hg with hg;injection hg with hg;subst hg;exact⟨hi,hlt,hat q.i _ hi⟩
theorem fZ.cells (h:fZ src tb tc ts g w q):g<w.heap.size∧w.cell? ⟨g,0,none⟩=some (.string src)∧w.cell? ⟨g,1,none⟩=some (.slice (some ⟨tb,q.i*3,none⟩) (ts.length - q.i) (tc - q.i))∧w.cell? ⟨g,2,none⟩=some (.int .i64 q.deep)∧w.cell? ⟨g,3,none⟩=some (.int .i64 q.e)∧w.cell? ⟨g,4,none⟩=some (.int .i64 q.place)∧w.cell? ⟨g,5,none⟩=some q.nv:=by
 have hb:=h.blk;refine⟨hb.lt,?_,?_,?_,?_,?_,?_⟩
 . rw[hb.cell 0];rfl
 . rw[hb.cell 1];rfl
 . rw[hb.cell 2];rfl
 . rw[hb.cell 3];rfl
 . rw[hb.cell 4];rfl
 . rw[hb.cell 5];rfl
end
def nV (t:Tok):Value:= .agg #[.int .i64 t.kind,.string (bs t.text),.int .i64 t.place]
theorem tf0 (k:Int) (t:ByteArray) (p:Int) (w:World):(Instr.field 115 (.agg #[.int .i64 k,.string t,.int .i64 p]) 0).run prog w = .ok (.int .i64 k) w:=by kernel_rfl
theorem tf1 (k:Int) (t:ByteArray) (p:Int) (w:World):(Instr.field 115 (.agg #[.int .i64 k,.string t,.int .i64 p]) 1).run prog w = .ok (.string t) w:=by kernel_rfl
theorem tf2 (k:Int) (t:ByteArray) (p:Int) (w:World):(Instr.field 115 (.agg #[.int .i64 k,.string t,.int .i64 p]) 2).run prog w = .ok (.int .i64 p) w:=by kernel_rfl
theorem iR (h:fZ src tb tc ts g w q):
  Calls prog 76 #[.pointer (some ⟨g,0,none⟩)] w λe w'=>e = .returned (nV (jO ts q))∧Fr nob w w':=by
 obtain⟨hg,_,c1,_,_,_,_⟩:=h.cells;obtain⟨_,htb,x0,x1,x2⟩:=h.tok;have hroom:=h.room;have hcap:=h.cap;obtain⟨n,hn⟩:∃n,ts.length - q.i=n+1:=⟨ts.length - q.i - 1,by omega⟩;obtain⟨c,hc⟩:∃c,tc - q.i=c+1:=⟨tc - q.i - 1,by omega⟩;rw[hn,hc] at c1;unfold nV;clear h hn hc hroom hcap;generalize (jO ts q).kind=tk at *;generalize (jO ts q).text=tt at *;generalize (jO ts q).place=tp at *;generalize bs tt=bt at *;have n1:¬g=w.heap.size:=by omega
 have n2:¬tb=w.heap.size:=by omega
 go_enter func76,ntmps76;go_wp2
 refine bodyPost_ret (v:= .agg #[.int .i64 tk,.string bt,.int .i64 tp]) (by simp[results,results76,go_sem];try rfl) rfl ⟨rfl,(fR w).alloc _⟩
section
variable {src:ByteArray}{tb tc:Nat}{ts:List Tok}{g:Nat}{w w':World}{q q':PQ}
theorem fZ.set (h:fZ src tb tc ts g w q) (j:Nat) (u:Value) (hn:q'.nv=q.nv) (hm:q'.m=q.m) (hx:q'.xs=q.xs) (hr:q'.i<ts.length)
   (hc:(pW src tb (ts.length - q.i) (tc - q.i) q).setIfInBounds j u=pW src tb (ts.length - q'.i) (tc - q'.i) q'):fZ src tb tc ts g (w.setCell ⟨g,j,none⟩ u) q':=by
 obtain⟨b0,ht⟩:=h.toks;have f:Fr (bQ g) w (w.setCell ⟨g,j,none⟩ u):=(Fr.refl _ w).setCell _ _ (λ_=>rfl);have hb:=h.blk;refine⟨?_,?_,⟨b0,ht.own.fr f (λb hb' hm=>ht.own.aD hb (by decide) (by rw[hb',show b=g from hm])),ht.new⟩,hr,by rw[hn];exact h.newer⟩
 . have:=hb.setCell j u
   rwa [hc] at this
 . rw[hn,hm,hx]
   exact h.own.fr f (λb hb' hm=>h.own.aD hb (by decide) (by rw[hb',show b=g from hm]))
theorem fZ.aLu (h:fZ src tb tc ts g w q) (x:Nat):fZ src tb tc ts g (w.setCell ⟨g,2,none⟩ (.int .i64 x)) { q with deep:=x }:=h.set 2 _ rfl rfl rfl h.room rfl
theorem fZ.aPt (h:fZ src tb tc ts g w q) (x:Nat):fZ src tb tc ts g (w.setCell ⟨g,3,none⟩ (.int .i64 x)) { q with e:=x }:=h.set 3 _ rfl rfl rfl h.room rfl
theorem fZ.aPs (h:fZ src tb tc ts g w q) (x:Nat):fZ src tb tc ts g (w.setCell ⟨g,4,none⟩ (.int .i64 x)) { q with place:=x }:=h.set 4 _ rfl rfl rfl h.room rfl
theorem fZ.aNx (h:fZ src tb tc ts g w q){n c:Nat} (hn:ts.length - q.i=n+1) (hc:tc - q.i=c+1) (h1:0<n):fZ src tb tc ts g (w.setCell ⟨g,1,none⟩ (.slice (some ⟨tb,(q.i+1)*3,none⟩) n c)) { q with i:=q.i+1 }:=by
 have hn2:ts.length - (q.i+1)=n:=by omega
 have hc2:tc - (q.i+1)=c:=by omega
 refine h.set 1 _ rfl rfl rfl (by show q.i+1<ts.length;omega) ?_
 show _=pW src tb (ts.length - (q.i+1)) (tc - (q.i+1)) { q with i:=q.i+1 }
 rw[hn2,hc2];rfl
end
def nI (ts:List Tok) (k:Nat) (q:PQ):Bool:=decide (q.e=0) && decide ((jO ts q).kind=k)
def rE (ts:List Tok) (k:Nat) (q:PQ):PQ:=if q.e=0 then { q with e:=k,place:=(jO ts q).place } else q
def uD (ts:List Tok) (q:PQ):PQ:=if 1<ts.length - q.i then { q with i:=q.i+1 } else q
theorem mO (h:fZ src tb tc ts g w q) (k:Nat):
   Calls prog 50 #[.pointer (some ⟨g,0,none⟩),.int .i64 k] w λe w'=>e = .returned (.bool (nI ts k q))∧Fr nob w w':=by
 obtain⟨hg,_,_,_,c3,_,_⟩:=h.cells;have HN:=hD (iR h);unfold nI;unfold nV at HN;clear h;generalize (jO ts q).kind=tk at *;by_cases he:q.e=0
 . have heb:((q.e:Int)==0)=true:=by rw[he];rfl
   rw[decide_eq_true he,Bool.true_and];clear he;have hk:((tk:Int)==(k:Int))=decide (tk=k):=by
    by_cases h2:tk=k
    . rw[decide_eq_true h2,h2];simp
    . rw[decide_eq_false h2];exact bN.2 (by omega)
   have HK:=hD hk;clear hk;go_enter func50,ntmps50;go_wp2_with fail
   refine HN.o.mono ?_;rintro e w2 ⟨rfl,hf⟩;have F:=hD hf;have ff:=tf0;clear hf;go_wp2
   go_ret;exact⟨by rw[<-HK.o];simp,F⟩
 . have heb:((q.e:Int)==0)=false:=bN.2 (by omega)
   rw[decide_eq_false he,Bool.false_and];clear he;go_enter func50,ntmps50;go_wp2
   go_ret;exact⟨rfl,Fr.refl _ _⟩
theorem kF (h:fZ src tb tc ts g w q) (k:Nat):
   Calls prog 119 #[.pointer (some ⟨g,0,none⟩),.int .i64 k] w λe w'=>e = .returned (.tuple #[])∧fZ src tb tc ts g w' (rE ts k q)∧FrR g w w':=by
 obtain⟨hg,_,_,_,c3,_,_⟩:=h.cells;have HN:=hD (iR h);have H:=hD h;unfold nV at HN;by_cases he:q.e=0
 . have heb:((q.e:Int)==0)=true:=by rw[he];rfl
   have e1:rE ts k q={ q with e:=k,place:=(jO ts q).place }:=by unfold rE;rw[if_pos he]
   rw[e1];clear e1 he h;generalize (jO ts q).place=tp at *;go_enter func119,ntmps119;go_wp2_with fail
   refine HN.o.mono ?_;rintro e w2 ⟨rfl,hf⟩;have F:=hD hf;have H2:=hD (H.o.no hf);clear hf c3 hg;obtain⟨hg,_,_,_,c3,c4,_⟩:=H2.o.cells;have ff:=tf2;have f3:=H2.o.blk.frozen 3;have f4:=H2.o.blk.frozen 4;go_wp2
   refine fE rfl rfl ⟨rfl,(H2.o.aPt k).aPs tp,?_⟩;exact ((F.o.aKd.setCell ⟨g,3,none⟩ _ (M:=bQ g) (λ_=>rfl)).setCell ⟨g,4,none⟩ _ (λ_=>rfl)).mono (λk _ e=> .inl e)
 . have heb:((q.e:Int)==0)=false:=bN.2 (by omega)
   have e1:rE ts k q=q:=by unfold rE;rw[if_neg he]
   rw[e1];clear e1 he h;go_enter func119,ntmps119;go_wp2
   refine fE rfl rfl ⟨rfl,H,Fr.refl _ _⟩
def qIs (ts:List Tok) (zs:List ByteArray) (q:PQ):Bool:=decide (q.e=0) && (decide ((jO ts q).kind=5) || decide ((jO ts q).kind=4)) && isIn zs (jO ts q).text
theorem pE {b:Nat}{ss:List ByteArray} (hb:Blk w b 9 (ss.map Value.string).toArray) (n:Nat) (hn:ss.length=n) (hm:n≤9223372036854775807) (x:ByteArray):
   Calls prog 122 #[.slice (some ⟨b,0,none⟩) n n,.string x] w λe w'=>
    e = .returned (.bool (isIn ss x.data.toList))∧w'=w:=by
 refine (slices_Contains_string _ _ _ _ ss x _ (by omega) hm (λj hj=>?_)).mono ?_
 . rw[Nat.zero_add,hb.cell j]
   simp[List.getD,hj]
 . rintro e w' ⟨rfl,rfl⟩
   rw[List.take_of_length_le (by omega),qI];exact⟨rfl,rfl⟩
theorem yA (h:fZ src tb tc ts g w q) (zs:List ByteArray) (b n:Nat) (hb:Blk w b 9 (zs.map Value.string).toArray) (hn:zs.length=n) (hn1:n≤1000):
   Calls prog 83 #[.pointer (some ⟨g,0,none⟩),.slice (some ⟨b,0,none⟩) n n] w λe w'=>e = .returned (.bool (qIs ts zs q))∧Fr nob w w':=by
 have HN:=hD (iR h);have H:=hD h;have HB:=hD hb;have HNN:=hD hn;unfold qIs;unfold nV at HN;have hbt:(bs (jO ts q).text).data.toList=(jO ts q).text:=rfl;have HBT:=hD hbt;clear h hb hn hbt;generalize (jO ts q).kind=tk at *;generalize (jO ts q).text=tt at *;generalize (jO ts q).place=tp at *;generalize bs tt=bt at *;obtain⟨z,hz⟩:∃z,isIn zs tt=z:=⟨_,rfl⟩;rw[hz];have HZ:=hD hz;clear hz;by_cases he:q.e=0
 . have heb:((q.e:Int)==0)=true:=by rw[he];rfl
   rw[decide_eq_true he,Bool.true_and];clear he;by_cases h5:tk=5
   . have h5b:((tk:Int)==5)=true:=by rw[h5];rfl
     rw[decide_eq_true h5,Bool.true_or,Bool.true_and];clear h5;go_enter func83,ntmps83;go_wp2_with fail
     refine HN.o.mono ?_;rintro e w2 ⟨rfl,hf⟩;have H2:=hD (H.o.no hf);have B2:=hD (HB.o.fr hf (λx=>x));have F2:=hD (hf.alloc (.cells #[.int .i64 tk,.string bt,.int .i64 tp] 115));have HC:=hD (pE (w:=w2.alloc (.cells #[.int .i64 tk,.string bt,.int .i64 tp] 115)) (B2.o.alloc _) n HNN (by omega) bt);rw[HBT.o,HZ.o] at HC;clear hf;have c3':(w2.alloc (.cells #[.int .i64 tk,.string bt,.int .i64 tp] 115)).cell? ⟨g,3,none⟩=some (.int .i64 q.e):=((H2.o.no ((fR w2).alloc _)).cells).2.2.2.2.1;go_wp2_with fail
     refine HC.o.mono ?_;rintro e w3 ⟨rfl,rfl⟩;go_wp2
     go_ret;exact⟨by simp,F2⟩
   . have h5b:((tk:Int)==5)=false:=bN.2 (by omega)
     rw[decide_eq_false h5,Bool.false_or];clear h5;by_cases h4:tk=4
     . have h4b:((tk:Int)==4)=true:=by rw[h4];rfl
       rw[decide_eq_true h4,Bool.true_and];clear h4;go_enter func83,ntmps83;go_wp2_with fail
       refine HN.o.mono ?_;rintro e w2 ⟨rfl,hf⟩;have H2:=hD (H.o.no hf);have B2:=hD (HB.o.fr hf (λx=>x));have F2:=hD (hf.alloc (.cells #[.int .i64 tk,.string bt,.int .i64 tp] 115));have HC:=hD (pE (w:=w2.alloc (.cells #[.int .i64 tk,.string bt,.int .i64 tp] 115)) (B2.o.alloc _) n HNN (by omega) bt);rw[HBT.o,HZ.o] at HC;clear hf;have c3':(w2.alloc (.cells #[.int .i64 tk,.string bt,.int .i64 tp] 115)).cell? ⟨g,3,none⟩=some (.int .i64 q.e):=((H2.o.no ((fR w2).alloc _)).cells).2.2.2.2.1;go_wp2_with fail
       refine HC.o.mono ?_;rintro e w3 ⟨rfl,rfl⟩;go_wp2
       go_ret;exact⟨by simp,F2⟩
     . have h4b:((tk:Int)==4)=false:=bN.2 (by omega)
       rw[decide_eq_false h4,Bool.false_and];clear h4;go_enter func83,ntmps83;go_wp2_with fail
       refine HN.o.mono ?_;rintro e w2 ⟨rfl,hf⟩;have H2:=hD (H.o.no hf);have B2:=hD (HB.o.fr hf (λx=>x));have F2:=hD (hf.alloc (.cells #[.int .i64 tk,.string bt,.int .i64 tp] 115));have HC:=hD (pE (w:=w2.alloc (.cells #[.int .i64 tk,.string bt,.int .i64 tp] 115)) (B2.o.alloc _) n HNN (by omega) bt);rw[HBT.o,HZ.o] at HC;clear hf;have c3':(w2.alloc (.cells #[.int .i64 tk,.string bt,.int .i64 tp] 115)).cell? ⟨g,3,none⟩=some (.int .i64 q.e):=((H2.o.no ((fR w2).alloc _)).cells).2.2.2.2.1;go_wp2
       go_ret;exact⟨rfl,F2⟩
 . have heb:((q.e:Int)==0)=false:=bN.2 (by omega)
   rw[decide_eq_false he,Bool.false_and,Bool.false_and];clear he;go_enter func83,ntmps83;go_wp2_with fail
   refine HN.o.mono ?_;rintro e w2 ⟨rfl,hf⟩;have H2:=hD (H.o.no hf);have B2:=hD (HB.o.fr hf (λx=>x));have F2:=hD (hf.alloc (.cells #[.int .i64 tk,.string bt,.int .i64 tp] 115));have HC:=hD (pE (w:=w2.alloc (.cells #[.int .i64 tk,.string bt,.int .i64 tp] 115)) (B2.o.alloc _) n HNN (by omega) bt);rw[HBT.o,HZ.o] at HC;clear hf;have c3':(w2.alloc (.cells #[.int .i64 tk,.string bt,.int .i64 tp] 115)).cell? ⟨g,3,none⟩=some (.int .i64 q.e):=((H2.o.no ((fR w2).alloc _)).cells).2.2.2.2.1;go_wp2
   go_ret;exact⟨rfl,F2⟩
theorem fZ.fr {w':World}{M:Nat->Prop} (h:fZ src tb tc ts g w q) (f:Fr M w w') (hg:¬M g) (ht:¬M tb) (hn:∀k,Go.Proofs.YtlbjicjinnnboaaGreatDoor.blk q.nv=some k->¬M k):fZ src tb tc ts g w' q:=by
 obtain⟨b0,h0⟩:=h.toks;refine⟨h.blk.fr f hg,h.own.fr f hn,⟨b0,h0.own.fr f (λk hk hm=>?_),h0.new⟩,h.room,h.newer⟩;have hk2:k=tb:=by simp[Go.Proofs.YtlbjicjinnnboaaGreatDoor.blk] at hk;omega
 subst hk2;exact ht hm
theorem aEk {r:Nat}{cs:Array Value} (h:Blk w r 115 cs) (hs:cs.size=3) (a b c:Value):Blk (((w.setCell ⟨r,0,none⟩ a).setCell ⟨r,1,none⟩ b).setCell ⟨r,2,none⟩ c) r 115 #[a,b,c]:=by
 have h3:=((h.setCell 0 a).setCell 1 b).setCell 2 c;obtain⟨l⟩:=cs
 match l,hs with
 | [x,y,z],_=>simpa using h3
theorem mK (h:fZ src tb tc ts g w q):
   Calls prog 120 #[.pointer (some ⟨g,0,none⟩)] w λe w'=>e = .returned (nV (jO ts q))∧fZ src tb tc ts g w' (uD ts q)∧FrR g w w':=by
 have A0:Hd (Fr nob w (w.alloc (.cells #[.int .i64 0,.string ⟨#[]⟩,.int .i64 0] 115))):=(fR w).alloc _;have H:=hD (h.no A0);have HN:=hD (iR H);have hroom:=h.room;have hcap:=h.cap;obtain⟨n,hn⟩:∃n,ts.length - q.i=n+1:=⟨ts.length - q.i - 1,by omega⟩;obtain⟨c,hc⟩:∃c,tc - q.i=c+1:=⟨tc - q.i - 1,by omega⟩;unfold uD;rw[hn];unfold nV at HN ⊢;generalize (jO ts q).kind=tk at *;generalize (jO ts q).text=tt at *;generalize (jO ts q).place=tp at *;generalize bs tt=bt at *;have GL:Hd (g<w.heap.size):=h.blk.lt;have TL:=hD (show ¬tb=w.heap.size by have:=h.tok.2.1;omega);clear h;have R0:=hD (show w.heap.size<(w.alloc (.cells #[.int .i64 0,.string ⟨#[]⟩,.int .i64 0] 115)).heap.size from by simp);have R1:=hD (Blk.new w 115 #[.int .i64 0,.string ⟨#[]⟩,.int .i64 0]);by_cases h1:1<n+1
 case' pos=>
  rw[if_pos h1]
  have hnc:n≤c:=by omega
  obtain⟨n',rfl⟩:∃n',n=n'+1:=⟨n - 1,by omega⟩;obtain⟨c',rfl⟩:∃c',c=c'+1:=⟨c - 1,by omega⟩;have h1i:(1:Int)<((n':Int)+1+1):=by omega
  go_enter func120,ntmps120;go_wp2_with fail
  refine HN.o.mono ?_;rintro e w2 ⟨rfl,hf⟩;have H2:=hD (H.o.no hf);have F2:=hD (A0.o.tr hf);have RB:=hD ((R1.o.fr hf (λx=>x)).alloc (.cells #[.int .i64 tk,.string bt,.int .i64 tp] 115));have TB:=hD (Blk.new w2 115 #[.int .i64 tk,.string bt,.int .i64 tp]);have H3:=hD (H2.o.no ((fR w2).alloc (.cells #[.int .i64 tk,.string bt,.int .i64 tp] 115)));have F3:=hD (F2.o.alloc (.cells #[.int .i64 tk,.string bt,.int .i64 tp] 115));have ng:¬w.heap.size=g:=λe=>by have:=H.o.blk.lt;exact absurd e (by have:=GL.o;omega)
  have ng2:¬g=w.heap.size:=λe=>ng e.symm
  have nt:¬w2.heap.size=g:=by have:=H2.o.blk.lt;omega
  have nt2:¬g=w2.heap.size:=λe=>nt e.symm
  have nr:¬w.heap.size=w2.heap.size:=by have:=hf.size;have:=R0.o;omega
  have nr2:¬w2.heap.size=w.heap.size:=λe=>nr e.symm
  clear hf;obtain⟨_,_,c1,_,_,_,_⟩:=H3.o.cells;rw[hn,hc] at c1;have f1:=H3.o.blk.frozen 1;have x0:(w2.alloc (.cells #[.int .i64 tk,.string bt,.int .i64 tp] 115)).cell? ⟨w.heap.size,0,none⟩=some (.int .i64 0):=by rw[RB.o.cell 0];rfl
  have x1:(w2.alloc (.cells #[.int .i64 tk,.string bt,.int .i64 tp] 115)).cell? ⟨w.heap.size,1,none⟩=some (.string ⟨#[]⟩):=by rw[RB.o.cell 1];rfl
  have x2:(w2.alloc (.cells #[.int .i64 tk,.string bt,.int .i64 tp] 115)).cell? ⟨w.heap.size,2,none⟩=some (.int .i64 0):=by rw[RB.o.cell 2];rfl
  have z0:=RB.o.frozen 0;have z1:=RB.o.frozen 1;have z2:=RB.o.frozen 2;have y0:(w2.alloc (.cells #[.int .i64 tk,.string bt,.int .i64 tp] 115)).cell? ⟨w2.heap.size,0,none⟩=some (.int .i64 tk):=by rw[TB.o.cell 0];rfl
  have y1:(w2.alloc (.cells #[.int .i64 tk,.string bt,.int .i64 tp] 115)).cell? ⟨w2.heap.size,1,none⟩=some (.string bt):=by rw[TB.o.cell 1];rfl
  have y2:(w2.alloc (.cells #[.int .i64 tk,.string bt,.int .i64 tp] 115)).cell? ⟨w2.heap.size,2,none⟩=some (.int .i64 tp):=by rw[TB.o.cell 2];rfl
  go_wp2_with fail
  have HI:=hD (H3.o.aNx hn hc (by omega));rw[show (q.i+1)*3=q.i*3+3 by omega] at HI;have RI:Hd (Blk ((w2.alloc (.cells #[.int .i64 tk,.string bt,.int .i64 tp] 115)).setCell ⟨g,1,none⟩ (.slice (some ⟨tb,q.i*3+3,none⟩) (n'+1) (c'+1))) w.heap.size 115 #[.int .i64 0,.string ⟨#[]⟩,.int .i64 0]):=RB.o.far (p:=⟨g,1,none⟩) ng _;have FI:Hd (FrR g w ((w2.alloc (.cells #[.int .i64 tk,.string bt,.int .i64 tp] 115)).setCell ⟨g,1,none⟩ (.slice (some ⟨tb,q.i*3+3,none⟩) (n'+1) (c'+1)))):=F3.o.aKd.setCell ⟨g,1,none⟩ _ (λ_=> .inl rfl);have RF:=hD (aEk RI rfl (.int .i64 tk) (.string bt) (.int .i64 tp));have HF:=hD (HI.o.fr (M:=bQ w.heap.size) ((((Fr.refl (bQ w.heap.size) _).setCell ⟨w.heap.size,0,none⟩ (.int .i64 tk) (λ_=>rfl)).setCell ⟨w.heap.size,1,none⟩ (.string bt) (λ_=>rfl)).setCell ⟨w.heap.size,2,none⟩ (.int .i64 tp) (λ_=>rfl)) (λe=>ng2 e) (λe=>TL.o e) (λk hk hm=>by
   have hk2:k=w.heap.size:=hm;subst hk2;exact HI.o.own.aD RI (by decide) hk))
  have FF:Hd (FrR g w _):=((FI.o.setCell ⟨w.heap.size,0,none⟩ (.int .i64 tk) (λhl=>absurd hl (by show ¬w.heap.size<w.heap.size;omega))).setCell ⟨w.heap.size,1,none⟩ (.string bt) (λhl=>absurd hl (by show ¬w.heap.size<w.heap.size;omega))).setCell ⟨w.heap.size,2,none⟩ (.int .i64 tp) (λhl=>absurd hl (by show ¬w.heap.size<w.heap.size;omega));clear x0 x1 x2 y0 y1 y2 z0 z1 z2 c1 f1;generalize ((World.setCell (World.setCell _ _ _) _ _).setCell _ _).setCell _ _=wf at *
 case' neg=>
  rw[if_neg h1]
  have hn0:n=0:=by omega
  subst hn0;go_enter func120,ntmps120;go_wp2_with fail
  refine HN.o.mono ?_;rintro e w2 ⟨rfl,hf⟩;have H2:=hD (H.o.no hf);have F2:=hD (A0.o.tr hf);have RB:=hD ((R1.o.fr hf (λx=>x)).alloc (.cells #[.int .i64 tk,.string bt,.int .i64 tp] 115));have TB:=hD (Blk.new w2 115 #[.int .i64 tk,.string bt,.int .i64 tp]);have H3:=hD (H2.o.no ((fR w2).alloc (.cells #[.int .i64 tk,.string bt,.int .i64 tp] 115)));have F3:=hD (F2.o.alloc (.cells #[.int .i64 tk,.string bt,.int .i64 tp] 115));have ng:¬w.heap.size=g:=λe=>by have:=H.o.blk.lt;exact absurd e (by have:=GL.o;omega)
  have ng2:¬g=w.heap.size:=λe=>ng e.symm
  have nt:¬w2.heap.size=g:=by have:=H2.o.blk.lt;omega
  have nt2:¬g=w2.heap.size:=λe=>nt e.symm
  have nr:¬w.heap.size=w2.heap.size:=by have:=hf.size;have:=R0.o;omega
  have nr2:¬w2.heap.size=w.heap.size:=λe=>nr e.symm
  clear hf;obtain⟨_,_,c1,_,_,_,_⟩:=H3.o.cells;rw[hn,hc] at c1;have f1:=H3.o.blk.frozen 1;have x0:(w2.alloc (.cells #[.int .i64 tk,.string bt,.int .i64 tp] 115)).cell? ⟨w.heap.size,0,none⟩=some (.int .i64 0):=by rw[RB.o.cell 0];rfl
  have x1:(w2.alloc (.cells #[.int .i64 tk,.string bt,.int .i64 tp] 115)).cell? ⟨w.heap.size,1,none⟩=some (.string ⟨#[]⟩):=by rw[RB.o.cell 1];rfl
  have x2:(w2.alloc (.cells #[.int .i64 tk,.string bt,.int .i64 tp] 115)).cell? ⟨w.heap.size,2,none⟩=some (.int .i64 0):=by rw[RB.o.cell 2];rfl
  have z0:=RB.o.frozen 0;have z1:=RB.o.frozen 1;have z2:=RB.o.frozen 2;have y0:(w2.alloc (.cells #[.int .i64 tk,.string bt,.int .i64 tp] 115)).cell? ⟨w2.heap.size,0,none⟩=some (.int .i64 tk):=by rw[TB.o.cell 0];rfl
  have y1:(w2.alloc (.cells #[.int .i64 tk,.string bt,.int .i64 tp] 115)).cell? ⟨w2.heap.size,1,none⟩=some (.string bt):=by rw[TB.o.cell 1];rfl
  have y2:(w2.alloc (.cells #[.int .i64 tk,.string bt,.int .i64 tp] 115)).cell? ⟨w2.heap.size,2,none⟩=some (.int .i64 tp):=by rw[TB.o.cell 2];rfl
  go_wp2_with fail
  have FI:Hd (FrR g w _):=F3.o.aKd;have RF:=hD (aEk RB rfl (.int .i64 tk) (.string bt) (.int .i64 tp));have HF:=hD (H3.o.fr (M:=bQ w.heap.size) ((((Fr.refl (bQ w.heap.size) _).setCell ⟨w.heap.size,0,none⟩ (.int .i64 tk) (λ_=>rfl)).setCell ⟨w.heap.size,1,none⟩ (.string bt) (λ_=>rfl)).setCell ⟨w.heap.size,2,none⟩ (.int .i64 tp) (λ_=>rfl)) (λe=>ng2 e) (λe=>TL.o e) (λk hk hm=>by
   have hk2:k=w.heap.size:=hm;subst hk2;exact H3.o.own.aD RB (by decide) hk))
  have FF:Hd (FrR g w _):=((FI.o.setCell ⟨w.heap.size,0,none⟩ (.int .i64 tk) (λhl=>absurd hl (by show ¬w.heap.size<w.heap.size;omega))).setCell ⟨w.heap.size,1,none⟩ (.string bt) (λhl=>absurd hl (by show ¬w.heap.size<w.heap.size;omega))).setCell ⟨w.heap.size,2,none⟩ (.int .i64 tp) (λhl=>absurd hl (by show ¬w.heap.size<w.heap.size;omega));clear x0 x1 x2 y0 y1 y2 z0 z1 z2 c1 f1;generalize ((World.setCell (w2.alloc _) _ _).setCell _ _).setCell _ _=wf at *
 all_goals
  have x0:wf.cell? ⟨w.heap.size,0,none⟩=some (.int .i64 tk):=by rw[RF.o.cell 0];rfl
  have x1:wf.cell? ⟨w.heap.size,1,none⟩=some (.string bt):=by rw[RF.o.cell 1];rfl
  have x2:wf.cell? ⟨w.heap.size,2,none⟩=some (.int .i64 tp):=by rw[RF.o.cell 2];rfl
  refine bodyPost_ret (v:= .agg #[.int .i64 tk,.string bt,.int .i64 tp]) (by simp[results,results120,go_sem,x0,x1,x2];try rfl) rfl ⟨rfl,HF,FF⟩
def aPk (ts:List Tok) (X:ByteArray) (q:PQ):PQ:=if qIs ts [X] q=true then uD ts q else q
def aMs (ts:List Tok) (X:ByteArray) (q:PQ):PQ:=if qIs ts [X] q=true then uD ts q else rE ts 20 q
def aMr (ts:List Tok) (q:PQ):List UInt8:=if nI ts 3 q=true then (jO ts q).text else []
def aFx (ts:List Tok) (q:PQ):PQ:=if nI ts 3 q=true then uD ts q else rE ts 20 q
theorem zT (h:fZ src tb tc ts g w q) (X:ByteArray):
  Calls prog 118 #[.pointer (some ⟨g,0,none⟩),.string X] w λe w'=>e = .returned (.bool (qIs ts [X] q))∧fZ src tb tc ts g w' (aPk ts X q)∧FrR g w w':=by
 obtain⟨w1,hw1⟩:∃w1,w1=w.alloc (.cells #[.string X] 9):=⟨_,rfl⟩;have F1:=hD (show Fr nob w w1 from by rw[hw1];exact (fR w).alloc _);have H1:=hD (h.no F1);have B1:=hD (show Blk w1 w.heap.size 9 ([X].map Value.string).toArray from by rw[hw1];exact Blk.new w _ _);have HI:=hD (yA H1 [X] w.heap.size 1 B1 rfl (by decide));unfold aPk;obtain⟨b,hb⟩:∃b,qIs ts [X] q=b:=⟨_,rfl⟩;rw[hb] at HI ⊢;clear hb h;cases b with
 | false=>
  rw[if_neg (by decide)];go_enter func118,ntmps118;go_wp2_with fail
  rw[<-hw1];clear hw1;refine HI.o.mono ?_;rintro e w2 ⟨rfl,hf⟩;have H2:=hD (H1.o.no hf);have F2:=hD (F1.o.tr hf);clear hf;go_wp2
  go_ret;exact⟨rfl,H2,FrR.no F2⟩
 | true=>
  rw[if_pos rfl];go_enter func118,ntmps118;go_wp2_with fail
  rw[<-hw1];clear hw1;refine HI.o.mono ?_;rintro e w2 ⟨rfl,hf⟩;have H2:=hD (H1.o.no hf);have F2:=hD (F1.o.tr hf);clear hf;go_wp2_with fail
  refine dR (mK H2) λw3 H3 hf=>?_;have F3:=hD (FrR.trans (FrR.no F2) hf);clear hf;go_wp2
  go_ret;exact⟨rfl,H3,F3⟩
theorem aFm (h:fZ src tb tc ts g w q) (X:ByteArray):
  Calls prog 78 #[.pointer (some ⟨g,0,none⟩),.string X] w λe w'=>e = .returned (.tuple #[])∧fZ src tb tc ts g w' (aMs ts X q)∧FrR g w w':=by
 have HI:=hD (zT h X);unfold aMs;unfold aPk at HI;obtain⟨b,hb⟩:∃b,qIs ts [X] q=b:=⟨_,rfl⟩;rw[hb] at HI ⊢;clear hb h;cases b with
 | false=>
  rw[if_neg (by decide)] at HI ⊢;go_enter func78,ntmps78;go_wp2_with fail
  refine HI.o.mono ?_;rintro e w2 ⟨rfl,h2,hf⟩;have H2:=hD h2;have F2:=hD hf;clear h2 hf;go_wp2_with fail
  refine dR (kF H2 20) λw3 H3 hf=>?_;have F3:=hD (FrR.trans F2 hf);clear hf;go_wp2
  refine fE rfl rfl ⟨rfl,H3,F3⟩
 | true=>
  rw[if_pos rfl] at HI ⊢;go_enter func78,ntmps78;go_wp2_with fail
  refine HI.o.mono ?_;rintro e w2 ⟨rfl,h2,hf⟩;have H2:=hD h2;have F2:=hD hf;clear h2 hf;go_wp2
  refine fE rfl rfl ⟨rfl,H2,F2⟩
theorem aFl (h:fZ src tb tc ts g w q):
  Calls prog 79 #[.pointer (some ⟨g,0,none⟩)] w λe w'=>e = .returned (.string (bs (aMr ts q)))∧fZ src tb tc ts g w' (aFx ts q)∧FrR g w w':=by
 have HK:=hD (mO h 3);have H:=hD h;unfold aFx aMr;obtain⟨b,hb⟩:∃b,nI ts 3 q=b:=⟨_,rfl⟩;rw[hb] at HK ⊢;clear hb h;cases b with
 | false=>
  rw[if_neg (by decide),if_neg (by decide)];go_enter func79,ntmps79;go_wp2_with fail
  refine HK.o.mono ?_;rintro e w2 ⟨rfl,hf⟩;have H2:=hD (H.o.no hf);have F2:=hD hf;clear hf;go_wp2_with fail
  refine dR (kF H2 20) λw3 H3 hf=>?_;have F3:=hD (FrR.trans (FrR.no F2) hf);clear hf;go_wp2
  go_ret;exact⟨rfl,H3,F3⟩
 | true=>
  rw[if_pos rfl,if_pos rfl];go_enter func79,ntmps79;go_wp2_with fail
  refine HK.o.mono ?_;rintro e w2 ⟨rfl,hf⟩;have H2:=hD (H.o.no hf);have F2:=hD hf;clear hf;go_wp2_with fail
  refine dR (mK H2) λw3 H3 hf=>?_;have F3:=hD (FrR.trans (FrR.no F2) hf);have ff:=tf1;clear hf;unfold nV;go_wp2
  go_ret;exact⟨rfl,H3,F3⟩
def aPj (k line n:Nat) (name:List UInt8) (lv nv:Value) (q:PQ):PQ:={ q with m:=q.m+1,nv:=nv,xs:=q.xs++[.int .i64 k,.int .i64 line,.int .i64 n,.string (bs name),lv] }
theorem tV (h:fZ src tb tc ts g w q) (k line:Nat) (name:List UInt8) (A1:Option Addr) (M c1:Nat) (hn:q.m≤1000000):
   Calls prog 126 #[.pointer (some ⟨g,0,none⟩),.int .i64 k,.int .i64 line,.string (bs name),.slice A1 M c1] w λe w'=>
     e = .returned (.int .i64 q.m)∧(∃nv,fZ src tb tc ts g w' (aPj k line 0 name (.slice A1 M c1) nv q))∧FrR g w w':=by
 have hb:=h.blk;have ho:=h.own;obtain⟨b0,ht⟩:=h.toks;have NW:=hD h.newer;obtain⟨hg,_,_,_,_,_,c5⟩:=h.cells;have f5:=hb.frozen 5;obtain⟨A,c,hnv,hc1,hc2⟩:=ho.cap;rw[hnv] at ho c5 NW;have H:=hD h;have HO:=hD ho;have HB:=hD hb;have HT:=hD ht;have hn2:(q.m:Int)≤1000000:=by omega
 obtain⟨i,deep,er,place,N,nv,xs⟩:=q;dsimp only at *;obtain⟨B,hB⟩:∃B,bs name=B:=⟨_,rfl⟩;have NM:=hD hB;rw[hB];clear h ho hb ht hB hnv;go_enter func126,ntmps126;go_wp2_with (at_builtin;refine aI (v:= .slice A N c) (m:=1) (news:=[.int .i64 k,.int .i64 line,.int .i64 0,.string B,.slice A1 M c1]) rfl _ _ rfl aMg rfl rfl (HO.o.alloc _) (Rd.eD (n:=1) (cs:=[.int .i64 k,.int .i64 line,.int .i64 0,.string B,.slice A1 M c1]) (Blk.new _ _ _) rfl (by decide)) (by simp[Value.oneCell']) (by omega) (by unfold maxLen;omega) ?_;intro A3 c3' w3 ho3 hf3 hv3;have O3:=hD ho3;have F3:=hD hf3;have V3:=hD hv3;have B3:=hD ((HB.o.alloc _).fr hf3 (λhm=>HO.o.aD HB (by decide) hm));have g5:=B3.o.frozen 5;have d5:w3.cell? ⟨g,5,none⟩=some nv:=(by rw[B3.o.cell 5];rfl);clear ho3 hf3 hv3)
 go_ret;have hFR:FrR g w w3:=by
   refine Fr.trans (M1:=nob) ((fR w).alloc _) F3 (λ_ _ x=>x.elim) (λk2 hk2 hm=>?_);obtain⟨cur,hcur⟩:=HO.o.ty (k:=k2) hm;exact .inr ⟨NW k2 hm,cur,_,hcur⟩
 have hset:Fr (bQ g) w3 (w3.setCell ⟨g,5,none⟩ (.slice A3 (N+1) c3')):=(Fr.refl (bQ g) w3).setCell _ _ (λ_=>rfl);have hFR2:FrR g w (w3.setCell ⟨g,5,none⟩ (.slice A3 (N+1) c3')):=FrR.trans hFR (hset.mono (λk _ e=> .inl e));refine⟨by first|rfl|simp,⟨.slice A3 (N+1) c3',⟨?_,?_,⟨b0,?_⟩,H.o.room,λk2 hk2=>?_⟩⟩,hFR2⟩
 . exact B3.o.setCell 5 _
 . have:=O3.o
   rw[<-NM.o] at this;exact this.fr hset (λb hb' hm=>O3.o.aD B3 (by decide) (by rw[hb',show b=g from hm]))
 . exact⟨HT.o.own.frR HB (by decide) (by decide) hFR2,HT.o.new⟩
 . have hk3:blk (.slice A3 (N+1) c3')=some k2:=hk2
   rcases V3.o with e|e
   . exact NW k2 (by rw[<-e];exact hk3)
   . rw[e] at hk3
     injection hk3 with hk3;have:=HB.o.lt;simp at hk3;omega
end Go.Proofs.YtlbjicjinnnboaaGreatDoor
/- The lexer's small functions: which byte is what, and how many bytes from the beginning on are so. -/
namespace Go.Proofs.YtlbjicjinnnboaaGreatDoor.Lx
open Go.RowKit Go.Proofs.Tryz
theorem iZ (c:Int) (w:World):Calls prog 111 #[.int .u8 c] w λe w'=>e = .returned (.bool (bA c))∧w=w':=by
 unfold bA;go_enter func111,ntmps111;go_wp2
 all_goals (go_ret;simp_all;try omega)
theorem jK (c:Int) (w:World):Calls prog 113 #[.int .u8 c] w λe w'=>e = .returned (.bool (fK c))∧w=w':=by
 unfold fK;go_enter func113,ntmps113;go_wp2
 all_goals (go_ret;simp_all;try omega)
theorem rR (c:Int) (w:World):Calls prog 153 #[.int .u8 c] w λe w'=>e = .returned (.bool (aZ c))∧w=w':=by
 unfold aZ;go_enter func153,ntmps153;go_wp2_with (first|(go_at_call 113;refine bC (jK _ _) ?_)|(go_at_call 111;refine bC (iZ _ _) ?_))
 all_goals (go_ret;simp_all;try omega)
theorem aAa (c:Int) (w:World):Calls prog 74 #[.int .u8 c] w λe w'=>e = .returned (.bool (bU c))∧w=w':=by
 unfold bU;go_enter func74,ntmps74;go_wp2
 all_goals (go_ret;simp_all;try omega)
theorem vY (c:Int) (w:World):Calls prog 155 #[.int .u8 c] w λe w'=>e = .returned (.bool (cZ c))∧w=w':=by
 unfold cZ;go_enter func155,ntmps155;go_wp2
 all_goals (go_ret;simp_all;try omega)
theorem aEy (s:ByteArray) (hs:s.size≤9223372036854775807) (w:World):
  Calls prog 73 #[.string s,.func (.func 111) #[] #[]] w λe w'=>e = .returned (.int .i64 (runN bA s.data.toList))∧w=w':=by
 have hl:s.data.toList.length=s.size:=by simp
 have HL:=hD hl;clear hl;go_enter func73,ntmps73;go_wp2
 go_loopw [5,8] (λ_ i w'=>∃k:Nat,k≤s.size∧i = .int .i64 k∧w=w'∧Hd (runN bA s.data.toList=k+runN bA (s.data.toList.drop k))) (λ_ i _=>s.size - (intOf i).toNat)
 case atStart=>exact⟨0,Nat.zero_le _,rfl,rfl,hD (by simp)⟩
 case round=>
  obtain⟨k,hk,rfl,rfl,H⟩:=hrel;by_cases hlt:k<s.size
  . have hst:=hD (fH bA s.data.toList k (by rw[HL.o];exact hlt))
    rw[bV s k hlt] at hst;by_cases hb:bA ((s[k]'hlt).toNat:Int)=true
    . have HB:=hD hb
      go_wp2_with (go_at_call 111;refine bC (iZ _ _) ?_)
      go_roundw
      case rel=>exact⟨k+1,by omega,by go_num,trivial,hD (by rw[H.o,hst.o,if_pos HB.o];omega)⟩
      case measure=>simp[intOf];omega
    . have hb':bA ((s[k]'hlt).toNat:Int)=false:=by simpa using hb
      have HB:=hD hb;clear hb;go_wp2_with (go_at_call 111;refine bC (iZ _ _) ?_)
      go_ret;exact⟨by rw[H.o,hst.o,if_neg HB.o];simp,rfl⟩
  . have h0:runN bA (s.data.toList.drop k)=0:=by rw[List.drop_of_length_le (by rw[HL.o];omega)];rfl
    have H0:=hD h0;clear h0;go_wp2
    go_ret
    exact ⟨by rw [H.o, H0.o]; have : k = s.size := by omega
              subst this; rfl, rfl⟩
theorem aBl (s:ByteArray) (hs:s.size≤9223372036854775807) (w:World):
  Calls prog 73 #[.string s,.func (.func 153) #[] #[]] w λe w'=>e = .returned (.int .i64 (runN aZ s.data.toList))∧w=w':=by
 have hl:s.data.toList.length=s.size:=by simp
 have HL:=hD hl;clear hl;go_enter func73,ntmps73;go_wp2
 go_loopw [5,8] (λ_ i w'=>∃k:Nat,k≤s.size∧i = .int .i64 k∧w=w'∧Hd (runN aZ s.data.toList=k+runN aZ (s.data.toList.drop k))) (λ_ i _=>s.size - (intOf i).toNat)
 case atStart=>exact⟨0,Nat.zero_le _,rfl,rfl,hD (by simp)⟩
 case round=>
  obtain⟨k,hk,rfl,rfl,H⟩:=hrel;by_cases hlt:k<s.size
  . have hst:=hD (fH aZ s.data.toList k (by rw[HL.o];exact hlt))
    rw[bV s k hlt] at hst;by_cases hb:aZ ((s[k]'hlt).toNat:Int)=true
    . have HB:=hD hb
      go_wp2_with (go_at_call 153;refine bC (rR _ _) ?_)
      go_roundw
      case rel=>exact⟨k+1,by omega,by go_num,trivial,hD (by rw[H.o,hst.o,if_pos HB.o];omega)⟩
      case measure=>simp[intOf];omega
    . have hb':aZ ((s[k]'hlt).toNat:Int)=false:=by simpa using hb
      have HB:=hD hb;clear hb;go_wp2_with (go_at_call 153;refine bC (rR _ _) ?_)
      go_ret;exact⟨by rw[H.o,hst.o,if_neg HB.o];simp,rfl⟩
  . have h0:runN aZ (s.data.toList.drop k)=0:=by rw[List.drop_of_length_le (by rw[HL.o];omega)];rfl
    have H0:=hD h0;clear h0;go_wp2
    go_ret
    exact ⟨by rw [H.o, H0.o]; have : k = s.size := by omega
              subst this; rfl, rfl⟩
theorem aJq (s:ByteArray) (hs:s.size≤9223372036854775807) (w:World):
  Calls prog 73 #[.string s,.func (.func 74) #[] #[]] w λe w'=>e = .returned (.int .i64 (runN bU s.data.toList))∧w=w':=by
 have hl:s.data.toList.length=s.size:=by simp
 have HL:=hD hl;clear hl;go_enter func73,ntmps73;go_wp2
 go_loopw [5,8] (λ_ i w'=>∃k:Nat,k≤s.size∧i = .int .i64 k∧w=w'∧Hd (runN bU s.data.toList=k+runN bU (s.data.toList.drop k))) (λ_ i _=>s.size - (intOf i).toNat)
 case atStart=>exact⟨0,Nat.zero_le _,rfl,rfl,hD (by simp)⟩
 case round=>
  obtain⟨k,hk,rfl,rfl,H⟩:=hrel;by_cases hlt:k<s.size
  . have hst:=hD (fH bU s.data.toList k (by rw[HL.o];exact hlt))
    rw[bV s k hlt] at hst;by_cases hb:bU ((s[k]'hlt).toNat:Int)=true
    . have HB:=hD hb
      go_wp2_with (go_at_call 74;refine bC (aAa _ _) ?_)
      go_roundw
      case rel=>exact⟨k+1,by omega,by go_num,trivial,hD (by rw[H.o,hst.o,if_pos HB.o];omega)⟩
      case measure=>simp[intOf];omega
    . have hb':bU ((s[k]'hlt).toNat:Int)=false:=by simpa using hb
      have HB:=hD hb;clear hb;go_wp2_with (go_at_call 74;refine bC (aAa _ _) ?_)
      go_ret;exact⟨by rw[H.o,hst.o,if_neg HB.o];simp,rfl⟩
  . have h0:runN bU (s.data.toList.drop k)=0:=by rw[List.drop_of_length_le (by rw[HL.o];omega)];rfl
    have H0:=hD h0;clear h0;go_wp2
    go_ret
    exact ⟨by rw [H.o, H0.o]; have : k = s.size := by omega
              subst this; rfl, rfl⟩
theorem aEx (s:ByteArray) (hs:s.size≤9223372036854775807) (w:World):
  Calls prog 73 #[.string s,.func (.func 155) #[] #[]] w λe w'=>e = .returned (.int .i64 (runN cZ s.data.toList))∧w=w':=by
 have hl:s.data.toList.length=s.size:=by simp
 have HL:=hD hl;clear hl;go_enter func73,ntmps73;go_wp2
 go_loopw [5,8] (λ_ i w'=>∃k:Nat,k≤s.size∧i = .int .i64 k∧w=w'∧Hd (runN cZ s.data.toList=k+runN cZ (s.data.toList.drop k))) (λ_ i _=>s.size - (intOf i).toNat)
 case atStart=>exact⟨0,Nat.zero_le _,rfl,rfl,hD (by simp)⟩
 case round=>
  obtain⟨k,hk,rfl,rfl,H⟩:=hrel;by_cases hlt:k<s.size
  . have hst:=hD (fH cZ s.data.toList k (by rw[HL.o];exact hlt))
    rw[bV s k hlt] at hst;by_cases hb:cZ ((s[k]'hlt).toNat:Int)=true
    . have HB:=hD hb
      go_wp2_with (go_at_call 155;refine bC (vY _ _) ?_)
      go_roundw
      case rel=>exact⟨k+1,by omega,by go_num,trivial,hD (by rw[H.o,hst.o,if_pos HB.o];omega)⟩
      case measure=>simp[intOf];omega
    . have hb':cZ ((s[k]'hlt).toNat:Int)=false:=by simpa using hb
      have HB:=hD hb;clear hb;go_wp2_with (go_at_call 155;refine bC (vY _ _) ?_)
      go_ret;exact⟨by rw[H.o,hst.o,if_neg HB.o];simp,rfl⟩
  . have h0:runN cZ (s.data.toList.drop k)=0:=by rw[List.drop_of_length_le (by rw[HL.o];omega)];rfl
    have H0:=hD h0;clear h0;go_wp2
    go_ret
    exact ⟨by rw [H.o, H0.o]; have : k = s.size := by omega
              subst this; rfl, rfl⟩
end Go.Proofs.YtlbjicjinnnboaaGreatDoor.Lx
/- The lexer's numbers. -/
namespace Go.Proofs.YtlbjicjinnnboaaGreatDoor.Lx
open Go.RowKit Go.Proofs.Tryz
theorem vZ (M:Nat) (hM:M<18446744073709551616) (l:List UInt8) (h:dH l) (a:Nat) (ha:a≤M):
  Lib.parseUintM M a l=if M<aP a l then .range else .ok (aP a l):=by
 induction l generalizing a with
 | nil=>
  have:¬M<aP a []:=by show ¬M<a;omega
  rw[Lib.parseUintM,if_neg this];rfl
 | cons c l ih=>
  have hc:=h c (by simp);have hg:=oC (a*10+(c.toNat - 48)) l;rw[Lib.parseUintM,if_pos hc,dW];by_cases h1:1844674407370955162≤a
  . rw[if_pos h1,if_pos (by omega)]
  . rw[if_neg h1]
    by_cases h2:M<a*10+(c.toNat - 48)
    . rw[if_pos h2,if_pos (by omega)]
    . rw[if_neg h2]
      exact ih (λx hx=>h x (by simp[hx])) _ (by omega)
theorem qB (l:List UInt8) (h:dH l) (hne:l≠[]):
  Lib.parseIntB 64 l=if aP 0 l≤9223372036854775807 then .ok (aP 0 l:Int) else .range:=by
 cases l with
 | nil=>exact absurd rfl hne
 | cons c r=>
  have hc:=h c (by simp);have e:Lib.parseUintB 64 (c :: r)=if 18446744073709551615<aP 0 (c :: r) then .range else .ok (aP 0 (c :: r)):=by
    unfold Lib.parseUintB;rw[if_neg (by simp)];generalize hM:2 ^ 64 - 1=M;have hM2:M=18446744073709551615:=by omega
    rw[vZ M (by omega) (c :: r) h 0 (by omega),hM2]
  unfold Lib.parseIntB;simp only;rw[if_neg (by omega),e];by_cases h1:18446744073709551615<aP 0 (c :: r)
  . rw[if_pos h1,if_neg (by omega)]
  . rw[if_neg h1]
    simp only;by_cases h2:aP 0 (c :: r)≤9223372036854775807
    . rw[if_pos h2,if_neg (by omega),if_neg (by omega),if_neg (by omega)]
    . rw[if_neg h2,if_pos (by omega)]
structure Vars (w:World):Prop where
 most:∃m,w.cell? ⟨0,0,none⟩=some (.int .i64 m)
 rng : ∃ tp p, w.var? Tryz.prog "strconv.ErrRange" = some #[.iface tp p]
end Go.Proofs.YtlbjicjinnnboaaGreatDoor.Lx
/- The lexer's number: the walk. -/
namespace Go.Proofs.YtlbjicjinnnboaaGreatDoor.Lx
open Go.RowKit Go.Proofs.Tryz
variable {w w':World}
theorem aLs {P:Program}{x:String}{cs:Array Value} (h:w.var? P x=some cs) (f:Fr nob w w'):w'.var? P x=some cs:=by
 unfold World.var? at *;cases hg:P.globalNamed x with
 | none=>rw[hg] at h;simp at h
 | some g=>
  rw[hg] at h;simp only[Option.bind_some] at h ⊢;have hlt:g<w.heap.size:=by
   by_cases hlt:g<w.heap.size
   . exact hlt
   . rw[Array.getElem?_eq_none (by omega)] at h;simp at h
  rw[f.block g hlt (λx=>x)];exact h
theorem Vars.fr (h:Vars w) (f:Fr nob w w'):Vars w':=by
 obtain⟨⟨m,hm⟩,tp,p,hr⟩:=h;exact⟨⟨m,(f.cell (World.block_lt_of_cell? _ _ hm) (λx=>x)).trans hm⟩,tp,p,aLs hr f⟩
theorem Fr.zY (h:Below w.heap.size w w'):Fr nob w w':=⟨h.os,h.tape,h.output,h.size,λk hk _=>h.block k hk⟩
theorem Fr.bytes (e:TypeId) (h:w'=w∨∃t,w'=Lib.bytesWorld w e t):Fr nob w w':=by
 rcases h with rfl|⟨t,rfl⟩
 . exact Fr.refl _ _
 . exact Fr.zY (Lib.bytesWorld_below _ _ _)
theorem aCn (s:ByteArray) (w:World) (hs:s.size≤281474976710656) (hd:0<runN bA s.data.toList) (hv:Vars w):
   Calls prog 112 #[.string s] w λe w'=>e = .returned (kC s (iU s.data.toList))∧Fr nob w w':=by
 have hn:=jE bA s.data.toList;have hn2:runN bA s.data.toList≤s.size:=by simpa using hn
 have hex:(s.extract 0 (runN bA s.data.toList)).data.toList=s.data.toList.take (runN bA s.data.toList):=lF _ _;have hdg:=nA s.data.toList;have hlen:(s.data.toList.take (runN bA s.data.toList)).length=runN bA s.data.toList:=by rw[List.length_take];omega
 have hsz:(s.extract 0 (runN bA s.data.toList)).size=runN bA s.data.toList:=by simp;omega
 have hr:=hD (aEy s (by omega) );unfold iU;have hp:=qB _ hdg (by intro h;rw[h] at hlen;simp at hlen;omega);rw[<-hex] at hp;generalize runN bA s.data.toList=n at *;obtain⟨tp,p,hrv⟩:=hv.rng;have RV:=hD hrv;have hok:lY (s.data.toList.take n)=(decide (n≤19) && decide (aP 0 (s.extract 0 n).data.toList≤9223372036854775807)):=by unfold lY;rw[hlen,hex]
 rw[hok];clear hok hdg hlen hex hn hrv hv;have HP:=hD hp;have HSZ:=hD hsz;clear hp hsz;by_cases h1:aP 0 (s.extract 0 n).data.toList≤9223372036854775807
 . have hp:=HP.o
   rw[if_pos h1] at hp;have HQ:=hD hp;clear hp;rw[decide_eq_true h1];clear h1 HP;by_cases h2:n≤19
   . rw[decide_eq_true h2]
     go_enter func112,ntmps112;go_wp2_with (first|(go_at_call 73;refine bC (hr.o _) ?_)|(go_at_call 152;go_must (refine (strconv_ParseInt_10_at64_ok _ (by (have:=HSZ.o;omega)) _ HQ _).mono ?_;rintro e w2 ⟨rfl,hw⟩;have F2:=hD (Fr.bytes _ hw);(have B:=(Blk.new w 115 #[.int .i64 0,.string ⟨#[]⟩,.int .i64 0]).fr F2 (λx=>x));have c0:=B.cell 0;have c1:=B.cell 1;have c2:=B.cell 2;have f0:=B.frozen 0;have f1:=B.frozen 1;have f2:=B.frozen 2;clear B;clear hw)))
     refine bodyPost_ret (v:=kC s (.ok 1 0 n n)) (by simp[results,results112,go_sem,kC,iN,c0,c1,c2];try rfl) rfl ⟨by simp,Fr.uV F2 _ _ _⟩
   . rw[decide_eq_false h2]
     have h3:(19:Int)<(n:Int):=by omega
     clear h2;go_enter func112,ntmps112;go_wp2_with (first|(go_at_call 73;refine bC (hr.o _) ?_)|(go_at_call 152;go_must (refine (strconv_ParseInt_10_at64_ok _ (by (have:=HSZ.o;omega)) _ HQ _).mono ?_;rintro e w2 ⟨rfl,hw⟩;have F2:=hD (Fr.bytes _ hw);(have B:=(Blk.new w 115 #[.int .i64 0,.string ⟨#[]⟩,.int .i64 0]).fr F2 (λx=>x));have c0:=B.cell 0;have c1:=B.cell 1;have c2:=B.cell 2;have f0:=B.frozen 0;have f1:=B.frozen 1;have f2:=B.frozen 2;clear B;clear hw)))
     refine bodyPost_ret (v:=kC s (.err 12)) (by simp[results,results112,go_sem,kC,iN,c0,c1,c2];try rfl) rfl ⟨by simp,Fr.uV F2 _ _ _⟩
 . have hp:=HP.o
   rw[if_neg h1] at hp;have HQ:=hD hp;clear hp;rw[decide_eq_false h1];clear h1 HP;rw[Bool.and_false];by_cases h2:n≤19
   case' pos=>
    have h3:(n:Int)≤19:=by omega
   case' neg=>
    have h3:(19:Int)<(n:Int):=by omega
   all_goals
    clear h2;go_enter func112,ntmps112;go_wp2_with (first|(go_at_call 73;refine bC (hr.o _) ?_)|(go_at_call 152;go_must (refine (strconv_ParseInt_10_at64_range_var _ (by (have:=HSZ.o;omega)) HQ tp p _ (aLs RV ((fR w).alloc _))).mono ?_;rintro e w2 ⟨N,rfl,_,_,hb⟩;have F2:=hD (Fr.zY hb);(have B:=(Blk.new w 115 #[.int .i64 0,.string ⟨#[]⟩,.int .i64 0]).fr F2 (λx=>x));have c0:=B.cell 0;have c1:=B.cell 1;have c2:=B.cell 2;have f0:=B.frozen 0;have f1:=B.frozen 1;have f2:=B.frozen 2;clear B;clear hb)))
    refine bodyPost_ret (v:=kC s (.err 12)) (by simp[results,results112,go_sem,kC,iN,c0,c1,c2];try rfl) rfl ⟨by simp,Fr.uV F2 _ _ _⟩
end Go.Proofs.YtlbjicjinnnboaaGreatDoor.Lx
/- The lexer's words and names: the walks. -/
namespace Go.Proofs.YtlbjicjinnnboaaGreatDoor.Lx
open Go.RowKit Go.Proofs.Tryz
theorem aHu:Lib.countB ⟨(List.append [102,110,32,108,101,116,32,105,102,32,101,108,115,101,32,119,104,105,108,101,32,114,101,116,117,114,110,32,112,114,105,110,116,32,105,110,112,117,116,32] [110,101,119,32,108,101,110,32,116,114,117,101,32,102,97,108,115,101,32,105,110,116,32,98,111,111,108,32,116,101,120,116,32,108,105,115,116]).toArray⟩ ⟨#[32]⟩=15:=by kernel_rfl
theorem aEn:Lib.splitB ⟨#[32]⟩ 0 15 ⟨(List.append [102,110,32,108,101,116,32,105,102,32,101,108,115,101,32,119,104,105,108,101,32,114,101,116,117,114,110,32,112,114,105,110,116,32,105,110,112,117,116,32] [110,101,119,32,108,101,110,32,116,114,117,101,32,102,97,108,115,101,32,105,110,116,32,98,111,111,108,32,116,101,120,116,32,108,105,115,116]).toArray⟩=iI:=by kernel_rfl
theorem xJ (w:World) (hv:Vars w):Calls prog 156 #[.string ⟨(List.append [102,110,32,108,101,116,32,105,102,32,101,108,115,101,32,119,104,105,108,101,32,114,101,116,117,114,110,32,112,114,105,110,116,32,105,110,112,117,116,32] [110,101,119,32,108,101,110,32,116,114,117,101,32,102,97,108,115,101,32,105,110,116,32,98,111,111,108,32,116,101,120,116,32,108,105,115,116]).toArray⟩,.string ⟨#[32]⟩] w λe w'=>
  e = .returned (.slice (some ⟨w.heap.size,0,none⟩) 16 16)∧w'=w.alloc (.cells (iI.map Value.string).toArray 9):=by
 obtain⟨m,hm⟩:=hv.most;refine lK (strings_Split _ _ m w (by decide) hm (by decide)) ?_;rw[aHu,aEn];exact⟨rfl,rfl⟩
theorem aLi:Lib.countB ⟨#[124,124,32,38,38,32,60,61,32,61,61,32,33,61]⟩ ⟨#[32]⟩=4:=by kernel_rfl
theorem aJj:Lib.splitB ⟨#[32]⟩ 0 4 ⟨#[124,124,32,38,38,32,60,61,32,61,61,32,33,61]⟩=jQ:=by kernel_rfl
theorem rU (w:World) (hv:Vars w):Calls prog 156 #[.string ⟨#[124,124,32,38,38,32,60,61,32,61,61,32,33,61]⟩,.string ⟨#[32]⟩] w λe w'=>
  e = .returned (.slice (some ⟨w.heap.size,0,none⟩) 5 5)∧w'=w.alloc (.cells (jQ.map Value.string).toArray 9):=by
 obtain⟨m,hm⟩:=hv.most;refine lK (strings_Split _ _ m w (by decide) hm (by decide)) ?_;rw[aLi,aJj];exact⟨rfl,rfl⟩
theorem among (ss:List ByteArray) (n:Nat) (hn:ss.length=n) (hm:n≤9223372036854775807) (x:ByteArray) (w:World):
   Calls prog 122 #[.slice (some ⟨w.heap.size,0,none⟩) n n,.string x] (w.alloc (.cells (ss.map Value.string).toArray 9)) λe w'=>
    e = .returned (.bool (isIn ss x.data.toList))∧w'=w.alloc (.cells (ss.map Value.string).toArray 9):=by
 refine (slices_Contains_string _ _ _ _ ss x _ (by omega) hm (λj hj=>?_)).mono ?_
 . have:=(Blk.new w 9 (ss.map Value.string).toArray).cell j
   rw[Nat.zero_add,this];simp[List.getD,hj]
 . rintro e w' ⟨rfl,rfl⟩
   rw[List.take_of_length_le (by omega),qI];exact⟨rfl,rfl⟩
theorem aIw (s:ByteArray) (w:World) (hv:Vars w):Calls prog 154 #[.string s] w λe w'=>e = .returned (.bool (oI s.data.toList))∧Fr nob w w':=by
 unfold oI;have V:=hD hv;clear hv;go_enter func154,ntmps154;go_wp2_with (first|(go_at_call 156;go_must (refine lK (xJ _ V) ?_))|(go_at_call 122;go_must (refine lK (among iI 16 rfl (by decide) _ w) ?_)))
 go_ret;exact⟨rfl,(fR w).alloc _⟩
theorem uH (s:ByteArray) (w:World) (hs:s.size≤281474976710656) (hv:Vars w):
  Calls prog 114 #[.string s] w λe w'=>e = .returned (kC s (qH s.data.toList))∧Fr nob w w':=by
 have hn:=jE aZ s.data.toList;have hn2:runN aZ s.data.toList≤s.size:=by simpa using hn
 have hex:(s.extract 0 (runN aZ s.data.toList)).data.toList=s.data.toList.take (runN aZ s.data.toList):=lF _ _;have hr:=hD (aBl s (by omega));have HW:=hD (λw' hv'=>aIw (s.extract 0 (runN aZ s.data.toList)) w' hv');rw[hex] at HW;unfold qH;generalize runN aZ s.data.toList=n at *;generalize oI (s.data.toList.take n)=b at *;have V:=hD hv;clear hv hex hn;cases b with
 | true=>
  go_enter func114,ntmps114;go_wp2_with (first|(go_at_call 73;refine bC (hr.o _) ?_)|(go_at_call 154;go_must (refine (HW _ (V.o.fr ((fR w).alloc _))).mono ?_;rintro e w2 ⟨rfl,hf⟩;have F2:=hD hf;(have B:=(Blk.new w 115 #[.int .i64 0,.string ⟨#[]⟩,.int .i64 0]).fr F2 (λx=>x));have c0:=B.cell 0;have c1:=B.cell 1;have c2:=B.cell 2;have f0:=B.frozen 0;have f1:=B.frozen 1;have f2:=B.frozen 2;clear B;clear hf)))
  refine bodyPost_ret (v:=kC s (.ok 4 0 n n)) (by simp[results,results114,go_sem,kC,iN,c0,c1,c2];try rfl) rfl ⟨by simp,Fr.uV F2 _ _ _⟩
 | false=>
  by_cases h8:8<n
  . have h3:(8:Int)<(n:Int):=by omega
    rw[if_neg (by decide),if_pos h8];clear h8;go_enter func114,ntmps114;go_wp2_with (first|(go_at_call 73;refine bC (hr.o _) ?_)|(go_at_call 154;go_must (refine (HW _ (V.o.fr ((fR w).alloc _))).mono ?_;rintro e w2 ⟨rfl,hf⟩;have F2:=hD hf;(have B:=(Blk.new w 115 #[.int .i64 0,.string ⟨#[]⟩,.int .i64 0]).fr F2 (λx=>x));have c0:=B.cell 0;have c1:=B.cell 1;have c2:=B.cell 2;have f0:=B.frozen 0;have f1:=B.frozen 1;have f2:=B.frozen 2;clear B;clear hf)))
    refine bodyPost_ret (v:=kC s (.err 13)) (by simp[results,results114,go_sem,kC,iN,c0,c1,c2];try rfl) rfl ⟨by simp,Fr.uV F2 _ _ _⟩
  . have h3:(n:Int)≤8:=by omega
    rw[if_neg (by decide),if_neg h8];clear h8;go_enter func114,ntmps114;go_wp2_with (first|(go_at_call 73;refine bC (hr.o _) ?_)|(go_at_call 154;go_must (refine (HW _ (V.o.fr ((fR w).alloc _))).mono ?_;rintro e w2 ⟨rfl,hf⟩;have F2:=hD hf;(have B:=(Blk.new w 115 #[.int .i64 0,.string ⟨#[]⟩,.int .i64 0]).fr F2 (λx=>x));have c0:=B.cell 0;have c1:=B.cell 1;have c2:=B.cell 2;have f0:=B.frozen 0;have f1:=B.frozen 1;have f2:=B.frozen 2;clear B;clear hf)))
    refine bodyPost_ret (v:=kC s (.ok 3 0 n n)) (by simp[results,results114,go_sem,kC,iN,c0,c1,c2];try rfl) rfl ⟨by simp,Fr.uV F2 _ _ _⟩
end Go.Proofs.YtlbjicjinnnboaaGreatDoor.Lx
/- The lexer's texts and signs: the walks. -/
namespace Go.Proofs.YtlbjicjinnnboaaGreatDoor.Lx
open Go.RowKit Go.Proofs.Tryz
theorem aJd (s:ByteArray) (w:World) (hs:s.size≤281474976710656) (h0:0<s.size):
   Calls prog 115 #[.string s] w λe w'=>e = .returned (kC s (lV s.data.toList))∧Fr nob w w':=by
 have hex:(s.extract 1 s.size).data.toList=s.data.toList.drop 1:=Lib.extract_to_end s 1;have hsx:(s.extract 1 s.size).size=s.size - 1:=by simp
 have hn:=jE cZ (s.extract 1 s.size).data.toList;have hn2:runN cZ (s.extract 1 s.size).data.toList+1≤s.size:=by
   have:(s.extract 1 s.size).data.toList.length=s.size - 1:=by simp
   omega
 have hr:=hD (aEx (s.extract 1 s.size) (by omega));unfold lV;rw[hex] at hr hn2;have hl:s.data.toList.length=s.size:=by simp
 rw[hl];have hby:=λh=>bV s (runN cZ (s.data.toList.drop 1)+1) h
 generalize runN cZ (s.data.toList.drop 1)=n at *;clear hn hex hsx hl;by_cases h1:s.size≤n+1
 . rw[if_pos (.inl h1)]
   have h2:(s.size:Int)≤(n:Int)+1:=by omega
   clear hby;go_enter func115,ntmps115;go_wp2_with (go_at_call 73;refine bC (hr.o _) ?_)
   refine bodyPost_ret (v:=kC s (.err 11)) (by simp[results,results115,go_sem,kC,iN];try rfl) rfl ⟨by simp,(fR w).alloc _⟩
 . have h3:n+1<s.size:=by omega
   have hb:=hby h3;clear hby;by_cases hq:((s[n+1]'h3).toNat:Int)=34
   . rw[if_neg (by rw[hb,hq];simp;omega)]
     have hqb:s[n+1]'h3=34:=by
       have:(s[n+1]'h3).toNat=34:=by omega
       exact UInt8.toNat_inj.1 this
     have hi:(n:Int)+1<(s.size:Int):=by omega
     by_cases h12:12<n
     . rw[if_pos h12]
       have h4:(12:Int)<(n:Int):=by omega
       clear hb h1;go_enter func115,ntmps115;go_wp2_with (go_at_call 73;refine bC (hr.o _) ?_)
       refine bodyPost_ret (v:=kC s (.err 4)) (by simp[results,results115,go_sem,kC,iN];try rfl) rfl ⟨by simp,(fR w).alloc _⟩
     . rw[if_neg h12]
       have h4:(n:Int)≤12:=by omega
       clear hb h1;go_enter func115,ntmps115;go_wp2_with (go_at_call 73;refine bC (hr.o _) ?_)
       refine bodyPost_ret (v:=kC s (.ok 2 1 n (n+2))) (by simp[results,results115,go_sem,kC,iN];try rfl) rfl ⟨by simp,(fR w).alloc _⟩
   . rw[if_pos (.inr (by rw[hb];exact hq))]
     have hi:(n:Int)+1<(s.size:Int):=by omega
     have hq1:(((s[n+1]'h3).toNat:Int) != 34)=true:=bne_iff_ne.2 hq;clear hb h1 hq;go_enter func115,ntmps115;go_wp2_with (go_at_call 73;refine bC (hr.o _) ?_)
     refine bodyPost_ret (v:=kC s (.err 11)) (by simp[results,results115,go_sem,kC,iN];try rfl) rfl ⟨by simp,(fR w).alloc _⟩
theorem aPa (ss:List ByteArray) (n:Nat) (hn:ss.length=n) (hm:n≤9223372036854775807) (x:ByteArray) (g:Nat) (w:World) (hB:Blk w g 9 (ss.map Value.string).toArray):
   Calls prog 122 #[.slice (some ⟨g,0,none⟩) n n,.string x] w λe w'=>e = .returned (.bool (isIn ss x.data.toList))∧w=w':=by
 refine (slices_Contains_string _ _ _ _ ss x _ (by omega) hm (λj hj=>?_)).mono ?_
 . have:=hB.cell j
   rw[Nat.zero_add,this];simp[List.getD,hj]
 . rintro e w' ⟨rfl,rfl⟩
   rw[List.take_of_length_le (by omega),qI];exact⟨rfl,rfl⟩
theorem aKp (c:Int) (w:World):Calls prog 71 #[.string ⟨#[40,41,123,125,91,93,44,59,61,60,43,45,42,47,37,33]⟩,.int .u8 c] w λe w'=>
  ∃i:Int,e = .returned (.int .i64 i)∧aLz c=decide (0≤i)∧w'=w:=by
 refine lK (strings_IndexByte _ c w) ?_;exact⟨_,rfl,rfl,rfl⟩
theorem aJl (s:ByteArray) (w:World) (hs:s.size≤281474976710656) (h0:0<s.size) (hv:Vars w):
   Calls prog 116 #[.string s] w λe w'=>e = .returned (kC s (jR s.data.toList))∧Fr nob w w':=by
 have hl:s.data.toList.length=s.size:=by simp
 have hb:=bV s 0 h0;have hex:(s.extract 0 2).data.toList=s.data.toList.take 2:=lF _ _;unfold jR;rw[hl,hb];have V:=hD hv;clear hv hl hb;have HA:=hD (λg w' hB=>aPa jQ 5 rfl (by decide) (s.extract 0 2) g w' hB);rw[hex] at HA;have e2:aOe (s.data.toList.take 2)=isIn jQ (s.data.toList.take 2):=rfl;rw[e2];generalize isIn jQ (s.data.toList.take 2)=b at *;have HO:=hD (aKp ((s[0]'h0).toNat:Int));generalize aLz ((s[0]'h0).toNat:Int)=ob at *;clear hex e2;have h3:(0:Int)<(s.size:Int):=by omega
 by_cases h1:1<s.size
 . have h2:(1:Int)<(s.size:Int):=by omega
   have h4:(2:Int)≤(s.size:Int):=by omega
   have hd:decide ((1:Int)<(s.size:Int))=true:=decide_eq_true h2;cases b with
   | true=>
    rw[if_pos ⟨h1,rfl⟩];go_enter func116,ntmps116;go_wp2
    go_region_held3 (λ_=>True) (trivial) (first|(go_at_call 156;with_reducible refine lK (rU _ (V.o.fr (((fR w).alloc _).drew))) ?_)|(go_at_call 122;with_reducible refine bC (HA.o _ _ (by (have hB:=Blk.new (w.alloc (.cells #[.int .i64 0,.string ⟨#[]⟩,.int .i64 0] 115)) 9 (jQ.map Value.string).toArray);rw[World.size_alloc] at hB;exact hB.fr ((fR _).drew) (λx=>x))) ?_))
    go_wp2
    refine bodyPost_ret (v:=kC s (.ok 5 0 2 2)) (by simp[results,results116,go_sem,kC,iN];try rfl) rfl ⟨by simp,(((fR w).alloc _).alloc _).drew⟩
   | false=>
    rw[if_neg (by simp)];go_enter func116,ntmps116;go_wp2
    go_region_held3 (λ_=>True) (trivial) (first|(go_at_call 156;with_reducible refine lK (rU _ (V.o.fr (((fR w).alloc _).drew))) ?_)|(go_at_call 122;with_reducible refine bC (HA.o _ _ (by (have hB:=Blk.new (w.alloc (.cells #[.int .i64 0,.string ⟨#[]⟩,.int .i64 0] 115)) 9 (jQ.map Value.string).toArray);rw[World.size_alloc] at hB;exact hB.fr ((fR _).drew) (λx=>x))) ?_))
    cases ob with
    | true=>
     go_wp2_with (go_at_call 71;go_must (refine (HO _).mono ?_;rintro e w5 ⟨i,rfl,hob,rfl⟩;have hi:(0:Int)≤i:=of_decide_eq_true hob.symm;clear hob))
     refine bodyPost_ret (v:=kC s (.ok 5 0 1 1)) (by simp[results,results116,go_sem,kC,iN];try rfl) rfl ⟨by simp,(((fR w).alloc _).alloc _).drew⟩
    | false=>
     go_wp2_with (go_at_call 71;go_must (refine (HO _).mono ?_;rintro e w5 ⟨i,rfl,hob,rfl⟩;have hi:i<(0:Int):=Int.not_le.1 (of_decide_eq_false hob.symm);clear hob))
     refine bodyPost_ret (v:=kC s (.err 10)) (by simp[results,results116,go_sem,kC,iN];try rfl) rfl ⟨by simp,(((fR w).alloc _).alloc _).drew⟩
 . rw[if_neg (by omega)]
   have hd:decide ((1:Int)<(s.size:Int))=false:=decide_eq_false (by omega);clear h1;go_enter func116,ntmps116;go_wp2
   go_quiet (fail)
   cases ob with
   | true=>
    go_wp2_with (go_at_call 71;go_must (refine (HO _).mono ?_;rintro e w5 ⟨i,rfl,hob,rfl⟩;have hi:(0:Int)≤i:=of_decide_eq_true hob.symm;clear hob))
    refine bodyPost_ret (v:=kC s (.ok 5 0 1 1)) (by simp[results,results116,go_sem,kC,iN];try rfl) rfl ⟨by simp,Fr.uV ((fR _).drewN _) _ _ _⟩
   | false=>
    go_wp2_with (go_at_call 71;go_must (refine (HO _).mono ?_;rintro e w5 ⟨i,rfl,hob,rfl⟩;have hi:i<(0:Int):=Int.not_le.1 (of_decide_eq_false hob.symm);clear hob))
    refine bodyPost_ret (v:=kC s (.err 10)) (by simp[results,results116,go_sem,kC,iN];try rfl) rfl ⟨by simp,Fr.uV ((fR _).drewN _) _ _ _⟩
end Go.Proofs.YtlbjicjinnnboaaGreatDoor.Lx
/- What a text begins with: the walk. -/
namespace Go.Proofs.YtlbjicjinnnboaaGreatDoor.Lx
open Go.RowKit Go.Proofs.Tryz
theorem aHj (s:ByteArray) (w:World) (hs:s.size≤281474976710656) (h0:0<s.size) (hv:Vars w):
   Calls prog 75 #[.string s] w λe w'=>e = .returned (kC s (firstM s.data.toList))∧Fr nob w w':=by
 have hb:=bV s 0 h0;have h3:(0:Int)<(s.size:Int):=by omega
 have V:=hD hv;clear hv;unfold firstM;by_cases hd:bA (aX s.data.toList 0)=true
 case' pos=>
  rw[if_pos hd]
  have hr:0<runN bA s.data.toList:=by
    have:=fH bA s.data.toList 0 (by simpa using h0);rw[List.drop_zero,if_pos hd] at this;omega
  rw[hb] at hd;clear hb;have HC:=hD (λw' (hf:Fr nob w w')=>aCn s w' hs hr (V.o.fr hf));obtain⟨k,t,n,er,hV⟩:=mP s (iU s.data.toList);rw[hV] at HC ⊢;go_enter func75,ntmps75;go_wp2_with (first|(go_at_call 111;refine bC (iZ _ _) ?_)|(go_at_call 113;refine bC (jK _ _) ?_)|(go_at_call 112;go_must (refine (HC _ ((fR w).alloc _)).mono ?_;rintro e w2 ⟨rfl,hf⟩;have F2:=hD hf;(have B:=(Blk.new w 115 #[.int .i64 0,.string ⟨#[]⟩,.int .i64 0]).fr F2 (λx=>x));have c0:=B.cell 0;have c1:=B.cell 1;have c2:=B.cell 2;have f0:=B.frozen 0;have f1:=B.frozen 1;have f2:=B.frozen 2;clear B;clear hf)))
 case' neg=>
  rw[if_neg hd]
  rw[hb] at hd ⊢;have hd':bA ((s[0]'h0).toNat:Int)=false:=by simpa using hd
  clear hd hb;by_cases hl:fK ((s[0]'h0).toNat:Int)=true
  case' pos=>
   rw[if_pos hl]
   have HC:=hD (λw' (hf:Fr nob w w')=>uH s w' hs (V.o.fr hf));obtain⟨k,t,n,er,hV⟩:=mP s (qH s.data.toList);rw[hV] at HC ⊢;go_enter func75,ntmps75;go_wp2_with (first|(go_at_call 111;refine bC (iZ _ _) ?_)|(go_at_call 113;refine bC (jK _ _) ?_)|(go_at_call 114;go_must (refine (HC _ ((fR w).alloc _)).mono ?_;rintro e w2 ⟨rfl,hf⟩;have F2:=hD hf;(have B:=(Blk.new w 115 #[.int .i64 0,.string ⟨#[]⟩,.int .i64 0]).fr F2 (λx=>x));have c0:=B.cell 0;have c1:=B.cell 1;have c2:=B.cell 2;have f0:=B.frozen 0;have f1:=B.frozen 1;have f2:=B.frozen 2;clear B;clear hf)))
  case' neg=>
   rw[if_neg hl]
   have hl':fK ((s[0]'h0).toNat:Int)=false:=by simpa using hl
   clear hl;by_cases hq:((s[0]'h0).toNat:Int)=34
   case' pos=>
    have hq':(((s[0]'h0).toNat:Int)==34)=true:=beq_iff_eq.2 hq
    rw[if_pos hq'];clear hq;have HC:=hD (λw' (hf:Fr nob w w')=>aJd s w' hs h0);obtain⟨k,t,n,er,hV⟩:=mP s (lV s.data.toList);rw[hV] at HC ⊢;go_enter func75,ntmps75;go_wp2_with (first|(go_at_call 111;refine bC (iZ _ _) ?_)|(go_at_call 113;refine bC (jK _ _) ?_)|(go_at_call 115;go_must (refine (HC _ ((fR w).alloc _)).mono ?_;rintro e w2 ⟨rfl,hf⟩;have F2:=hD hf;(have B:=(Blk.new w 115 #[.int .i64 0,.string ⟨#[]⟩,.int .i64 0]).fr F2 (λx=>x));have c0:=B.cell 0;have c1:=B.cell 1;have c2:=B.cell 2;have f0:=B.frozen 0;have f1:=B.frozen 1;have f2:=B.frozen 2;clear B;clear hf)))
   case' neg=>
    have hq':(((s[0]'h0).toNat:Int)==34)=false:=by simpa using hq
    rw[if_neg (by rw[hq'];simp)];clear hq;have HC:=hD (λw' (hf:Fr nob w w')=>aJl s w' hs h0 (V.o.fr hf));obtain⟨k,t,n,er,hV⟩:=mP s (jR s.data.toList);rw[hV] at HC ⊢;go_enter func75,ntmps75;go_wp2_with (first|(go_at_call 111;refine bC (iZ _ _) ?_)|(go_at_call 113;refine bC (jK _ _) ?_)|(go_at_call 116;go_must (refine (HC _ ((fR w).alloc _)).mono ?_;rintro e w2 ⟨rfl,hf⟩;have F2:=hD hf;(have B:=(Blk.new w 115 #[.int .i64 0,.string ⟨#[]⟩,.int .i64 0]).fr F2 (λx=>x));have c0:=B.cell 0;have c1:=B.cell 1;have c2:=B.cell 2;have f0:=B.frozen 0;have f1:=B.frozen 1;have f2:=B.frozen 2;clear B;clear hf)))
 all_goals
  refine bodyPost_ret (v:= .tuple #[.agg #[.int .i64 k,.string t,.int .i64 0],.int .i64 n,.int .i64 er]) (by simp[results,results75,go_sem,c0,c1,c2];try rfl) rfl ⟨by simp,Fr.uV F2 _ _ _⟩
end Go.Proofs.YtlbjicjinnnboaaGreatDoor.Lx
/- The tokens of a source: the model, and how the walk goes along it. -/
namespace Go.Proofs.YtlbjicjinnnboaaGreatDoor.Lx
open Go.RowKit Go.Proofs.Tryz
section
variable {l:List UInt8}{p:Nat}
end
end Go.Proofs.YtlbjicjinnnboaaGreatDoor.Lx
