/- MkK: BwP, BwB, SgA, QMem, QStep, QHas, QPut, LXA, LXB, LXC, LXD, LXE, LXF, LXG. -/
import Derived.Test.YtlbjicjinnnboaaGreatDoorMkJ
import Derived.Test.YtlbjicjinnnboaaGreatDoorMkB
import Derived.Test.YtlbjicjinnnboaaGreatDoorShelf
import Derived.Test.YtlbjicjinnnboaaGreatDoorMkC
import Derived.Test.YtlbjicjinnnboaaGreatDoorMkA
set_option linter.unusedVariables false
set_option linter.unusedSimpArgs false
/- ParseBelow: nodes stand behind those below them, in order. The first part of BkG, in Pw. -/
namespace Go.Proofs.YtlbjicjinnnboaaGreatDoor
open Go.RowKit
namespace Pw
inductive Pst:List NodeM→List Nat→Prop where
 | nil:Pst [] []
 | put (ns:List NodeM) (st:List Nat) (nd:NodeM) (h:Pst ns (st++nd.l)):Pst (ns++[nd]) (st++[ns.length])
theorem Pst.lt {ns:List NodeM}{st:List Nat} (h:Pst ns st):∀a∈st,a<ns.length:=by
 induction h with
 | nil=>intro a ha;cases ha
 | put ns st nd h ih=>
  intro a ha;rw[List.length_append,List.length_singleton];rcases List.mem_append.1 ha with ha|ha
  · have:=ih a (List.mem_append_left _ ha);omega
  · rw[List.mem_singleton.1 ha];omega
section
variable {src:List UInt8}{ts:List Tok}
theorem pst_put {s:PS}{st:List Nat}{k line n:Nat}{name:List UInt8}{l:List Nat} (h:Pst s.nodes (st++l)):Pst (pPut k line n name l s).2.nodes (st++(pPut k line n name l s).1):=Pst.put s.nodes st ⟨k,line,n,name,l⟩ h
theorem run_pst:∀(n:Nat) (k:Task) (s:PS) (r:List Nat×PS),run src ts n k s=some r→r.2.e=0→∀st,Pst s.nodes (st++pendT k)→Pst r.2.nodes (st++r.1):=by
 intro n;induction n with
 | zero=>intro k s r h;simp[run] at h
 | succ n ih=>
  intro k s r h he st hp;have ih2:∀{k:Task} {s:PS} {r:List Nat×PS} {ns:List NodeM} {st:List Nat},run src ts n k s=some r→r.2.e=0→s.nodes=ns→Pst ns (st++pendT k)→Pst r.2.nodes (st++r.1):=fun h1 h2 h3 h4=>by
   subst h3;exact ih _ _ _ h1 h2 _ h4
  have put0:∀(k line m:Nat) (name:List UInt8) (t:PS),t.nodes=s.nodes→Pst s.nodes st→Pst (pPut k line m name [] t).2.nodes (st++(pPut k line m name [] t).1):=fun k line m name t h1 h2=>pst_put (by rw[h1,List.append_nil];exact h2)
  cases k with
  | atom=>
   simp only[run] at h;simp only[pendT,List.append_nil] at hp;split at h
   · rename_i h0
     simp only[Option.some.injEq] at h;subst h;exact absurd he h0
   · split at h
     · simp only[Option.some.injEq] at h;subst h;exact put0 _ _ _ _ (pGo s) rfl hp
     · split at h
       · simp only[Option.some.injEq] at h;subst h;exact put0 _ _ _ _ (pGo s) rfl hp
       · split at h
         · split at h
           · simp only[Option.map_eq_some_iff] at h
             obtain⟨q,hq,rfl⟩:=h;have c:=ih2 (st:=st) hq (e_must (x:=[93]) (ts:=ts) he) (show _=s.nodes by rw[nodes_must,nodes_down];rfl) (by simpa[pendT] using hp);exact pst_put (by rw[nodes_up,nodes_must];exact c)
           · simp only[Option.some.injEq] at h;subst h;exact put0 _ _ _ _ (pGo s) rfl hp
         · split at h
           · simp only[Option.some.injEq] at h;subst h;exact put0 _ _ _ _ (pGo s) rfl hp
           · split at h
             · simp only[Option.some.injEq] at h;subst h;exact put0 _ _ _ _ (pGo s) rfl hp
             · split at h
               · split at h
                 · simp only[Option.map_eq_some_iff] at h
                   obtain⟨q,hq,rfl⟩:=h;have c:=ih2 (st:=st) hq (e_must (x:=[41]) (ts:=ts) he) (show _=s.nodes by rw[nodes_must,nodes_down];rfl) (by simpa[pendT] using hp);exact pst_put (by rw[nodes_up,nodes_must];exact c)
                 · simp only[Option.some.injEq] at h;subst h;exact (e_fail (by decide) he).elim
               · split at h
                 · simp only[Option.map_eq_some_iff] at h
                   obtain⟨q,hq,rfl⟩:=h;have c:=ih2 (st:=st) hq (e_must (x:=[41]) (ts:=ts) he) (show _=s.nodes by rw[nodes_must,nodes_down]) (by simpa[pendT] using hp)
                   show Pst (pMust ts [41] q.2).nodes (st++q.1)
                   rw[nodes_must];exact c
                 · simp only[Option.some.injEq] at h;subst h;exact (e_fail (by decide) he).elim
  | factor=>
   simp only[run] at h;simp only[pendT,List.append_nil] at hp;have go:∀{k},((run src ts n .factor (pGo (pDown ts s))).map fun r=>pPut k (pLine src ts s) 0 [] r.1 (pUp r.2))=some r→Pst r.2.nodes (st++r.1):=fun h=>by
     simp only[Option.map_eq_some_iff] at h;obtain⟨q,hq,rfl⟩:=h;have c:=ih2 (st:=st) hq he (show (pDown ts s).nodes=s.nodes from nodes_down s) (by simpa[pendT] using hp);exact pst_put c
   split at h
   · exact go h
   · split at h
     · exact go h
     · exact ih _ _ _ h he st (by simpa[pendT] using hp)
  | chain lv=>
   simp only[run] at h;simp only[pendT,List.append_nil] at hp;split at h
   · exact ih _ _ _ h he st (by simpa[pendT] using hp)
   · simp only[Option.bind_eq_some_iff] at h
     obtain⟨q,hq,h⟩:=h;have hq1:=run_one _ _ _ _ hq trivial;have c:=ih2 (st:=st) hq (run_e h he) rfl (by simpa[pendT] using hp);rw[hq1] at c;exact ih _ _ _ h he st c
  | more lv line y=>
   simp only[run] at h;simp only[pendT] at hp;split at h
   · simp only[Option.some.injEq] at h;subst h;exact hp
   · simp only[Option.bind_eq_some_iff] at h
     obtain⟨q,hq,h⟩:=h;have hq1:=run_one _ _ _ _ hq trivial;have key:q.2.e=0→Pst (pPut 9 line 0 (pNext ts lv s) [y,q.1.headD 0] q.2).2.nodes (st++(pPut 9 line 0 (pNext ts lv s) [y,q.1.headD 0] q.2).1):=fun e1=>by
       have c:=ih2 (st:=st++[y]) hq e1 (show (pGo s).nodes=s.nodes from rfl) (by simpa[pendT] using hp);rw[hq1,List.append_assoc] at c;exact pst_put c
     split at h
     · simp only[Option.some.injEq] at h;subst h
       exact key he
     · have e5:=run_e h he
       exact ih _ _ _ h he st (key e5)
  | args l=>
   simp only[run,Option.bind_eq_some_iff] at h;simp only[pendT] at hp;obtain⟨q,hq,h⟩:=h;have key:q.2.e=0→Pst q.2.nodes (st++(l++q.1)):=fun e1=>by
     have c:=ih2 (st:=st++l) hq e1 rfl (by simpa[pendT] using hp);rw[List.append_assoc] at c;exact c
   split at h
   · have e1:=run_e h he
     exact ih _ _ _ h he st (key e1)
   · simp only[Option.some.injEq] at h;subst h
     exact key he
  | call=>
   simp only[run,Option.map_eq_some_iff] at h;simp only[pendT,List.append_nil] at hp;obtain⟨q,hq,rfl⟩:=h;have e1:q.2.e=0:=e_must (x:=[41]) (ts:=ts) he;have hn:(pMust ts [40] (pNamed ts s)).nodes=s.nodes:=by rw[nodes_must,nodes_named]
   have key:Pst q.2.nodes (st++q.1):=by
     split at hq
     · exact ih2 hq e1 hn (by simpa[pendT] using hp)
     · simp only[Option.some.injEq] at hq;subst hq
       show Pst (pMust ts [40] (pNamed ts s)).nodes (st++[])
       rw[hn,List.append_nil];exact hp
   exact pst_put (by rw[nodes_must];exact key)
  | right=>
   simp only[run] at h;simp only[pendT,List.append_nil] at hp;split at h
   · simp only[Option.some.injEq] at h;subst h;exact put0 _ _ _ _ (pGo s) rfl hp
   · split at h
     · simp only[Option.map_eq_some_iff] at h
       obtain⟨q,hq,rfl⟩:=h;have c:=ih2 (st:=st) hq (e_must (x:=[41]) (ts:=ts) he) (show _=s.nodes by rw[nodes_must];rfl) (by simpa[pendT] using hp);exact pst_put (by rw[nodes_must];exact c)
     · split at h<;>exact ih _ _ _ h he st (by simpa[pendT] using hp)
  | block=>
   simp only[run] at h;simp only[pendT,List.append_nil] at hp;split at h
   · simp only[Option.map_eq_some_iff] at h
     obtain⟨q,hq,rfl⟩:=h;have c:=ih2 (st:=st) hq (e_must (x:=[125]) (ts:=ts) he) (show _=s.nodes by rw[nodes_must,nodes_down]) (by simpa[pendT] using hp);exact pst_put (by rw[nodes_up,nodes_must];exact c)
   · simp only[Option.some.injEq] at h;subst h;exact (e_fail (by decide) he).elim
  | stmts l=>
   simp only[run] at h;simp only[pendT] at hp;split at h
   · rename_i h0
     simp only[Option.some.injEq] at h;subst h;exact absurd he h0
   · split at h
     · simp only[Option.some.injEq] at h;subst h;exact hp
     · simp only[Option.bind_eq_some_iff] at h
       obtain⟨q,hq,h⟩:=h;have c:=ih2 (st:=st++l) hq (run_e h he) rfl (by simpa[pendT] using hp);rw[List.append_assoc] at c;exact ih _ _ _ h he st c
  | named line=>
   simp only[run] at h;simp only[pendT,List.append_nil] at hp;split at h
   · simp only[Option.map_eq_some_iff] at h
     obtain⟨q,hq,rfl⟩:=h;have c:=ih2 (st:=st) hq (e_must (x:=[59]) (ts:=ts) he) rfl (by simpa[pendT] using hp);exact pst_put (by rw[nodes_must];exact c)
   · split at h
     · simp only[Option.map_eq_some_iff,Option.bind_eq_some_iff] at h
       obtain⟨q,hq,u,hu,rfl⟩:=h;have e2:u.2.e=0:=e_must (x:=[59]) (ts:=ts) he;have e1:q.2.e=0:=e_must (ts:=ts) (x:=[93]) (s:=q.2) (e_must (ts:=ts) (x:=[61]) (s:=pUp (pMust ts [93] q.2)) (run_e hu e2));have c:=ih2 (st:=st) hq e1 (show _=s.nodes by rw[nodes_must,nodes_down,nodes_named]) (by simpa[pendT] using hp);have g:=ih2 (st:=st++q.1) hu e2 (show (pMust ts [61] (pUp (pMust ts [93] q.2))).nodes=q.2.nodes by rw[nodes_must];exact nodes_must _ _) (by simpa[pendT] using c);rw[List.append_assoc] at g;exact pst_put (by rw[nodes_must];exact g)
     · simp only[Option.map_eq_some_iff] at h
       obtain⟨q,hq,rfl⟩:=h;have c:=ih2 (st:=st) hq (e_must (x:=[59]) (ts:=ts) he) (show _=s.nodes by rw[nodes_must,nodes_named]) (by simpa[pendT] using hp);exact pst_put (by rw[nodes_must];exact c)
  | stmt=>
   simp only[run] at h;simp only[pendT,List.append_nil] at hp;split at h
   · simp only[Option.map_eq_some_iff] at h
     obtain⟨q,hq,rfl⟩:=h;have c:=ih2 (st:=st) hq (e_must (x:=[59]) (ts:=ts) he) (show _=s.nodes by rw[nodes_must,nodes_named];rfl) (by simpa[pendT] using hp);exact pst_put (by rw[nodes_must];exact c)
   · split at h
     · simp only[Option.map_eq_some_iff] at h
       obtain⟨q,hq,rfl⟩:=h;have c:=ih2 (st:=st) hq (e_must (x:=[59]) (ts:=ts) he) (show (pGo s).nodes=s.nodes from rfl) (by simpa[pendT] using hp);exact pst_put (by rw[nodes_must];exact c)
     · split at h
       · simp only[Option.map_eq_some_iff,Option.bind_eq_some_iff] at h
         obtain⟨q,hq,u,hu,rfl⟩:=h;have e1:q.2.e=0:=run_e hu he;have c:=ih2 (st:=st) hq e1 (show (pGo s).nodes=s.nodes from rfl) (by simpa[pendT] using hp);have g:=ih2 (st:=st++q.1) hu he rfl (by simpa[pendT] using c);rw[List.append_assoc] at g;exact pst_put g
       · split at h
         · simp only[Option.bind_eq_some_iff] at h
           obtain⟨q,hq,u,hu,h⟩:=h;split at h
           · simp only[Option.map_eq_some_iff] at h
             obtain⟨v,hv,rfl⟩:=h;have e2:u.2.e=0:=run_e (s:=pGo u.2) hv he;have e1:q.2.e=0:=run_e hu e2;have c:=ih2 (st:=st) hq e1 (show (pGo s).nodes=s.nodes from rfl) (by simpa[pendT] using hp);have g:=ih2 (st:=st++q.1) hu e2 rfl (by simpa[pendT] using c);have g2:=ih2 (st:=st++q.1++u.1) hv he (show (pGo u.2).nodes=u.2.nodes from rfl) (by simpa[pendT] using g);exact pst_put (by rw[←List.append_assoc,←List.append_assoc];exact g2)
           · simp only[Option.some.injEq] at h;subst h
             have e1:q.2.e=0:=run_e hu he;have c:=ih2 (st:=st) hq e1 (show (pGo s).nodes=s.nodes from rfl) (by simpa[pendT] using hp);have g:=ih2 (st:=st++q.1) hu he rfl (by simpa[pendT] using c);exact pst_put (by rw[←List.append_assoc];exact g)
         · split at h
           · split at h
             · simp only[Option.some.injEq] at h;subst h
               exact put0 17 (pLine src ts s) 0 [] (pMust ts [59] (pGo s)) (by rw[nodes_must];rfl) hp
             · simp only[Option.map_eq_some_iff] at h
               obtain⟨q,hq,rfl⟩:=h;have c:=ih2 (st:=st) hq (e_must (x:=[59]) (ts:=ts) he) (show (pGo s).nodes=s.nodes from rfl) (by simpa[pendT] using hp);exact pst_put (by rw[nodes_must];exact c)
           · exact ih _ _ _ h he st (by simpa[pendT] using hp)
theorem func_pst {n:Nat}{s:PS}{fs:FuncM×PS} (h:runFunc src ts n s=some fs) (he:fs.2.e=0){st:List Nat} (hs:Pst s.nodes st):Pst fs.2.nodes (st++[fs.1.body]):=by
 simp only[runFunc,Option.bind_eq_some_iff,Option.map_eq_some_iff] at h;obtain⟨p,hp,b,hb,rfl⟩:=h;have hn1:(pMust ts [40] (pNamed ts (pMust ts [102,110] s))).nodes=s.nodes:=by rw[nodes_must,nodes_named,nodes_must]
 have h2:p.2.nodes=s.nodes:=by
  split at hp
  · rw[params_nodes _ _ _ _ hp,hn1]
  · simp only[Option.some.injEq] at hp
    subst hp;exact hn1
 have hb1:=run_one _ _ _ _ hb trivial;have hn:(if pIs ts [123] (pMust ts [41] p.2)=true then pMust ts [41] p.2 else pTyped ts (pMust ts [41] p.2)).nodes=s.nodes:=by
  split
  · rw[nodes_must,h2]
  · rw[nodes_typed,nodes_must,h2]
 have c:=run_pst _ _ _ _ hb he st (by rw[hn];simpa[pendT] using hs);rw[hb1] at c;exact c
theorem fns_pst:∀(n:Nat) (acc:List FuncM) (s:PS) (r:List FuncM×PS),runFns src ts n acc s=some r→r.2.e=0→Pst s.nodes (acc.map (·.body))→Pst r.2.nodes (r.1.map (·.body))
 | 0,_,_,_,h,_,_=>by simp[runFns] at h
 | n+1,acc,s,r,h,he,hs=>by
  simp only[runFns] at h;split at h
  · simp only[Option.some.injEq] at h;subst h;exact hs
  · split at h
    · simp only[Option.some.injEq] at h;subst h;exact hs
    · simp only[Option.bind_eq_some_iff] at h
      obtain⟨fs,hfs,h⟩:=h;refine fns_pst n _ _ _ h he ?_;rw[List.map_append];exact func_pst hfs ((fns_ext _ _ _ _ h).e0 he) hs
end
end Pw
namespace Pw
theorem lex_sorted:∀(n:Nat) (l:List UInt8) (p:Nat) (K:List Tok),l.length≤n→lexFrom l p = .good K→(∀t∈K,p≤t.place)∧K.Pairwise (fun a b=>a.place≤b.place):=by
 intro n;induction n with
 | zero=>
  intro l p K hl h;cases l with
  | nil=>
   rw[lexFrom] at h;injection h with h;subst h;exact⟨fun t ht=>by rw[List.mem_singleton.1 ht];exact Nat.le_refl _,List.pairwise_singleton _ _⟩
  | cons c r=>simp at hl
 | succ n ih=>
  intro l p K hl h;cases l with
  | nil=>
   rw[lexFrom] at h;injection h with h;subst h;exact⟨fun t ht=>by rw[List.mem_singleton.1 ht];exact Nat.le_refl _,List.pairwise_singleton _ _⟩
  | cons c r=>
   have hr:r.length≤n:=by simpa using hl
   rw[lexFrom] at h;split at h
   · obtain⟨a,b⟩:=ih _ _ _ hr h
     exact⟨fun t ht=>by have:=a t ht;omega,b⟩
   · split at h
     · obtain⟨a,b⟩:=ih _ _ _ (by rw[List.length_drop];omega) h
       exact⟨fun t ht=>by have:=a t ht;omega,b⟩
     · split at h
       · cases h
       · rename_i k o m q _
         cases hx:lexFrom (r.drop (q - 1)) (p+q) with
         | bad i e=>rw[hx] at h;cases h
         | good J=>
          rw[hx] at h;injection h with h;subst h;obtain⟨a,b⟩:=ih _ _ _ (by rw[List.length_drop];omega) hx;refine⟨fun t ht=>?_,?_⟩
          · rcases List.mem_append.1 ht with ht|ht
            · rw[List.mem_singleton.1 ht];exact Nat.le_refl _
            · have:=a t ht;omega
          · show List.Pairwise _ (_ :: J)
            exact List.pairwise_cons.2 ⟨fun t ht=>by have:=a t ht;show p≤t.place;omega,b⟩
theorem line_mono (l:List UInt8) (a b:Nat) (h:a≤b):lineN l (a:Nat)≤lineN l (b:Nat):=by
 unfold lineN;have e:l.take a=(l.take b).take a:=by rw[List.take_take,Nat.min_eq_left h]
 have:=List.Sublist.count_le 10 (List.take_sublist a (l.take b));rw[←e] at this
 show 1+(l.take ((a:Int).toNat)).count 10≤1+(l.take ((b:Int).toNat)).count 10
 rw[Int.toNat_natCast,Int.toNat_natCast];omega
theorem mono_of {src:List UInt8}{ts:List Tok} (h:lexM src = .good ts):MonoT src ts:=by
 unfold lexM at h;split at h
 · cases h
 · have hs:=(lex_sorted src.length src 0 ts (Nat.le_refl _) h).2
   intro i j hij hj;apply line_mono
   rw[List.getD,List.getD,List.getElem?_eq_getElem hj,List.getElem?_eq_getElem (show i<ts.length by omega)]
   show ts[i].place≤ts[j].place
   by_cases e:i=j
   · subst e;exact Nat.le_refl _
   · exact List.pairwise_iff_getElem.1 hs i j (by omega) hj (by omega)
section
variable {src:List UInt8}{ts:List Tok}
theorem func_ln (hm:MonoT src ts) (ht:ToksOk ts){n:Nat}{s:PS}{fs:FuncM×PS} (h:runFunc src ts n s=some fs) (hs:PSOk ts s) (he:fs.2.e=0) (hw:LinesOk s.nodes):LinesOk fs.2.nodes:=by
 simp only[runFunc,Option.bind_eq_some_iff,Option.map_eq_some_iff] at h;obtain⟨p,hp,b,hb,rfl⟩:=h;have h1:PSOk ts (pMust ts [40] (pNamed ts (pMust ts [102,110] s))):=((hs.must ht _).named ht).must ht _;have hn1:(pMust ts [40] (pNamed ts (pMust ts [102,110] s))).nodes=s.nodes:=by rw[nodes_must,nodes_named,nodes_must]
 have h2:PSOk ts p.2∧p.2.nodes=s.nodes:=by
   split at hp
   · exact⟨params_ok ht _ _ _ _ hp h1,by rw[params_nodes _ _ _ _ hp,hn1]⟩
   · simp only[Option.some.injEq] at hp
     subst hp;exact⟨h1,hn1⟩
 split at hb
 · exact (run_ln hm ht _ _ _ _ hb (h2.1.must ht _) he (by rw[nodes_must,h2.2];exact hw) _ (Nat.le_refl _) trivial).1
 · exact (run_ln hm ht _ _ _ _ hb ((h2.1.must ht _).typed ht) he (by rw[nodes_typed,nodes_must,h2.2];exact hw) _ (Nat.le_refl _) trivial).1
theorem fns_ln (hm:MonoT src ts) (ht:ToksOk ts):∀(n:Nat) (acc:List FuncM) (s:PS) (r:List FuncM×PS),runFns src ts n acc s=some r→PSOk ts s→r.2.e=0→LinesOk s.nodes→LinesOk r.2.nodes
 | 0,_,_,_,h,_,_,_=>by simp[runFns] at h
 | n+1,acc,s,r,h,hs,he,hw=>by
  simp only[runFns] at h;split at h
  · simp only[Option.some.injEq] at h;subst h;exact hw
  · split at h
    · simp only[Option.some.injEq] at h;subst h;exact hw
    · simp only[Option.bind_eq_some_iff] at h
      obtain⟨fs,hfs,h⟩:=h;have e1:fs.2.e=0:=(fns_ext _ _ _ _ h).e0 he;exact fns_ln hm ht n _ _ _ h (func_ok ht hfs hs).1 he (func_ln hm ht hfs hs e1 hw)
end
theorem Pst.asc {ns:List NodeM}{st:List Nat} (h:Pst ns st):st.Pairwise (· < ·)∧∀(i:Nat) (nd:NodeM),ns[i]?=some nd→nd.l.Pairwise (· < ·):=by
 induction h with
 | nil=>exact⟨List.Pairwise.nil,fun i nd h=>by simp at h⟩
 | put ns st nd h ih=>
  obtain⟨a,b⟩:=ih;obtain⟨a1,a2,a3⟩:=List.pairwise_append.1 a;refine⟨List.pairwise_append.2 ⟨a1,List.pairwise_singleton _ _,fun x hx y hy=>?_⟩,fun i x hx=>?_⟩
  · rw[List.mem_singleton.1 hy]
    exact h.lt x (List.mem_append_left _ hx)
  · by_cases hi:i<ns.length
    · rw[List.getElem?_append_left hi] at hx
      exact b i x hx
    · rw[List.getElem?_append_right (by omega)] at hx
      by_cases he:i=ns.length
      · subst he
        rw[Nat.sub_self] at hx;simp at hx
        subst hx;exact a2
      · rw[List.getElem?_eq_none (by simp;omega)] at hx;cases hx
structure Below (ns:List NodeM) (fs:List FuncM):Prop where
 ok:TreeOk ns fs
 lines:LinesOk ns
 asc:∀(i:Nat) (nd:NodeM),ns[i]?=some nd→nd.l.Pairwise (· < ·)
 par:∀x,parN ns x+bodyN fs x=if x<ns.length then 1 else 0
theorem parse_below {src:List UInt8}{ns:List NodeM}{fs:List FuncM} (h:parseM src=some (.good ns fs)):Below ns fs:=by
 have h1:=parse_ok h;have h2:=parse_par h;unfold parseM at h;cases hl:lexM src with
 | bad p e=>rw[hl] at h;simp at h
 | good ts=>
  rw[hl] at h;have ht:=lexM_toks hl;simp only[parseT,Option.map_eq_some_iff] at h;obtain⟨q,hq,h⟩:=h;split at h
  · cases h
  · rename_i h0
    have h0:q.2.e=0:=by simpa using h0
    split at h
    · cases h
    · injection h with e1 e2
      subst e1;subst e2;have hs:PSOk ts ⟨0,[],0,0,0⟩:=⟨ht.pos,by decide,fun _=>by decide,by decide,by decide⟩;have hp:=fns_pst _ _ _ _ hq h0 Pst.nil;exact⟨h1,fns_ln (mono_of hl) ht _ _ _ _ hq hs h0 (fun i nd hi=>by simp at hi),hp.asc.2,h2⟩
end Pw
namespace Pw
inductive Seg (ns:List NodeM):Nat→List Nat→Nat→Prop where
 | nil (a:Nat):Seg ns a [] a
 | cons (a x:Nat) (l:List Nat) (b:Nat) (nd:NodeM) (hx:ns[x]?=some nd) (h:Seg ns a nd.l x) (h2:Seg ns (x+1) l b):Seg ns a (x :: l) b
section
variable {ns:List NodeM}{a b c:Nat}{l m:List Nat}
theorem Seg.le (h:Seg ns a l b):a≤b:=by
 induction h with
 | nil=>exact Nat.le_refl _
 | cons a x l b nd hx h h2 ih1 ih2=>omega
theorem Seg.ext (h:Seg ns a l b) (u:List NodeM):Seg (ns++u) a l b:=by
 induction h with
 | nil a=>exact .nil a
 | cons a x l b nd hx h h2 ih1 ih2=>exact .cons a x l b nd (by rw[List.getElem?_append_left (List.getElem?_eq_some_iff.1 hx).1];exact hx) ih1 ih2
theorem Seg.split:∀{l m:List Nat}{a b:Nat},Seg ns a (l++m) b→∃c,Seg ns a l c∧Seg ns c m b
 | [],m,a,b,h=>⟨a,.nil a,h⟩
 | x :: l,m,a,b,h=>by
  cases h with
  | cons _ _ _ _ nd hx h h2=>
   obtain⟨c,h3,h4⟩:=Seg.split h2;exact⟨c,.cons a x l c nd hx h h3,h4⟩
theorem Seg.app (h:Seg ns a l c) (h2:Seg ns c m b):Seg ns a (l++m) b:=by
 induction h with
 | nil a=>exact h2
 | cons a x l b nd hx h _ ih1 ih2=>exact .cons _ _ _ _ nd hx h (ih2 h2)
theorem Pst.seg {ns:List NodeM}{st:List Nat} (h:Pst ns st):Seg ns 0 st ns.length:=by
 induction h with
 | nil=>exact .nil 0
 | put ns st nd h ih=>
  obtain⟨c,h1,h2⟩:=ih.split;rw[List.length_append,List.length_singleton];exact (h1.ext _).app (.cons _ _ _ _ nd (by simp) (h2.ext _) (.nil _))
end
section
variable {src:List UInt8}{ts:List Tok}
theorem typed_pos {s:PS} (h:(pTyped ts s).e=0):1≤pType ts s:=by
 unfold pTyped at h;split at h
 · exact (e_fail (by decide) h).elim
 · omega
theorem params_pos:∀(n:Nat) (acc:List (List UInt8×Nat)) (s:PS) (p:List (List UInt8×Nat)×PS),runParams ts n acc s=some p→p.2.e=0→(∀q∈acc,1≤q.2)→∀q∈p.1,1≤q.2
 | 0,_,_,_,h,_,_=>by simp[runParams] at h
 | n+1,acc,s,p,h,he,ha=>by
  have h2:(pTyped ts (pNamed ts s)).e=0→∀q∈acc++[(pName ts s,pType ts (pNamed ts s))],1≤q.2:=fun h0 q hq=>by
    rcases List.mem_append.1 hq with hq|hq
    · exact ha q hq
    · rw[List.mem_singleton.1 hq];exact typed_pos h0
  simp only[runParams] at h;split at h
  · exact params_pos n _ _ _ h he (h2 ((params_ext _ _ _ _ h).e0 he))
  · simp only[Option.some.injEq] at h
    subst h;exact h2 he
theorem func_pos {n:Nat}{s:PS}{fs:FuncM×PS} (h:runFunc src ts n s=some fs) (he:fs.2.e=0):∀p∈fs.1.params,1≤p.2:=by
 simp only[runFunc,Option.bind_eq_some_iff,Option.map_eq_some_iff] at h;obtain⟨p,hp,b,hb,rfl⟩:=h;have h5:=(run_ext _ _ _ _ hb).e0 he;have h4:(pMust ts [41] p.2).e=0:=by
   split at h5
   · exact h5
   · exact ((Ext.refl (pMust ts [41] p.2)).typed (ts:=ts)).e0 h5
 have h3:p.2.e=0:=e_must (x:=[41]) (ts:=ts) h4;split at hp
 · exact params_pos _ _ _ _ hp h3 (fun q hq=>by cases hq)
 · simp only[Option.some.injEq] at hp
   subst hp;exact fun q hq=>by cases hq
theorem fns_pos:∀(n:Nat) (acc:List FuncM) (s:PS) (r:List FuncM×PS),runFns src ts n acc s=some r→r.2.e=0→(∀f∈acc,∀p∈f.params,1≤p.2)→∀f∈r.1,∀p∈f.params,1≤p.2
 | 0,_,_,_,h,_,_=>by simp[runFns] at h
 | n+1,acc,s,r,h,he,ha=>by
  simp only[runFns] at h;split at h
  · simp only[Option.some.injEq] at h;subst h;exact ha
  · split at h
    · simp only[Option.some.injEq] at h;subst h;exact ha
    · simp only[Option.bind_eq_some_iff] at h
      obtain⟨fs,hfs,h⟩:=h;refine fns_pos n _ _ _ h he (fun f hf=>?_);rcases List.mem_append.1 hf with hf|hf
      · exact ha f hf
      · rw[List.mem_singleton.1 hf];exact func_pos hfs ((fns_ext _ _ _ _ h).e0 he)
end
theorem asc_len:∀(l:List Nat) (a n:Nat),l.Pairwise (· < ·)→(∀x∈l,a≤x∧x<n)→l.length≤n - a
 | [],_,_,_,_=>by simp
 | x :: l,a,n,h,hb=>by
  obtain⟨h1,h2⟩:=List.pairwise_cons.1 h;have:=asc_len l (x+1) n h2 (fun y hy=>⟨h1 y hy,(hb y (List.mem_cons_of_mem _ hy)).2⟩);have:=hb x (List.mem_cons_self ..);rw[List.length_cons];omega
structure TreeIs (ns:List NodeM) (fs:List FuncM):Prop where
 below:Below ns fs
 seg:Seg ns 0 (fs.map (·.body)) ns.length
 pos:∀f∈fs,∀p∈f.params,1≤p.2
 rows:∀nd∈ns,nd.l.length≤300
theorem TreeIs.ok {ns:List NodeM}{fs:List FuncM} (h:TreeIs ns fs):TreeOk ns fs:=h.below.ok
theorem kids_lt {ns:List NodeM}{nd:NodeM} (h:NodeOk ns nd):∀a∈nd.l,a<ns.length:=by
 have kl:∀{ns:List NodeM} {cls:Nat→Bool} {x:Nat},Kid ns cls x→x<ns.length:=fun h=>by
  obtain⟨c,hc,_⟩:=h;exact (List.getElem?_eq_some_iff.1 hc).1
 cases h<;>intro x hx<;>simp only[List.mem_cons,List.not_mem_nil,or_false] at hx
 all_goals first
  | exact hx.elim
  | (subst hx;exact kl (by assumption))
  | (rcases hx with hx|hx<;>subst hx<;>exact kl (by assumption))
  | (rcases hx with hx|hx|hx<;>subst hx<;>exact kl (by assumption))
  | (rename_i h1;exact kl (h1 x hx))
theorem parse_is {src:List UInt8}{ns:List NodeM}{fs:List FuncM} (h:parseM src=some (.good ns fs)):TreeIs ns fs:=by
 have h1:=parse_below h;have hr:∀nd∈ns,nd.l.length≤300:=by
  intro nd hnd;obtain⟨i,hi,e⟩:=List.getElem_of_mem hnd;have hi2:ns[i]?=some nd:=by rw[List.getElem?_eq_getElem hi,e]
  have h2:=asc_len nd.l 0 300 (h1.asc i nd hi2) (fun x hx=>⟨Nat.zero_le _,by
    have:=kids_lt (h1.ok.nodes i nd hi2) x hx;rw[List.length_take] at this;have:=h1.ok.few;omega⟩)
  exact h2
 unfold parseM at h;cases hl:lexM src with
 | bad p e=>rw[hl] at h;simp at h
 | good ts=>
  rw[hl] at h;simp only[parseT,Option.map_eq_some_iff] at h;obtain⟨q,hq,h⟩:=h;split at h
  · cases h
  · rename_i h0
    have h0:q.2.e=0:=by simpa using h0
    split at h
    · cases h
    · injection h with e1 e2
      subst e1;subst e2;exact⟨h1,(fns_pst _ _ _ _ hq h0 Pst.nil).seg,fns_pos _ _ _ _ hq h0 (fun f hf=>by cases hf),hr⟩
end Pw
structure PQ where
 i:Nat
 deep:Nat
 e:Nat
 place:Nat
 m:Nat
 nv:Value
 xs:List Value
def qTok (ts:List Tok) (q:PQ):Tok:=ts.getD q.i tok0
def qCells (src:ByteArray) (tb n c:Nat) (q:PQ):Array Value:=#[.string src,.slice (some ⟨tb,q.i*3,none⟩) n c,.int .i64 q.deep,.int .i64 q.e,.int .i64 q.place,q.nv]
structure QMem (src:ByteArray) (tb tc:Nat) (ts:List Tok) (g:Nat) (w:World) (q:PQ):Prop where
 blk:Blk w g 82 (qCells src tb (ts.length - q.i) (tc - q.i) q)
 own:Own w 50 5 q.nv q.m q.xs
 toks:∃b0,Toks b0 w (.slice (some ⟨tb,0,none⟩) ts.length tc) ts
 room:q.i<ts.length
 newer:∀k,Go.Proofs.YtlbjicjinnnboaaGreatDoor.blk q.nv=some k→g<k
section
variable {src:ByteArray}{tb tc:Nat}{ts:List Tok}{g:Nat}{w w':World}{q:PQ}
theorem QMem.no (h:QMem src tb tc ts g w q) (f:Fr nob w w'):QMem src tb tc ts g w' q:=by
 obtain⟨b0,ht⟩:=h.toks;exact⟨h.blk.fr f (fun x=>x),h.own.fr f (fun _ _ x=>x),⟨b0,ht.no f⟩,h.room,h.newer⟩
theorem QMem.cap (h:QMem src tb tc ts g w q):ts.length≤tc∧tc≤maxLen:=by
 obtain⟨b0,ht⟩:=h.toks;obtain⟨A,c,e,h1,h2⟩:=ht.own.cap;injection e with _ _ e3;subst e3;exact⟨h1,h2⟩
theorem QMem.tok (h:QMem src tb tc ts g w q):ts[q.i]?=some (qTok ts q)∧tb<w.heap.size ∧
  w.cell? ⟨tb,q.i*3,none⟩=some (.int .i64 (qTok ts q).kind)∧w.cell? ⟨tb,q.i*3+1,none⟩=some (.string (bs (qTok ts q).text))∧w.cell? ⟨tb,q.i*3+2,none⟩=some (.int .i64 (qTok ts q).place):=by
 obtain⟨b0,ht⟩:=h.toks;have hi:ts[q.i]?=some (qTok ts q):=by
  unfold qTok;rw[List.getD,List.getElem?_eq_getElem h.room];rfl
 obtain⟨g2,hg,_,hlt,hat⟩:=ht.some (by have:=h.room;omega);injection hg with hg;injection hg with hg;subst hg;exact⟨hi,hlt,hat q.i _ hi⟩
theorem QMem.cells (h:QMem src tb tc ts g w q):g<w.heap.size∧w.cell? ⟨g,0,none⟩=some (.string src)∧w.cell? ⟨g,1,none⟩=some (.slice (some ⟨tb,q.i*3,none⟩) (ts.length - q.i) (tc - q.i))∧w.cell? ⟨g,2,none⟩=some (.int .i64 q.deep)∧w.cell? ⟨g,3,none⟩=some (.int .i64 q.e)∧w.cell? ⟨g,4,none⟩=some (.int .i64 q.place)∧w.cell? ⟨g,5,none⟩=some q.nv:=by
 have hb:=h.blk;refine⟨hb.lt,?_,?_,?_,?_,?_,?_⟩
 · rw[hb.cell 0];rfl
 · rw[hb.cell 1];rfl
 · rw[hb.cell 2];rfl
 · rw[hb.cell 3];rfl
 · rw[hb.cell 4];rfl
 · rw[hb.cell 5];rfl
end
def tokA (t:Tok):Value:= .agg #[.int .i64 t.kind,.string (bs t.text),.int .i64 t.place]
theorem tf0 (k:Int) (t:ByteArray) (p:Int) (w:World):(Instr.field 115 (.agg #[.int .i64 k,.string t,.int .i64 p]) 0).run Tryz.prog w = .ok (.int .i64 k) w:=by kernel_rfl
theorem tf1 (k:Int) (t:ByteArray) (p:Int) (w:World):(Instr.field 115 (.agg #[.int .i64 k,.string t,.int .i64 p]) 1).run Tryz.prog w = .ok (.string t) w:=by kernel_rfl
theorem tf2 (k:Int) (t:ByteArray) (p:Int) (w:World):(Instr.field 115 (.agg #[.int .i64 k,.string t,.int .i64 p]) 2).run Tryz.prog w = .ok (.int .i64 p) w:=by kernel_rfl
set_option maxHeartbeats 1600000 in
set_option maxRecDepth 100000 in
theorem qnext_any {src:ByteArray}{tb tc:Nat}{ts:List Tok}{g:Nat}{w:World}{q:PQ} (h:QMem src tb tc ts g w q):
  Calls Tryz.prog 76 #[.pointer (some ⟨g,0,none⟩)] w fun e w'=>e = .returned (tokA (qTok ts q))∧Fr nob w w':=by
 obtain⟨hg,_,c1,_,_,_,_⟩:=h.cells;obtain⟨_,htb,x0,x1,x2⟩:=h.tok;have hroom:=h.room;have hcap:=h.cap;obtain⟨n,hn⟩:∃n,ts.length - q.i=n+1:=⟨ts.length - q.i - 1,by omega⟩;obtain⟨c,hc⟩:∃c,tc - q.i=c+1:=⟨tc - q.i - 1,by omega⟩;rw[hn,hc] at c1;unfold tokA;clear h hn hc hroom hcap;generalize (qTok ts q).kind=tk at *;generalize (qTok ts q).text=tt at *;generalize (qTok ts q).place=tp at *;generalize bs tt=bt at *;have n1:¬g=w.heap.size:=by omega
 have n2:¬tb=w.heap.size:=by omega
 go_enter Tryz.func76,Tryz.ntmps76;go_wp2_with fail
 refine bodyPost_ret (v:= .agg #[.int .i64 tk,.string bt,.int .i64 tp]) (by simp[results,Tryz.results76,go_sem];try rfl) rfl ⟨rfl,(Fr.refl nob w).alloc _⟩
section
variable {src:ByteArray}{tb tc:Nat}{ts:List Tok}{g:Nat}{w w':World}{q q':PQ}
theorem QMem.set (h:QMem src tb tc ts g w q) (j:Nat) (u:Value) (hn:q'.nv=q.nv) (hm:q'.m=q.m) (hx:q'.xs=q.xs) (hr:q'.i<ts.length)
   (hc:(qCells src tb (ts.length - q.i) (tc - q.i) q).setIfInBounds j u=qCells src tb (ts.length - q'.i) (tc - q'.i) q'):QMem src tb tc ts g (w.setCell ⟨g,j,none⟩ u) q':=by
 obtain⟨b0,ht⟩:=h.toks;have f:Fr (oneb g) w (w.setCell ⟨g,j,none⟩ u):=(Fr.refl _ w).setCell _ _ (fun _=>rfl);have hb:=h.blk;refine⟨?_,?_,⟨b0,ht.own.fr f (fun b hb' hm=>ht.own.blk_ne hb (by decide) (by rw[hb',show b=g from hm])),ht.new⟩,hr,by rw[hn];exact h.newer⟩
 · have:=hb.setCell j u
   rwa [hc] at this
 · rw[hn,hm,hx]
   exact h.own.fr f (fun b hb' hm=>h.own.blk_ne hb (by decide) (by rw[hb',show b=g from hm]))
theorem QMem.setD (h:QMem src tb tc ts g w q) (x:Nat):QMem src tb tc ts g (w.setCell ⟨g,2,none⟩ (.int .i64 x)) { q with deep:=x }:=h.set 2 _ rfl rfl rfl h.room rfl
theorem QMem.setE (h:QMem src tb tc ts g w q) (x:Nat):QMem src tb tc ts g (w.setCell ⟨g,3,none⟩ (.int .i64 x)) { q with e:=x }:=h.set 3 _ rfl rfl rfl h.room rfl
theorem QMem.setP (h:QMem src tb tc ts g w q) (x:Nat):QMem src tb tc ts g (w.setCell ⟨g,4,none⟩ (.int .i64 x)) { q with place:=x }:=h.set 4 _ rfl rfl rfl h.room rfl
theorem QMem.setI (h:QMem src tb tc ts g w q){n c:Nat} (hn:ts.length - q.i=n+1) (hc:tc - q.i=c+1) (h1:0<n):QMem src tb tc ts g (w.setCell ⟨g,1,none⟩ (.slice (some ⟨tb,(q.i+1)*3,none⟩) n c)) { q with i:=q.i+1 }:=by
 have hn2:ts.length - (q.i+1)=n:=by omega
 have hc2:tc - (q.i+1)=c:=by omega
 refine h.set 1 _ rfl rfl rfl (by show q.i+1<ts.length;omega) ?_
 show _=qCells src tb (ts.length - (q.i+1)) (tc - (q.i+1)) { q with i:=q.i+1 }
 rw[hn2,hc2];rfl
end
def qKind (ts:List Tok) (k:Nat) (q:PQ):Bool:=decide (q.e=0) && decide ((qTok ts q).kind=k)
def qFail (ts:List Tok) (k:Nat) (q:PQ):PQ:=if q.e=0 then { q with e:=k,place:=(qTok ts q).place } else q
def qTake (ts:List Tok) (q:PQ):PQ:=if 1<ts.length - q.i then { q with i:=q.i+1 } else q
set_option maxHeartbeats 1600000 in
set_option maxRecDepth 100000 in
theorem qkind_any {src:ByteArray}{tb tc:Nat}{ts:List Tok}{g:Nat}{w:World}{q:PQ} (h:QMem src tb tc ts g w q) (k:Nat):
   Calls Tryz.prog 50 #[.pointer (some ⟨g,0,none⟩),.int .i64 k] w fun e w'=>e = .returned (.bool (qKind ts k q))∧Fr nob w w':=by
 obtain⟨hg,_,_,_,c3,_,_⟩:=h.cells;have HN:=hid (qnext_any h);unfold qKind;unfold tokA at HN;clear h;generalize (qTok ts q).kind=tk at *;by_cases he:q.e=0
 · have heb:((q.e:Int)==0)=true:=by rw[he];rfl
   rw[decide_eq_true he,Bool.true_and];clear he;have hk:((tk:Int)==(k:Int))=decide (tk=k):=by
    by_cases h2:tk=k
    · rw[decide_eq_true h2,h2];simp
    · rw[decide_eq_false h2];exact beq_eq_false_iff_ne.2 (by omega)
   have HK:=hid hk;clear hk;go_enter Tryz.func50,Tryz.ntmps50;go_wp2_with fail
   refine HN.out.mono ?_;rintro e w2 ⟨rfl,hf⟩;have F:=hid hf;have ff:=tf0;clear hf;go_wp2_with fail
   go_ret;exact⟨by rw[←HK.out];simp,F.out⟩
 · have heb:((q.e:Int)==0)=false:=beq_eq_false_iff_ne.2 (by omega)
   rw[decide_eq_false he,Bool.false_and];clear he;go_enter Tryz.func50,Tryz.ntmps50;go_wp2_with fail
   go_ret;exact⟨rfl,Fr.refl _ _⟩
set_option maxHeartbeats 1600000 in
set_option maxRecDepth 100000 in
theorem qfail_any {src:ByteArray}{tb tc:Nat}{ts:List Tok}{g:Nat}{w:World}{q:PQ} (h:QMem src tb tc ts g w q) (k:Nat):
   Calls Tryz.prog 119 #[.pointer (some ⟨g,0,none⟩),.int .i64 k] w fun e w'=>e = .returned (.tuple #[])∧QMem src tb tc ts g w' (qFail ts k q)∧FrR g w w':=by
 obtain⟨hg,_,_,_,c3,_,_⟩:=h.cells;have HN:=hid (qnext_any h);have H:=hid h;unfold tokA at HN;by_cases he:q.e=0
 · have heb:((q.e:Int)==0)=true:=by rw[he];rfl
   have e1:qFail ts k q={ q with e:=k,place:=(qTok ts q).place }:=by unfold qFail;rw[if_pos he]
   rw[e1];clear e1 he h;generalize (qTok ts q).place=tp at *;go_enter Tryz.func119,Tryz.ntmps119;go_wp2_with fail
   refine HN.out.mono ?_;rintro e w2 ⟨rfl,hf⟩;have F:=hid hf;have H2:=hid (H.out.no hf);clear hf c3 hg;obtain⟨hg,_,_,_,c3,c4,_⟩:=H2.out.cells;have ff:=tf2;have f3:=H2.out.blk.frozen 3;have f4:=H2.out.blk.frozen 4;go_wp2_with fail
   refine bodyPost_end (results_none rfl _ _ _) rfl ⟨rfl,(H2.out.setE k).setP tp,?_⟩;exact ((F.out.ofNo.setCell ⟨g,3,none⟩ _ (M:=oneb g) (fun _=>rfl)).setCell ⟨g,4,none⟩ _ (fun _=>rfl)).mono (fun k _ e=> .inl e)
 · have heb:((q.e:Int)==0)=false:=beq_eq_false_iff_ne.2 (by omega)
   have e1:qFail ts k q=q:=by unfold qFail;rw[if_neg he]
   rw[e1];clear e1 he h;go_enter Tryz.func119,Tryz.ntmps119;go_wp2_with fail
   refine bodyPost_end (results_none rfl _ _ _) rfl ⟨rfl,H.out,Fr.refl _ _⟩
def qIs (ts:List Tok) (zs:List ByteArray) (q:PQ):Bool:=decide (q.e=0) && (decide ((qTok ts q).kind=5) || decide ((qTok ts q).kind=4)) && isIn zs (qTok ts q).text
theorem among_at {w:World}{b:Nat}{ss:List ByteArray} (hb:Blk w b 9 (ss.map Value.string).toArray) (n:Nat) (hn:ss.length=n) (hm:n≤9223372036854775807) (x:ByteArray):
   Calls Tryz.prog 122 #[.slice (some ⟨b,0,none⟩) n n,.string x] w fun e w'=>
    e = .returned (.bool (isIn ss x.data.toList))∧w'=w:=by
 refine (Tryz.slices_Contains_string _ _ _ _ ss x _ (by omega) hm (fun j hj=>?_)).mono ?_
 · rw[Nat.zero_add,hb.cell j]
   simp[List.getD,hj]
 · rintro e w' ⟨rfl,rfl⟩
   rw[List.take_of_length_le (by omega),mem_bytes];exact⟨rfl,rfl⟩
set_option maxHeartbeats 1600000 in
set_option maxRecDepth 100000 in
theorem qis_any {src:ByteArray}{tb tc:Nat}{ts:List Tok}{g:Nat}{w:World}{q:PQ} (h:QMem src tb tc ts g w q) (zs:List ByteArray) (b n:Nat) (hb:Blk w b 9 (zs.map Value.string).toArray) (hn:zs.length=n) (hn1:n≤1000):
   Calls Tryz.prog 83 #[.pointer (some ⟨g,0,none⟩),.slice (some ⟨b,0,none⟩) n n] w fun e w'=>e = .returned (.bool (qIs ts zs q))∧Fr nob w w':=by
 have HN:=hid (qnext_any h);have H:=hid h;have HB:=hid hb;have HNN:=hid hn;unfold qIs;unfold tokA at HN;have hbt:(bs (qTok ts q).text).data.toList=(qTok ts q).text:=rfl;have HBT:=hid hbt;clear h hb hn hbt;generalize (qTok ts q).kind=tk at *;generalize (qTok ts q).text=tt at *;generalize (qTok ts q).place=tp at *;generalize bs tt=bt at *;obtain⟨z,hz⟩:∃z,isIn zs tt=z:=⟨_,rfl⟩;rw[hz];have HZ:=hid hz;clear hz;by_cases he:q.e=0
 · have heb:((q.e:Int)==0)=true:=by rw[he];rfl
   rw[decide_eq_true he,Bool.true_and];clear he;by_cases h5:tk=5
   · have h5b:((tk:Int)==5)=true:=by rw[h5];rfl
     rw[decide_eq_true h5,Bool.true_or,Bool.true_and];clear h5;go_enter Tryz.func83,Tryz.ntmps83;go_wp2_with fail
     refine HN.out.mono ?_;rintro e w2 ⟨rfl,hf⟩;have H2:=hid (H.out.no hf);have B2:=hid (HB.out.fr hf (fun x=>x));have F2:=hid (hf.alloc (.cells #[.int .i64 tk,.string bt,.int .i64 tp] 115));have HC:=hid (among_at (w:=w2.alloc (.cells #[.int .i64 tk,.string bt,.int .i64 tp] 115)) (B2.out.alloc _) n HNN.out (by omega) bt);rw[HBT.out,HZ.out] at HC;clear hf;have c3':(w2.alloc (.cells #[.int .i64 tk,.string bt,.int .i64 tp] 115)).cell? ⟨g,3,none⟩=some (.int .i64 q.e):=((H2.out.no ((Fr.refl nob w2).alloc _)).cells).2.2.2.2.1;go_wp2_with fail
     refine HC.out.mono ?_;rintro e w3 ⟨rfl,rfl⟩;go_wp2_with fail
     go_ret;exact⟨by simp,F2.out⟩
   · have h5b:((tk:Int)==5)=false:=beq_eq_false_iff_ne.2 (by omega)
     rw[decide_eq_false h5,Bool.false_or];clear h5;by_cases h4:tk=4
     · have h4b:((tk:Int)==4)=true:=by rw[h4];rfl
       rw[decide_eq_true h4,Bool.true_and];clear h4;go_enter Tryz.func83,Tryz.ntmps83;go_wp2_with fail
       refine HN.out.mono ?_;rintro e w2 ⟨rfl,hf⟩;have H2:=hid (H.out.no hf);have B2:=hid (HB.out.fr hf (fun x=>x));have F2:=hid (hf.alloc (.cells #[.int .i64 tk,.string bt,.int .i64 tp] 115));have HC:=hid (among_at (w:=w2.alloc (.cells #[.int .i64 tk,.string bt,.int .i64 tp] 115)) (B2.out.alloc _) n HNN.out (by omega) bt);rw[HBT.out,HZ.out] at HC;clear hf;have c3':(w2.alloc (.cells #[.int .i64 tk,.string bt,.int .i64 tp] 115)).cell? ⟨g,3,none⟩=some (.int .i64 q.e):=((H2.out.no ((Fr.refl nob w2).alloc _)).cells).2.2.2.2.1;go_wp2_with fail
       refine HC.out.mono ?_;rintro e w3 ⟨rfl,rfl⟩;go_wp2_with fail
       go_ret;exact⟨by simp,F2.out⟩
     · have h4b:((tk:Int)==4)=false:=beq_eq_false_iff_ne.2 (by omega)
       rw[decide_eq_false h4,Bool.false_and];clear h4;go_enter Tryz.func83,Tryz.ntmps83;go_wp2_with fail
       refine HN.out.mono ?_;rintro e w2 ⟨rfl,hf⟩;have H2:=hid (H.out.no hf);have B2:=hid (HB.out.fr hf (fun x=>x));have F2:=hid (hf.alloc (.cells #[.int .i64 tk,.string bt,.int .i64 tp] 115));have HC:=hid (among_at (w:=w2.alloc (.cells #[.int .i64 tk,.string bt,.int .i64 tp] 115)) (B2.out.alloc _) n HNN.out (by omega) bt);rw[HBT.out,HZ.out] at HC;clear hf;have c3':(w2.alloc (.cells #[.int .i64 tk,.string bt,.int .i64 tp] 115)).cell? ⟨g,3,none⟩=some (.int .i64 q.e):=((H2.out.no ((Fr.refl nob w2).alloc _)).cells).2.2.2.2.1;go_wp2_with fail
       go_ret;exact⟨rfl,F2.out⟩
 · have heb:((q.e:Int)==0)=false:=beq_eq_false_iff_ne.2 (by omega)
   rw[decide_eq_false he,Bool.false_and,Bool.false_and];clear he;go_enter Tryz.func83,Tryz.ntmps83;go_wp2_with fail
   refine HN.out.mono ?_;rintro e w2 ⟨rfl,hf⟩;have H2:=hid (H.out.no hf);have B2:=hid (HB.out.fr hf (fun x=>x));have F2:=hid (hf.alloc (.cells #[.int .i64 tk,.string bt,.int .i64 tp] 115));have HC:=hid (among_at (w:=w2.alloc (.cells #[.int .i64 tk,.string bt,.int .i64 tp] 115)) (B2.out.alloc _) n HNN.out (by omega) bt);rw[HBT.out,HZ.out] at HC;clear hf;have c3':(w2.alloc (.cells #[.int .i64 tk,.string bt,.int .i64 tp] 115)).cell? ⟨g,3,none⟩=some (.int .i64 q.e):=((H2.out.no ((Fr.refl nob w2).alloc _)).cells).2.2.2.2.1;go_wp2_with fail
   go_ret;exact⟨rfl,F2.out⟩
theorem QMem.fr {src:ByteArray}{tb tc:Nat}{ts:List Tok}{g:Nat}{w w':World}{q:PQ}{M:Nat→Prop} (h:QMem src tb tc ts g w q) (f:Fr M w w') (hg:¬M g) (ht:¬M tb) (hn:∀k,Go.Proofs.YtlbjicjinnnboaaGreatDoor.blk q.nv=some k→¬M k):QMem src tb tc ts g w' q:=by
 obtain⟨b0,h0⟩:=h.toks;refine⟨h.blk.fr f hg,h.own.fr f hn,⟨b0,h0.own.fr f (fun k hk hm=>?_),h0.new⟩,h.room,h.newer⟩;have hk2:k=tb:=by simp[Go.Proofs.YtlbjicjinnnboaaGreatDoor.blk] at hk;omega
 subst hk2;exact ht hm
theorem tok_set {w:World}{r:Nat}{cs:Array Value} (h:Blk w r 115 cs) (hs:cs.size=3) (a b c:Value):Blk (((w.setCell ⟨r,0,none⟩ a).setCell ⟨r,1,none⟩ b).setCell ⟨r,2,none⟩ c) r 115 #[a,b,c]:=by
 have h3:=((h.setCell 0 a).setCell 1 b).setCell 2 c;obtain⟨l⟩:=cs
 match l,hs with
 | [x,y,z],_=>simpa using h3
set_option maxHeartbeats 1600000 in
set_option maxRecDepth 100000 in
theorem qtake_any {src:ByteArray}{tb tc:Nat}{ts:List Tok}{g:Nat}{w:World}{q:PQ} (h:QMem src tb tc ts g w q):
   Calls Tryz.prog 120 #[.pointer (some ⟨g,0,none⟩)] w fun e w'=>e = .returned (tokA (qTok ts q))∧QMem src tb tc ts g w' (qTake ts q)∧FrR g w w':=by
 have A0:=hid (show Fr nob w (w.alloc (.cells #[.int .i64 0,.string ⟨#[]⟩,.int .i64 0] 115)) from (Fr.refl nob w).alloc _);have H:=hid (h.no A0.out);have HN:=hid (qnext_any H.out);have hroom:=h.room;have hcap:=h.cap;obtain⟨n,hn⟩:∃n,ts.length - q.i=n+1:=⟨ts.length - q.i - 1,by omega⟩;obtain⟨c,hc⟩:∃c,tc - q.i=c+1:=⟨tc - q.i - 1,by omega⟩;unfold qTake;rw[hn];unfold tokA at HN ⊢;generalize (qTok ts q).kind=tk at *;generalize (qTok ts q).text=tt at *;generalize (qTok ts q).place=tp at *;generalize bs tt=bt at *;have GL:=hid (show g<w.heap.size from h.blk.lt);have TL:=hid (show ¬tb=w.heap.size by have:=h.tok.2.1;omega);clear h;have R0:=hid (show w.heap.size<(w.alloc (.cells #[.int .i64 0,.string ⟨#[]⟩,.int .i64 0] 115)).heap.size from by simp);have R1:=hid (Blk.new w 115 #[.int .i64 0,.string ⟨#[]⟩,.int .i64 0]);by_cases h1:1<n+1
 · rw[if_pos h1]
   have hnc:n≤c:=by omega
   obtain⟨n',rfl⟩:∃n',n=n'+1:=⟨n - 1,by omega⟩;obtain⟨c',rfl⟩:∃c',c=c'+1:=⟨c - 1,by omega⟩;have h1i:(1:Int)<((n':Int)+1+1):=by omega
   go_enter Tryz.func120,Tryz.ntmps120;go_wp2_with fail
   refine HN.out.mono ?_;rintro e w2 ⟨rfl,hf⟩;have H2:=hid (H.out.no hf);have F2:=hid (A0.out.tr hf);have RB:=hid ((R1.out.fr hf (fun x=>x)).alloc (.cells #[.int .i64 tk,.string bt,.int .i64 tp] 115));have TB:=hid (Blk.new w2 115 #[.int .i64 tk,.string bt,.int .i64 tp]);have H3:=hid (H2.out.no ((Fr.refl nob w2).alloc (.cells #[.int .i64 tk,.string bt,.int .i64 tp] 115)));have F3:=hid (F2.out.alloc (.cells #[.int .i64 tk,.string bt,.int .i64 tp] 115));have ng:¬w.heap.size=g:=fun e=>by have:=H.out.blk.lt;exact absurd e (by have:=GL.out;omega)
   have ng2:¬g=w.heap.size:=fun e=>ng e.symm
   have nt:¬w2.heap.size=g:=by have:=H2.out.blk.lt;omega
   have nt2:¬g=w2.heap.size:=fun e=>nt e.symm
   have nr:¬w.heap.size=w2.heap.size:=by have:=hf.size;have:=R0.out;omega
   have nr2:¬w2.heap.size=w.heap.size:=fun e=>nr e.symm
   clear hf;obtain⟨_,_,c1,_,_,_,_⟩:=H3.out.cells;rw[hn,hc] at c1;have f1:=H3.out.blk.frozen 1;have x0:(w2.alloc (.cells #[.int .i64 tk,.string bt,.int .i64 tp] 115)).cell? ⟨w.heap.size,0,none⟩=some (.int .i64 0):=by rw[RB.out.cell 0];rfl
   have x1:(w2.alloc (.cells #[.int .i64 tk,.string bt,.int .i64 tp] 115)).cell? ⟨w.heap.size,1,none⟩=some (.string ⟨#[]⟩):=by rw[RB.out.cell 1];rfl
   have x2:(w2.alloc (.cells #[.int .i64 tk,.string bt,.int .i64 tp] 115)).cell? ⟨w.heap.size,2,none⟩=some (.int .i64 0):=by rw[RB.out.cell 2];rfl
   have z0:=RB.out.frozen 0;have z1:=RB.out.frozen 1;have z2:=RB.out.frozen 2;have y0:(w2.alloc (.cells #[.int .i64 tk,.string bt,.int .i64 tp] 115)).cell? ⟨w2.heap.size,0,none⟩=some (.int .i64 tk):=by rw[TB.out.cell 0];rfl
   have y1:(w2.alloc (.cells #[.int .i64 tk,.string bt,.int .i64 tp] 115)).cell? ⟨w2.heap.size,1,none⟩=some (.string bt):=by rw[TB.out.cell 1];rfl
   have y2:(w2.alloc (.cells #[.int .i64 tk,.string bt,.int .i64 tp] 115)).cell? ⟨w2.heap.size,2,none⟩=some (.int .i64 tp):=by rw[TB.out.cell 2];rfl
   go_wp2_with fail
   have HI:=hid (H3.out.setI hn hc (by omega));rw[show (q.i+1)*3=q.i*3+3 by omega] at HI;have RI:=hid (show Blk ((w2.alloc (.cells #[.int .i64 tk,.string bt,.int .i64 tp] 115)).setCell ⟨g,1,none⟩ (.slice (some ⟨tb,q.i*3+3,none⟩) (n'+1) (c'+1))) w.heap.size 115 #[.int .i64 0,.string ⟨#[]⟩,.int .i64 0] from RB.out.far (p:=⟨g,1,none⟩) ng _);have FI:=hid (show FrR g w ((w2.alloc (.cells #[.int .i64 tk,.string bt,.int .i64 tp] 115)).setCell ⟨g,1,none⟩ (.slice (some ⟨tb,q.i*3+3,none⟩) (n'+1) (c'+1))) from F3.out.ofNo.setCell ⟨g,1,none⟩ _ (fun _=> .inl rfl));have RF:=hid (tok_set RI.out rfl (.int .i64 tk) (.string bt) (.int .i64 tp));have HF:=hid (HI.out.fr (M:=oneb w.heap.size) ((((Fr.refl (oneb w.heap.size) _).setCell ⟨w.heap.size,0,none⟩ (.int .i64 tk) (fun _=>rfl)).setCell ⟨w.heap.size,1,none⟩ (.string bt) (fun _=>rfl)).setCell ⟨w.heap.size,2,none⟩ (.int .i64 tp) (fun _=>rfl)) (fun e=>ng2 e) (fun e=>TL.out e) (fun k hk hm=>by
    have hk2:k=w.heap.size:=hm;subst hk2;exact HI.out.own.blk_ne RI.out (by decide) hk))
   have FF:=hid (show FrR g w _ from ((FI.out.setCell ⟨w.heap.size,0,none⟩ (.int .i64 tk) (fun hl=>absurd hl (by show ¬w.heap.size<w.heap.size;omega))).setCell ⟨w.heap.size,1,none⟩ (.string bt) (fun hl=>absurd hl (by show ¬w.heap.size<w.heap.size;omega))).setCell ⟨w.heap.size,2,none⟩ (.int .i64 tp) (fun hl=>absurd hl (by show ¬w.heap.size<w.heap.size;omega)));clear x0 x1 x2 y0 y1 y2 z0 z1 z2 c1 f1;generalize ((World.setCell (World.setCell _ _ _) _ _).setCell _ _).setCell _ _=wf at *;have x0:wf.cell? ⟨w.heap.size,0,none⟩=some (.int .i64 tk):=by rw[RF.out.cell 0];rfl
   have x1:wf.cell? ⟨w.heap.size,1,none⟩=some (.string bt):=by rw[RF.out.cell 1];rfl
   have x2:wf.cell? ⟨w.heap.size,2,none⟩=some (.int .i64 tp):=by rw[RF.out.cell 2];rfl
   refine bodyPost_ret (v:= .agg #[.int .i64 tk,.string bt,.int .i64 tp]) (by simp[results,Tryz.results120,go_sem,x0,x1,x2];try rfl) rfl ⟨rfl,HF.out,FF.out⟩
 · rw[if_neg h1]
   have hn0:n=0:=by omega
   subst hn0;go_enter Tryz.func120,Tryz.ntmps120;go_wp2_with fail
   refine HN.out.mono ?_;rintro e w2 ⟨rfl,hf⟩;have H2:=hid (H.out.no hf);have F2:=hid (A0.out.tr hf);have RB:=hid ((R1.out.fr hf (fun x=>x)).alloc (.cells #[.int .i64 tk,.string bt,.int .i64 tp] 115));have TB:=hid (Blk.new w2 115 #[.int .i64 tk,.string bt,.int .i64 tp]);have H3:=hid (H2.out.no ((Fr.refl nob w2).alloc (.cells #[.int .i64 tk,.string bt,.int .i64 tp] 115)));have F3:=hid (F2.out.alloc (.cells #[.int .i64 tk,.string bt,.int .i64 tp] 115));have ng:¬w.heap.size=g:=fun e=>by have:=H.out.blk.lt;exact absurd e (by have:=GL.out;omega)
   have ng2:¬g=w.heap.size:=fun e=>ng e.symm
   have nt:¬w2.heap.size=g:=by have:=H2.out.blk.lt;omega
   have nt2:¬g=w2.heap.size:=fun e=>nt e.symm
   have nr:¬w.heap.size=w2.heap.size:=by have:=hf.size;have:=R0.out;omega
   have nr2:¬w2.heap.size=w.heap.size:=fun e=>nr e.symm
   clear hf;obtain⟨_,_,c1,_,_,_,_⟩:=H3.out.cells;rw[hn,hc] at c1;have f1:=H3.out.blk.frozen 1;have x0:(w2.alloc (.cells #[.int .i64 tk,.string bt,.int .i64 tp] 115)).cell? ⟨w.heap.size,0,none⟩=some (.int .i64 0):=by rw[RB.out.cell 0];rfl
   have x1:(w2.alloc (.cells #[.int .i64 tk,.string bt,.int .i64 tp] 115)).cell? ⟨w.heap.size,1,none⟩=some (.string ⟨#[]⟩):=by rw[RB.out.cell 1];rfl
   have x2:(w2.alloc (.cells #[.int .i64 tk,.string bt,.int .i64 tp] 115)).cell? ⟨w.heap.size,2,none⟩=some (.int .i64 0):=by rw[RB.out.cell 2];rfl
   have z0:=RB.out.frozen 0;have z1:=RB.out.frozen 1;have z2:=RB.out.frozen 2;have y0:(w2.alloc (.cells #[.int .i64 tk,.string bt,.int .i64 tp] 115)).cell? ⟨w2.heap.size,0,none⟩=some (.int .i64 tk):=by rw[TB.out.cell 0];rfl
   have y1:(w2.alloc (.cells #[.int .i64 tk,.string bt,.int .i64 tp] 115)).cell? ⟨w2.heap.size,1,none⟩=some (.string bt):=by rw[TB.out.cell 1];rfl
   have y2:(w2.alloc (.cells #[.int .i64 tk,.string bt,.int .i64 tp] 115)).cell? ⟨w2.heap.size,2,none⟩=some (.int .i64 tp):=by rw[TB.out.cell 2];rfl
   go_wp2_with fail
   have FI:=hid (show FrR g w _ from F3.out.ofNo);have RF:=hid (tok_set RB.out rfl (.int .i64 tk) (.string bt) (.int .i64 tp));have HF:=hid (H3.out.fr (M:=oneb w.heap.size) ((((Fr.refl (oneb w.heap.size) _).setCell ⟨w.heap.size,0,none⟩ (.int .i64 tk) (fun _=>rfl)).setCell ⟨w.heap.size,1,none⟩ (.string bt) (fun _=>rfl)).setCell ⟨w.heap.size,2,none⟩ (.int .i64 tp) (fun _=>rfl)) (fun e=>ng2 e) (fun e=>TL.out e) (fun k hk hm=>by
    have hk2:k=w.heap.size:=hm;subst hk2;exact H3.out.own.blk_ne RB.out (by decide) hk))
   have FF:=hid (show FrR g w _ from ((FI.out.setCell ⟨w.heap.size,0,none⟩ (.int .i64 tk) (fun hl=>absurd hl (by show ¬w.heap.size<w.heap.size;omega))).setCell ⟨w.heap.size,1,none⟩ (.string bt) (fun hl=>absurd hl (by show ¬w.heap.size<w.heap.size;omega))).setCell ⟨w.heap.size,2,none⟩ (.int .i64 tp) (fun hl=>absurd hl (by show ¬w.heap.size<w.heap.size;omega)));clear x0 x1 x2 y0 y1 y2 z0 z1 z2 c1 f1;generalize ((World.setCell (w2.alloc _) _ _).setCell _ _).setCell _ _=wf at *;have x0:wf.cell? ⟨w.heap.size,0,none⟩=some (.int .i64 tk):=by rw[RF.out.cell 0];rfl
   have x1:wf.cell? ⟨w.heap.size,1,none⟩=some (.string bt):=by rw[RF.out.cell 1];rfl
   have x2:wf.cell? ⟨w.heap.size,2,none⟩=some (.int .i64 tp):=by rw[RF.out.cell 2];rfl
   refine bodyPost_ret (v:= .agg #[.int .i64 tk,.string bt,.int .i64 tp]) (by simp[results,Tryz.results120,go_sem,x0,x1,x2];try rfl) rfl ⟨rfl,HF.out,FF.out⟩
def qHas (ts:List Tok) (X:ByteArray) (q:PQ):PQ:=if qIs ts [X] q=true then qTake ts q else q
def qMust (ts:List Tok) (X:ByteArray) (q:PQ):PQ:=if qIs ts [X] q=true then qTake ts q else qFail ts 20 q
def qName (ts:List Tok) (q:PQ):List UInt8:=if qKind ts 3 q=true then (qTok ts q).text else []
def qNamed (ts:List Tok) (q:PQ):PQ:=if qKind ts 3 q=true then qTake ts q else qFail ts 20 q
set_option maxHeartbeats 1600000 in
set_option maxRecDepth 100000 in
theorem qhas_any {src:ByteArray}{tb tc:Nat}{ts:List Tok}{g:Nat}{w:World}{q:PQ} (h:QMem src tb tc ts g w q) (X:ByteArray):
  Calls Tryz.prog 118 #[.pointer (some ⟨g,0,none⟩),.string X] w fun e w'=>e = .returned (.bool (qIs ts [X] q))∧QMem src tb tc ts g w' (qHas ts X q)∧FrR g w w':=by
 obtain⟨w1,hw1⟩:∃w1,w1=w.alloc (.cells #[.string X] 9):=⟨_,rfl⟩;have F1:=hid (show Fr nob w w1 from by rw[hw1];exact (Fr.refl nob w).alloc _);have H1:=hid (h.no F1.out);have B1:=hid (show Blk w1 w.heap.size 9 ([X].map Value.string).toArray from by rw[hw1];exact Blk.new w _ _);have HI:=hid (qis_any H1.out [X] w.heap.size 1 B1.out rfl (by decide));unfold qHas;obtain⟨b,hb⟩:∃b,qIs ts [X] q=b:=⟨_,rfl⟩;rw[hb] at HI ⊢;clear hb h;cases b with
 | false=>
  rw[if_neg (by decide)];go_enter Tryz.func118,Tryz.ntmps118;go_wp2_with fail
  rw[←hw1];clear hw1;refine HI.out.mono ?_;rintro e w2 ⟨rfl,hf⟩;have H2:=hid (H1.out.no hf);have F2:=hid (F1.out.tr hf);clear hf;go_wp2_with fail
  go_ret;exact⟨rfl,H2.out,FrR.no F2.out⟩
 | true=>
  rw[if_pos rfl];go_enter Tryz.func118,Tryz.ntmps118;go_wp2_with fail
  rw[←hw1];clear hw1;refine HI.out.mono ?_;rintro e w2 ⟨rfl,hf⟩;have H2:=hid (H1.out.no hf);have F2:=hid (F1.out.tr hf);clear hf;go_wp2_with fail
  refine (qtake_any H2.out).mono ?_;rintro e w3 ⟨rfl,h3,hf⟩;have H3:=hid h3;have F3:=hid (FrR.trans (FrR.no F2.out) hf);clear h3 hf;go_wp2_with fail
  go_ret;exact⟨rfl,H3.out,F3.out⟩
set_option maxHeartbeats 1600000 in
set_option maxRecDepth 100000 in
theorem qmust_any {src:ByteArray}{tb tc:Nat}{ts:List Tok}{g:Nat}{w:World}{q:PQ} (h:QMem src tb tc ts g w q) (X:ByteArray):
  Calls Tryz.prog 78 #[.pointer (some ⟨g,0,none⟩),.string X] w fun e w'=>e = .returned (.tuple #[])∧QMem src tb tc ts g w' (qMust ts X q)∧FrR g w w':=by
 have HI:=hid (qhas_any h X);unfold qMust;unfold qHas at HI;obtain⟨b,hb⟩:∃b,qIs ts [X] q=b:=⟨_,rfl⟩;rw[hb] at HI ⊢;clear hb h;cases b with
 | false=>
  rw[if_neg (by decide)] at HI ⊢;go_enter Tryz.func78,Tryz.ntmps78;go_wp2_with fail
  refine HI.out.mono ?_;rintro e w2 ⟨rfl,h2,hf⟩;have H2:=hid h2;have F2:=hid hf;clear h2 hf;go_wp2_with fail
  refine (qfail_any H2.out 20).mono ?_;rintro e w3 ⟨rfl,h3,hf⟩;have H3:=hid h3;have F3:=hid (FrR.trans F2.out hf);clear h3 hf;go_wp2_with fail
  refine bodyPost_end (results_none rfl _ _ _) rfl ⟨rfl,H3.out,F3.out⟩
 | true=>
  rw[if_pos rfl] at HI ⊢;go_enter Tryz.func78,Tryz.ntmps78;go_wp2_with fail
  refine HI.out.mono ?_;rintro e w2 ⟨rfl,h2,hf⟩;have H2:=hid h2;have F2:=hid hf;clear h2 hf;go_wp2_with fail
  refine bodyPost_end (results_none rfl _ _ _) rfl ⟨rfl,H2.out,F2.out⟩
set_option maxHeartbeats 1600000 in
set_option maxRecDepth 100000 in
theorem qname_any {src:ByteArray}{tb tc:Nat}{ts:List Tok}{g:Nat}{w:World}{q:PQ} (h:QMem src tb tc ts g w q):
  Calls Tryz.prog 79 #[.pointer (some ⟨g,0,none⟩)] w fun e w'=>e = .returned (.string (bs (qName ts q)))∧QMem src tb tc ts g w' (qNamed ts q)∧FrR g w w':=by
 have HK:=hid (qkind_any h 3);have H:=hid h;unfold qNamed qName;obtain⟨b,hb⟩:∃b,qKind ts 3 q=b:=⟨_,rfl⟩;rw[hb] at HK ⊢;clear hb h;cases b with
 | false=>
  rw[if_neg (by decide),if_neg (by decide)];go_enter Tryz.func79,Tryz.ntmps79;go_wp2_with fail
  refine HK.out.mono ?_;rintro e w2 ⟨rfl,hf⟩;have H2:=hid (H.out.no hf);have F2:=hid hf;clear hf;go_wp2_with fail
  refine (qfail_any H2.out 20).mono ?_;rintro e w3 ⟨rfl,h3,hf⟩;have H3:=hid h3;have F3:=hid (FrR.trans (FrR.no F2.out) hf);clear h3 hf;go_wp2_with fail
  go_ret;exact⟨rfl,H3.out,F3.out⟩
 | true=>
  rw[if_pos rfl,if_pos rfl];go_enter Tryz.func79,Tryz.ntmps79;go_wp2_with fail
  refine HK.out.mono ?_;rintro e w2 ⟨rfl,hf⟩;have H2:=hid (H.out.no hf);have F2:=hid hf;clear hf;go_wp2_with fail
  refine (qtake_any H2.out).mono ?_;rintro e w3 ⟨rfl,h3,hf⟩;have H3:=hid h3;have F3:=hid (FrR.trans (FrR.no F2.out) hf);have ff:=tf1;clear h3 hf;unfold tokA;go_wp2_with fail
  go_ret;exact⟨rfl,H3.out,F3.out⟩
def qPut (k line n:Nat) (name:List UInt8) (lv nv:Value) (q:PQ):PQ:={ q with m:=q.m+1,nv:=nv,xs:=q.xs++[.int .i64 k,.int .i64 line,.int .i64 n,.string (bs name),lv] }
set_option maxHeartbeats 1600000 in
set_option maxRecDepth 100000 in
theorem qput_any {src:ByteArray}{tb tc:Nat}{ts:List Tok}{g:Nat}{w:World}{q:PQ} (h:QMem src tb tc ts g w q) (k line:Nat) (name:List UInt8) (A1:Option Addr) (M c1:Nat) (hn:q.m≤1000000):
   Calls Tryz.prog 126 #[.pointer (some ⟨g,0,none⟩),.int .i64 k,.int .i64 line,.string (bs name),.slice A1 M c1] w fun e w'=>
     e = .returned (.int .i64 q.m)∧(∃nv,QMem src tb tc ts g w' (qPut k line 0 name (.slice A1 M c1) nv q))∧FrR g w w':=by
 have hb:=h.blk;have ho:=h.own;obtain⟨b0,ht⟩:=h.toks;have NW:=hid h.newer;obtain⟨hg,_,_,_,_,_,c5⟩:=h.cells;have f5:=hb.frozen 5;obtain⟨A,c,hnv,hc1,hc2⟩:=ho.cap;rw[hnv] at ho c5 NW;have H:=hid h;have HO:=hid ho;have HB:=hid hb;have HT:=hid ht;have HNV:=hid hnv;have hn2:(q.m:Int)≤1000000:=by omega
 obtain⟨i,deep,er,place,N,nv,xs⟩:=q;dsimp only at *;obtain⟨B,hB⟩:∃B,bs name=B:=⟨_,rfl⟩;have NM:=hid hB;rw[hB];clear h ho hb ht hB hnv;go_enter Tryz.func126,Tryz.ntmps126;go_wp2_with (at_builtin;refine wpList_append (v:= .slice A N c) (m:=1) (news:=[.int .i64 k,.int .i64 line,.int .i64 0,.string B,.slice A1 M c1]) rfl _ _ rfl TyNode rfl rfl (HO.out.alloc _) (Rd.ofBlk (n:=1) (cs:=[.int .i64 k,.int .i64 line,.int .i64 0,.string B,.slice A1 M c1]) (Blk.new _ _ _) rfl (by decide)) (by simp[Value.oneCell']) (by omega) (by unfold maxLen;omega) ?_;intro A3 c3' w3 ho3 hf3 hv3;have O3:=hid ho3;have F3:=hid hf3;have V3:=hid hv3;have B3:=hid ((HB.out.alloc _).fr hf3 (fun hm=>HO.out.blk_ne HB.out (by decide) hm));have g5:=B3.out.frozen 5;have d5:w3.cell? ⟨g,5,none⟩=some nv:=(by rw[B3.out.cell 5];rfl);clear ho3 hf3 hv3)
 go_ret;have hFR:FrR g w w3:=by
   refine Fr.trans (M1:=nob) ((Fr.refl nob w).alloc _) F3.out (fun _ _ x=>x.elim) (fun k2 hk2 hm=>?_);obtain⟨cur,hcur⟩:=HO.out.ty (k:=k2) hm;exact .inr ⟨NW.out k2 hm,cur,_,hcur⟩
 have hset:Fr (oneb g) w3 (w3.setCell ⟨g,5,none⟩ (.slice A3 (N+1) c3')):=(Fr.refl (oneb g) w3).setCell _ _ (fun _=>rfl);have hFR2:FrR g w (w3.setCell ⟨g,5,none⟩ (.slice A3 (N+1) c3')):=FrR.trans hFR (hset.mono (fun k _ e=> .inl e));refine⟨by first|rfl|simp,⟨.slice A3 (N+1) c3',⟨?_,?_,⟨b0,?_⟩,H.out.room,fun k2 hk2=>?_⟩⟩,hFR2⟩
 · exact B3.out.setCell 5 _
 · have:=O3.out
   rw[←NM.out] at this;exact this.fr hset (fun b hb' hm=>O3.out.blk_ne B3.out (by decide) (by rw[hb',show b=g from hm]))
 · exact⟨HT.out.own.frR HB.out (by decide) (by decide) hFR2,HT.out.new⟩
 · have hk3:blk (.slice A3 (N+1) c3')=some k2:=hk2
   rcases V3.out with e|e
   · exact NW.out k2 (by rw[←e];exact hk3)
   · rw[e] at hk3
     injection hk3 with hk3;have:=HB.out.lt;simp at hk3;omega
end Go.Proofs.YtlbjicjinnnboaaGreatDoor
/- The lexer's small functions: which byte is what, and how many bytes from the beginning on are so. -/
namespace Go.Proofs.YtlbjicjinnnboaaGreatDoor.Lx
open Go.RowKit
theorem digit_any (c:Int) (w:World):Calls Tryz.prog 111 #[.int .u8 c] w fun e w'=>e = .returned (.bool (digitI c))∧w=w':=by
 unfold digitI;go_enter Tryz.func111,Tryz.ntmps111;go_wp2
 all_goals (go_ret;simp_all;try omega)
theorem letter_any (c:Int) (w:World):Calls Tryz.prog 113 #[.int .u8 c] w fun e w'=>e = .returned (.bool (letterI c))∧w=w':=by
 unfold letterI;go_enter Tryz.func113,Tryz.ntmps113;go_wp2
 all_goals (go_ret;simp_all;try omega)
theorem within_any (c:Int) (w:World):Calls Tryz.prog 153 #[.int .u8 c] w fun e w'=>e = .returned (.bool (withinI c))∧w=w':=by
 unfold withinI;go_enter Tryz.func153,Tryz.ntmps153;go_wp2_with (first|(go_at_call 113;refine (letter_any _ _).mono ?_;rintro e w1 ⟨rfl,rfl⟩)|(go_at_call 111;refine (digit_any _ _).mono ?_;rintro e w1 ⟨rfl,rfl⟩))
 all_goals (go_ret;simp_all;try omega)
theorem line_any (c:Int) (w:World):Calls Tryz.prog 74 #[.int .u8 c] w fun e w'=>e = .returned (.bool (lineI c))∧w=w':=by
 unfold lineI;go_enter Tryz.func74,Tryz.ntmps74;go_wp2
 all_goals (go_ret;simp_all;try omega)
theorem plain_any (c:Int) (w:World):Calls Tryz.prog 155 #[.int .u8 c] w fun e w'=>e = .returned (.bool (plainI c))∧w=w':=by
 unfold plainI;go_enter Tryz.func155,Tryz.ntmps155;go_wp2
 all_goals (go_ret;simp_all;try omega)
theorem run_digit (s:ByteArray) (hs:s.size≤9223372036854775807) (w:World):
  Calls Tryz.prog 73 #[.string s,.func (.func 111) #[] #[]] w fun e w'=>e = .returned (.int .i64 (runN digitI s.data.toList))∧w=w':=by
 have hl:s.data.toList.length=s.size:=by simp
 have HL:=hid hl;clear hl;go_enter Tryz.func73,Tryz.ntmps73;go_wp2
 go_loopw [5,8] (fun _ i w'=>∃k:Nat,k≤s.size∧i = .int .i64 k∧w=w'∧Hid (runN digitI s.data.toList=k+runN digitI (s.data.toList.drop k))) (fun _ i _=>s.size - (intOf i).toNat)
 case atStart=>exact⟨0,Nat.zero_le _,rfl,rfl,hid (by simp)⟩
 case round=>
  obtain⟨k,hk,rfl,rfl,H⟩:=hrel;by_cases hlt:k<s.size
  · have hst:=hid (runN_step digitI s.data.toList k (by rw[HL.out];exact hlt))
    rw[byteAt_eq s k hlt] at hst;by_cases hb:digitI ((s[k]'hlt).toNat:Int)=true
    · have HB:=hid hb
      go_wp2_with (go_at_call 111;refine (digit_any _ _).mono ?_;rintro e w1 ⟨rfl,rfl⟩)
      go_roundw
      case rel=>exact⟨k+1,by omega,by go_num,trivial,hid (by rw[H.out,hst.out,if_pos HB.out];omega)⟩
      case measure=>simp[intOf];omega
    · have hb':digitI ((s[k]'hlt).toNat:Int)=false:=by simpa using hb
      have HB:=hid hb;clear hb;go_wp2_with (go_at_call 111;refine (digit_any _ _).mono ?_;rintro e w1 ⟨rfl,rfl⟩)
      go_ret;exact⟨by rw[H.out,hst.out,if_neg HB.out];simp,rfl⟩
  · have h0:runN digitI (s.data.toList.drop k)=0:=by rw[List.drop_of_length_le (by rw[HL.out];omega)];rfl
    have H0:=hid h0;clear h0;go_wp2
    go_ret
    exact ⟨by rw [H.out, H0.out]; have : k = s.size := by omega
              subst this; rfl, rfl⟩
theorem run_within (s:ByteArray) (hs:s.size≤9223372036854775807) (w:World):
  Calls Tryz.prog 73 #[.string s,.func (.func 153) #[] #[]] w fun e w'=>e = .returned (.int .i64 (runN withinI s.data.toList))∧w=w':=by
 have hl:s.data.toList.length=s.size:=by simp
 have HL:=hid hl;clear hl;go_enter Tryz.func73,Tryz.ntmps73;go_wp2
 go_loopw [5,8] (fun _ i w'=>∃k:Nat,k≤s.size∧i = .int .i64 k∧w=w'∧Hid (runN withinI s.data.toList=k+runN withinI (s.data.toList.drop k))) (fun _ i _=>s.size - (intOf i).toNat)
 case atStart=>exact⟨0,Nat.zero_le _,rfl,rfl,hid (by simp)⟩
 case round=>
  obtain⟨k,hk,rfl,rfl,H⟩:=hrel;by_cases hlt:k<s.size
  · have hst:=hid (runN_step withinI s.data.toList k (by rw[HL.out];exact hlt))
    rw[byteAt_eq s k hlt] at hst;by_cases hb:withinI ((s[k]'hlt).toNat:Int)=true
    · have HB:=hid hb
      go_wp2_with (go_at_call 153;refine (within_any _ _).mono ?_;rintro e w1 ⟨rfl,rfl⟩)
      go_roundw
      case rel=>exact⟨k+1,by omega,by go_num,trivial,hid (by rw[H.out,hst.out,if_pos HB.out];omega)⟩
      case measure=>simp[intOf];omega
    · have hb':withinI ((s[k]'hlt).toNat:Int)=false:=by simpa using hb
      have HB:=hid hb;clear hb;go_wp2_with (go_at_call 153;refine (within_any _ _).mono ?_;rintro e w1 ⟨rfl,rfl⟩)
      go_ret;exact⟨by rw[H.out,hst.out,if_neg HB.out];simp,rfl⟩
  · have h0:runN withinI (s.data.toList.drop k)=0:=by rw[List.drop_of_length_le (by rw[HL.out];omega)];rfl
    have H0:=hid h0;clear h0;go_wp2
    go_ret
    exact ⟨by rw [H.out, H0.out]; have : k = s.size := by omega
              subst this; rfl, rfl⟩
theorem run_line (s:ByteArray) (hs:s.size≤9223372036854775807) (w:World):
  Calls Tryz.prog 73 #[.string s,.func (.func 74) #[] #[]] w fun e w'=>e = .returned (.int .i64 (runN lineI s.data.toList))∧w=w':=by
 have hl:s.data.toList.length=s.size:=by simp
 have HL:=hid hl;clear hl;go_enter Tryz.func73,Tryz.ntmps73;go_wp2
 go_loopw [5,8] (fun _ i w'=>∃k:Nat,k≤s.size∧i = .int .i64 k∧w=w'∧Hid (runN lineI s.data.toList=k+runN lineI (s.data.toList.drop k))) (fun _ i _=>s.size - (intOf i).toNat)
 case atStart=>exact⟨0,Nat.zero_le _,rfl,rfl,hid (by simp)⟩
 case round=>
  obtain⟨k,hk,rfl,rfl,H⟩:=hrel;by_cases hlt:k<s.size
  · have hst:=hid (runN_step lineI s.data.toList k (by rw[HL.out];exact hlt))
    rw[byteAt_eq s k hlt] at hst;by_cases hb:lineI ((s[k]'hlt).toNat:Int)=true
    · have HB:=hid hb
      go_wp2_with (go_at_call 74;refine (line_any _ _).mono ?_;rintro e w1 ⟨rfl,rfl⟩)
      go_roundw
      case rel=>exact⟨k+1,by omega,by go_num,trivial,hid (by rw[H.out,hst.out,if_pos HB.out];omega)⟩
      case measure=>simp[intOf];omega
    · have hb':lineI ((s[k]'hlt).toNat:Int)=false:=by simpa using hb
      have HB:=hid hb;clear hb;go_wp2_with (go_at_call 74;refine (line_any _ _).mono ?_;rintro e w1 ⟨rfl,rfl⟩)
      go_ret;exact⟨by rw[H.out,hst.out,if_neg HB.out];simp,rfl⟩
  · have h0:runN lineI (s.data.toList.drop k)=0:=by rw[List.drop_of_length_le (by rw[HL.out];omega)];rfl
    have H0:=hid h0;clear h0;go_wp2
    go_ret
    exact ⟨by rw [H.out, H0.out]; have : k = s.size := by omega
              subst this; rfl, rfl⟩
theorem run_plain (s:ByteArray) (hs:s.size≤9223372036854775807) (w:World):
  Calls Tryz.prog 73 #[.string s,.func (.func 155) #[] #[]] w fun e w'=>e = .returned (.int .i64 (runN plainI s.data.toList))∧w=w':=by
 have hl:s.data.toList.length=s.size:=by simp
 have HL:=hid hl;clear hl;go_enter Tryz.func73,Tryz.ntmps73;go_wp2
 go_loopw [5,8] (fun _ i w'=>∃k:Nat,k≤s.size∧i = .int .i64 k∧w=w'∧Hid (runN plainI s.data.toList=k+runN plainI (s.data.toList.drop k))) (fun _ i _=>s.size - (intOf i).toNat)
 case atStart=>exact⟨0,Nat.zero_le _,rfl,rfl,hid (by simp)⟩
 case round=>
  obtain⟨k,hk,rfl,rfl,H⟩:=hrel;by_cases hlt:k<s.size
  · have hst:=hid (runN_step plainI s.data.toList k (by rw[HL.out];exact hlt))
    rw[byteAt_eq s k hlt] at hst;by_cases hb:plainI ((s[k]'hlt).toNat:Int)=true
    · have HB:=hid hb
      go_wp2_with (go_at_call 155;refine (plain_any _ _).mono ?_;rintro e w1 ⟨rfl,rfl⟩)
      go_roundw
      case rel=>exact⟨k+1,by omega,by go_num,trivial,hid (by rw[H.out,hst.out,if_pos HB.out];omega)⟩
      case measure=>simp[intOf];omega
    · have hb':plainI ((s[k]'hlt).toNat:Int)=false:=by simpa using hb
      have HB:=hid hb;clear hb;go_wp2_with (go_at_call 155;refine (plain_any _ _).mono ?_;rintro e w1 ⟨rfl,rfl⟩)
      go_ret;exact⟨by rw[H.out,hst.out,if_neg HB.out];simp,rfl⟩
  · have h0:runN plainI (s.data.toList.drop k)=0:=by rw[List.drop_of_length_le (by rw[HL.out];omega)];rfl
    have H0:=hid h0;clear h0;go_wp2
    go_ret
    exact ⟨by rw [H.out, H0.out]; have : k = s.size := by omega
              subst this; rfl, rfl⟩
end Go.Proofs.YtlbjicjinnnboaaGreatDoor.Lx
/- The lexer's numbers. -/
namespace Go.Proofs.YtlbjicjinnnboaaGreatDoor.Lx
open Go.RowKit
theorem parse_digits (M:Nat) (hM:M<18446744073709551616) (l:List UInt8) (h:allDigits l) (a:Nat) (ha:a≤M):
  Lib.parseUintM M a l=if M<digitsVal a l then .range else .ok (digitsVal a l):=by
 induction l generalizing a with
 | nil=>
  have:¬M<digitsVal a []:=by show ¬M<a;omega
  rw[Lib.parseUintM,if_neg this];rfl
 | cons c l ih=>
  have hc:=h c (by simp);have hg:=digitsVal_ge (a*10+(c.toNat - 48)) l;rw[Lib.parseUintM,if_pos hc,digitsVal_cons];by_cases h1:1844674407370955162≤a
  · rw[if_pos h1,if_pos (by omega)]
  · rw[if_neg h1]
    by_cases h2:M<a*10+(c.toNat - 48)
    · rw[if_pos h2,if_pos (by omega)]
    · rw[if_neg h2]
      exact ih (fun x hx=>h x (by simp[hx])) _ (by omega)
theorem parseInt_digits (l:List UInt8) (h:allDigits l) (hne:l≠[]):
  Lib.parseIntB 64 l=if digitsVal 0 l≤9223372036854775807 then .ok (digitsVal 0 l:Int) else .range:=by
 cases l with
 | nil=>exact absurd rfl hne
 | cons c r=>
  have hc:=h c (by simp);have e:Lib.parseUintB 64 (c :: r)=if 18446744073709551615<digitsVal 0 (c :: r) then .range else .ok (digitsVal 0 (c :: r)):=by
    unfold Lib.parseUintB;rw[if_neg (by simp)];generalize hM:2 ^ 64 - 1=M;have hM2:M=18446744073709551615:=by omega
    rw[parse_digits M (by omega) (c :: r) h 0 (by omega),hM2]
  unfold Lib.parseIntB;simp only;rw[if_neg (by omega),e];by_cases h1:18446744073709551615<digitsVal 0 (c :: r)
  · rw[if_pos h1,if_neg (by omega)]
  · rw[if_neg h1]
    simp only;by_cases h2:digitsVal 0 (c :: r)≤9223372036854775807
    · rw[if_pos h2,if_neg (by omega),if_neg (by omega),if_neg (by omega)]
    · rw[if_neg h2,if_pos (by omega)]
structure Vars (w:World):Prop where
 most:∃m,w.cell? ⟨0,0,none⟩=some (.int .i64 m)
 rng : ∃ tp p, w.var? Tryz.prog "strconv.ErrRange" = some #[.iface tp p]
end Go.Proofs.YtlbjicjinnnboaaGreatDoor.Lx
/- The lexer's number: the walk. -/
namespace Go.Proofs.YtlbjicjinnnboaaGreatDoor.Lx
open Go.RowKit
theorem var_fr {P:Program}{w w':World}{x:String}{cs:Array Value} (h:w.var? P x=some cs) (f:Fr nob w w'):w'.var? P x=some cs:=by
 unfold World.var? at *;cases hg:P.globalNamed x with
 | none=>rw[hg] at h;simp at h
 | some g=>
  rw[hg] at h;simp only[Option.bind_some] at h ⊢;have hlt:g<w.heap.size:=by
   by_cases hlt:g<w.heap.size
   · exact hlt
   · rw[Array.getElem?_eq_none (by omega)] at h;simp at h
  rw[f.block g hlt (fun x=>x)];exact h
theorem Vars.fr {w w':World} (h:Vars w) (f:Fr nob w w'):Vars w':=by
 obtain⟨⟨m,hm⟩,tp,p,hr⟩:=h;exact⟨⟨m,(f.cell (World.block_lt_of_cell? _ _ hm) (fun x=>x)).trans hm⟩,tp,p,var_fr hr f⟩
theorem Fr.no_below {w w':World} (h:Below w.heap.size w w'):Fr nob w w':=⟨h.os,h.tape,h.output,h.size,fun k hk _=>h.block k hk⟩
theorem Fr.bytes {w w':World} (e:TypeId) (h:w'=w∨∃t,w'=Lib.bytesWorld w e t):Fr nob w w':=by
 rcases h with rfl|⟨t,rfl⟩
 · exact Fr.refl _ _
 · exact Fr.no_below (Lib.bytesWorld_below _ _ _)
set_option maxHeartbeats 800000 in
theorem number_any (s:ByteArray) (w:World) (hs:s.size≤281474976710656) (hd:0<runN digitI s.data.toList) (hv:Vars w):
   Calls Tryz.prog 112 #[.string s] w fun e w'=>e = .returned (oneV s (numberM s.data.toList))∧Fr nob w w':=by
 have hn:=runN_le digitI s.data.toList;have hn2:runN digitI s.data.toList≤s.size:=by simpa using hn
 have hex:(s.extract 0 (runN digitI s.data.toList)).data.toList=s.data.toList.take (runN digitI s.data.toList):=ext_take _ _;have hdg:=run_digits s.data.toList;have hlen:(s.data.toList.take (runN digitI s.data.toList)).length=runN digitI s.data.toList:=by rw[List.length_take];omega
 have hsz:(s.extract 0 (runN digitI s.data.toList)).size=runN digitI s.data.toList:=by simp;omega
 have hr:=hid (run_digit s (by omega) );unfold numberM;have hp:=parseInt_digits _ hdg (by intro h;rw[h] at hlen;simp at hlen;omega);rw[←hex] at hp;generalize runN digitI s.data.toList=n at *;obtain⟨tp,p,hrv⟩:=hv.rng;have RV:=hid hrv;have hok:numOk (s.data.toList.take n)=(decide (n≤19) && decide (digitsVal 0 (s.extract 0 n).data.toList≤9223372036854775807)):=by unfold numOk;rw[hlen,hex]
 rw[hok];clear hok hdg hlen hex hn hrv hv;have HP:=hid hp;have HSZ:=hid hsz;clear hp hsz;by_cases h1:digitsVal 0 (s.extract 0 n).data.toList≤9223372036854775807
 · have hp:=HP.out
   rw[if_pos h1] at hp;have HQ:=hid hp;clear hp;rw[decide_eq_true h1];clear h1 HP;by_cases h2:n≤19
   · rw[decide_eq_true h2]
     go_enter Tryz.func112,Tryz.ntmps112;go_wp2_with (first|(go_at_call 73;refine (hr.out _).mono ?_;rintro e w1 ⟨rfl,rfl⟩)|(go_at_call 152;go_must (refine (Tryz.strconv_ParseInt_10_at64_ok _ (by (have:=HSZ.out;omega)) _ HQ.out _).mono ?_;rintro e w2 ⟨rfl,hw⟩;have F2:=hid (Fr.bytes _ hw);(have B:=(Blk.new w 115 #[.int .i64 0,.string ⟨#[]⟩,.int .i64 0]).fr F2.out (fun x=>x));have c0:=B.cell 0;have c1:=B.cell 1;have c2:=B.cell 2;have f0:=B.frozen 0;have f1:=B.frozen 1;have f2:=B.frozen 2;clear B;clear hw)))
     refine bodyPost_ret (v:=oneV s (.ok 1 0 n n)) (by simp[results,Tryz.results112,go_sem,oneV,tokV,c0,c1,c2];try rfl) rfl ⟨by simp,Fr.box3 F2.out _ _ _⟩
   · rw[decide_eq_false h2]
     have h3:(19:Int)<(n:Int):=by omega
     clear h2;go_enter Tryz.func112,Tryz.ntmps112;go_wp2_with (first|(go_at_call 73;refine (hr.out _).mono ?_;rintro e w1 ⟨rfl,rfl⟩)|(go_at_call 152;go_must (refine (Tryz.strconv_ParseInt_10_at64_ok _ (by (have:=HSZ.out;omega)) _ HQ.out _).mono ?_;rintro e w2 ⟨rfl,hw⟩;have F2:=hid (Fr.bytes _ hw);(have B:=(Blk.new w 115 #[.int .i64 0,.string ⟨#[]⟩,.int .i64 0]).fr F2.out (fun x=>x));have c0:=B.cell 0;have c1:=B.cell 1;have c2:=B.cell 2;have f0:=B.frozen 0;have f1:=B.frozen 1;have f2:=B.frozen 2;clear B;clear hw)))
     refine bodyPost_ret (v:=oneV s (.err 12)) (by simp[results,Tryz.results112,go_sem,oneV,tokV,c0,c1,c2];try rfl) rfl ⟨by simp,Fr.box3 F2.out _ _ _⟩
 · have hp:=HP.out
   rw[if_neg h1] at hp;have HQ:=hid hp;clear hp;rw[decide_eq_false h1];clear h1 HP;rw[Bool.and_false];by_cases h2:n≤19
   · have h3:(n:Int)≤19:=by omega
     clear h2;go_enter Tryz.func112,Tryz.ntmps112;go_wp2_with (first|(go_at_call 73;refine (hr.out _).mono ?_;rintro e w1 ⟨rfl,rfl⟩)|(go_at_call 152;go_must (refine (Tryz.strconv_ParseInt_10_at64_range_var _ (by (have:=HSZ.out;omega)) HQ.out tp p _ (var_fr RV.out ((Fr.refl nob w).alloc _))).mono ?_;rintro e w2 ⟨N,rfl,_,_,hb⟩;have F2:=hid (Fr.no_below hb);(have B:=(Blk.new w 115 #[.int .i64 0,.string ⟨#[]⟩,.int .i64 0]).fr F2.out (fun x=>x));have c0:=B.cell 0;have c1:=B.cell 1;have c2:=B.cell 2;have f0:=B.frozen 0;have f1:=B.frozen 1;have f2:=B.frozen 2;clear B;clear hb)))
     refine bodyPost_ret (v:=oneV s (.err 12)) (by simp[results,Tryz.results112,go_sem,oneV,tokV,c0,c1,c2];try rfl) rfl ⟨by simp,Fr.box3 F2.out _ _ _⟩
   · have h3:(19:Int)<(n:Int):=by omega
     clear h2;go_enter Tryz.func112,Tryz.ntmps112;go_wp2_with (first|(go_at_call 73;refine (hr.out _).mono ?_;rintro e w1 ⟨rfl,rfl⟩)|(go_at_call 152;go_must (refine (Tryz.strconv_ParseInt_10_at64_range_var _ (by (have:=HSZ.out;omega)) HQ.out tp p _ (var_fr RV.out ((Fr.refl nob w).alloc _))).mono ?_;rintro e w2 ⟨N,rfl,_,_,hb⟩;have F2:=hid (Fr.no_below hb);(have B:=(Blk.new w 115 #[.int .i64 0,.string ⟨#[]⟩,.int .i64 0]).fr F2.out (fun x=>x));have c0:=B.cell 0;have c1:=B.cell 1;have c2:=B.cell 2;have f0:=B.frozen 0;have f1:=B.frozen 1;have f2:=B.frozen 2;clear B;clear hb)))
     refine bodyPost_ret (v:=oneV s (.err 12)) (by simp[results,Tryz.results112,go_sem,oneV,tokV,c0,c1,c2];try rfl) rfl ⟨by simp,Fr.box3 F2.out _ _ _⟩
end Go.Proofs.YtlbjicjinnnboaaGreatDoor.Lx
/- The lexer's words and names: the walks. -/
namespace Go.Proofs.YtlbjicjinnnboaaGreatDoor.Lx
open Go.RowKit
theorem cnt_words:Lib.countB ⟨(List.append [102,110,32,108,101,116,32,105,102,32,101,108,115,101,32,119,104,105,108,101,32,114,101,116,117,114,110,32,112,114,105,110,116,32,105,110,112,117,116,32] [110,101,119,32,108,101,110,32,116,114,117,101,32,102,97,108,115,101,32,105,110,116,32,98,111,111,108,32,116,101,120,116,32,108,105,115,116]).toArray⟩ ⟨#[32]⟩=15:=by kernel_rfl
theorem spl_words:Lib.splitB ⟨#[32]⟩ 0 15 ⟨(List.append [102,110,32,108,101,116,32,105,102,32,101,108,115,101,32,119,104,105,108,101,32,114,101,116,117,114,110,32,112,114,105,110,116,32,105,110,112,117,116,32] [110,101,119,32,108,101,110,32,116,114,117,101,32,102,97,108,115,101,32,105,110,116,32,98,111,111,108,32,116,101,120,116,32,108,105,115,116]).toArray⟩=wordsS:=by kernel_rfl
theorem split_words (w:World) (hv:Vars w):Calls Tryz.prog 156 #[.string ⟨(List.append [102,110,32,108,101,116,32,105,102,32,101,108,115,101,32,119,104,105,108,101,32,114,101,116,117,114,110,32,112,114,105,110,116,32,105,110,112,117,116,32] [110,101,119,32,108,101,110,32,116,114,117,101,32,102,97,108,115,101,32,105,110,116,32,98,111,111,108,32,116,101,120,116,32,108,105,115,116]).toArray⟩,.string ⟨#[32]⟩] w fun e w'=>
  e = .returned (.slice (some ⟨w.heap.size,0,none⟩) 16 16)∧w'=w.alloc (.cells (wordsS.map Value.string).toArray 9):=by
 obtain⟨m,hm⟩:=hv.most;refine (Tryz.strings_Split _ _ m w (by decide) hm (by decide)).mono ?_;rintro e w' ⟨rfl,rfl⟩;rw[cnt_words,spl_words];exact⟨rfl,rfl⟩
theorem cnt_twos:Lib.countB ⟨#[124,124,32,38,38,32,60,61,32,61,61,32,33,61]⟩ ⟨#[32]⟩=4:=by kernel_rfl
theorem spl_twos:Lib.splitB ⟨#[32]⟩ 0 4 ⟨#[124,124,32,38,38,32,60,61,32,61,61,32,33,61]⟩=twosS:=by kernel_rfl
theorem split_twos (w:World) (hv:Vars w):Calls Tryz.prog 156 #[.string ⟨#[124,124,32,38,38,32,60,61,32,61,61,32,33,61]⟩,.string ⟨#[32]⟩] w fun e w'=>
  e = .returned (.slice (some ⟨w.heap.size,0,none⟩) 5 5)∧w'=w.alloc (.cells (twosS.map Value.string).toArray 9):=by
 obtain⟨m,hm⟩:=hv.most;refine (Tryz.strings_Split _ _ m w (by decide) hm (by decide)).mono ?_;rintro e w' ⟨rfl,rfl⟩;rw[cnt_twos,spl_twos];exact⟨rfl,rfl⟩
theorem among (ss:List ByteArray) (n:Nat) (hn:ss.length=n) (hm:n≤9223372036854775807) (x:ByteArray) (w:World):
   Calls Tryz.prog 122 #[.slice (some ⟨w.heap.size,0,none⟩) n n,.string x] (w.alloc (.cells (ss.map Value.string).toArray 9)) fun e w'=>
    e = .returned (.bool (isIn ss x.data.toList))∧w'=w.alloc (.cells (ss.map Value.string).toArray 9):=by
 refine (Tryz.slices_Contains_string _ _ _ _ ss x _ (by omega) hm (fun j hj=>?_)).mono ?_
 · have:=(Blk.new w 9 (ss.map Value.string).toArray).cell j
   rw[Nat.zero_add,this];simp[List.getD,hj]
 · rintro e w' ⟨rfl,rfl⟩
   rw[List.take_of_length_le (by omega),mem_bytes];exact⟨rfl,rfl⟩
theorem word_any (s:ByteArray) (w:World) (hv:Vars w):Calls Tryz.prog 154 #[.string s] w fun e w'=>e = .returned (.bool (wordB s.data.toList))∧Fr nob w w':=by
 unfold wordB;have V:=hid hv;clear hv;go_enter Tryz.func154,Tryz.ntmps154;go_wp2_with (first|(go_at_call 156;go_must (refine (split_words _ V.out).mono ?_;rintro e w1 ⟨rfl,rfl⟩))|(go_at_call 122;go_must (refine (among wordsS 16 rfl (by decide) _ w).mono ?_;rintro e w1 ⟨rfl,rfl⟩)))
 go_ret;exact⟨rfl,(Fr.refl nob w).alloc _⟩
set_option maxHeartbeats 800000 in
theorem name_any (s:ByteArray) (w:World) (hs:s.size≤281474976710656) (hv:Vars w):
  Calls Tryz.prog 114 #[.string s] w fun e w'=>e = .returned (oneV s (nameM s.data.toList))∧Fr nob w w':=by
 have hn:=runN_le withinI s.data.toList;have hn2:runN withinI s.data.toList≤s.size:=by simpa using hn
 have hex:(s.extract 0 (runN withinI s.data.toList)).data.toList=s.data.toList.take (runN withinI s.data.toList):=ext_take _ _;have hr:=hid (run_within s (by omega));have HW:=hid (fun w' hv'=>word_any (s.extract 0 (runN withinI s.data.toList)) w' hv');rw[hex] at HW;unfold nameM;generalize runN withinI s.data.toList=n at *;generalize wordB (s.data.toList.take n)=b at *;have V:=hid hv;clear hv hex hn;cases b with
 | true=>
  go_enter Tryz.func114,Tryz.ntmps114;go_wp2_with (first|(go_at_call 73;refine (hr.out _).mono ?_;rintro e w1 ⟨rfl,rfl⟩)|(go_at_call 154;go_must (refine (HW.out _ (V.out.fr ((Fr.refl nob w).alloc _))).mono ?_;rintro e w2 ⟨rfl,hf⟩;have F2:=hid hf;(have B:=(Blk.new w 115 #[.int .i64 0,.string ⟨#[]⟩,.int .i64 0]).fr F2.out (fun x=>x));have c0:=B.cell 0;have c1:=B.cell 1;have c2:=B.cell 2;have f0:=B.frozen 0;have f1:=B.frozen 1;have f2:=B.frozen 2;clear B;clear hf)))
  refine bodyPost_ret (v:=oneV s (.ok 4 0 n n)) (by simp[results,Tryz.results114,go_sem,oneV,tokV,c0,c1,c2];try rfl) rfl ⟨by simp,Fr.box3 F2.out _ _ _⟩
 | false=>
  by_cases h8:8<n
  · have h3:(8:Int)<(n:Int):=by omega
    rw[if_neg (by decide),if_pos h8];clear h8;go_enter Tryz.func114,Tryz.ntmps114;go_wp2_with (first|(go_at_call 73;refine (hr.out _).mono ?_;rintro e w1 ⟨rfl,rfl⟩)|(go_at_call 154;go_must (refine (HW.out _ (V.out.fr ((Fr.refl nob w).alloc _))).mono ?_;rintro e w2 ⟨rfl,hf⟩;have F2:=hid hf;(have B:=(Blk.new w 115 #[.int .i64 0,.string ⟨#[]⟩,.int .i64 0]).fr F2.out (fun x=>x));have c0:=B.cell 0;have c1:=B.cell 1;have c2:=B.cell 2;have f0:=B.frozen 0;have f1:=B.frozen 1;have f2:=B.frozen 2;clear B;clear hf)))
    refine bodyPost_ret (v:=oneV s (.err 13)) (by simp[results,Tryz.results114,go_sem,oneV,tokV,c0,c1,c2];try rfl) rfl ⟨by simp,Fr.box3 F2.out _ _ _⟩
  · have h3:(n:Int)≤8:=by omega
    rw[if_neg (by decide),if_neg h8];clear h8;go_enter Tryz.func114,Tryz.ntmps114;go_wp2_with (first|(go_at_call 73;refine (hr.out _).mono ?_;rintro e w1 ⟨rfl,rfl⟩)|(go_at_call 154;go_must (refine (HW.out _ (V.out.fr ((Fr.refl nob w).alloc _))).mono ?_;rintro e w2 ⟨rfl,hf⟩;have F2:=hid hf;(have B:=(Blk.new w 115 #[.int .i64 0,.string ⟨#[]⟩,.int .i64 0]).fr F2.out (fun x=>x));have c0:=B.cell 0;have c1:=B.cell 1;have c2:=B.cell 2;have f0:=B.frozen 0;have f1:=B.frozen 1;have f2:=B.frozen 2;clear B;clear hf)))
    refine bodyPost_ret (v:=oneV s (.ok 3 0 n n)) (by simp[results,Tryz.results114,go_sem,oneV,tokV,c0,c1,c2];try rfl) rfl ⟨by simp,Fr.box3 F2.out _ _ _⟩
end Go.Proofs.YtlbjicjinnnboaaGreatDoor.Lx
/- The lexer's texts and signs: the walks. -/
namespace Go.Proofs.YtlbjicjinnnboaaGreatDoor.Lx
open Go.RowKit
set_option maxHeartbeats 800000 in
theorem text_any (s:ByteArray) (w:World) (hs:s.size≤281474976710656) (h0:0<s.size):
   Calls Tryz.prog 115 #[.string s] w fun e w'=>e = .returned (oneV s (textM s.data.toList))∧Fr nob w w':=by
 have hex:(s.extract 1 s.size).data.toList=s.data.toList.drop 1:=Lib.extract_to_end s 1;have hsx:(s.extract 1 s.size).size=s.size - 1:=by simp
 have hn:=runN_le plainI (s.extract 1 s.size).data.toList;have hn2:runN plainI (s.extract 1 s.size).data.toList+1≤s.size:=by
   have:(s.extract 1 s.size).data.toList.length=s.size - 1:=by simp
   omega
 have hr:=hid (run_plain (s.extract 1 s.size) (by omega));unfold textM;rw[hex] at hr hn2;have hl:s.data.toList.length=s.size:=by simp
 rw[hl];have hby:=fun h=>byteAt_eq s (runN plainI (s.data.toList.drop 1)+1) h
 generalize runN plainI (s.data.toList.drop 1)=n at *;clear hn hex hsx hl;by_cases h1:s.size≤n+1
 · rw[if_pos (.inl h1)]
   have h2:(s.size:Int)≤(n:Int)+1:=by omega
   clear hby;go_enter Tryz.func115,Tryz.ntmps115;go_wp2_with (go_at_call 73;refine (hr.out _).mono ?_;rintro e w1 ⟨rfl,rfl⟩)
   refine bodyPost_ret (v:=oneV s (.err 11)) (by simp[results,Tryz.results115,go_sem,oneV,tokV];try rfl) rfl ⟨by simp,(Fr.refl nob w).alloc _⟩
 · have h3:n+1<s.size:=by omega
   have hb:=hby h3;clear hby;by_cases hq:((s[n+1]'h3).toNat:Int)=34
   · rw[if_neg (by rw[hb,hq];simp;omega)]
     have hqb:s[n+1]'h3=34:=by
       have:(s[n+1]'h3).toNat=34:=by omega
       exact UInt8.toNat_inj.1 this
     have hi:(n:Int)+1<(s.size:Int):=by omega
     by_cases h12:12<n
     · rw[if_pos h12]
       have h4:(12:Int)<(n:Int):=by omega
       clear hb h1;go_enter Tryz.func115,Tryz.ntmps115;go_wp2_with (go_at_call 73;refine (hr.out _).mono ?_;rintro e w1 ⟨rfl,rfl⟩)
       refine bodyPost_ret (v:=oneV s (.err 4)) (by simp[results,Tryz.results115,go_sem,oneV,tokV];try rfl) rfl ⟨by simp,(Fr.refl nob w).alloc _⟩
     · rw[if_neg h12]
       have h4:(n:Int)≤12:=by omega
       clear hb h1;go_enter Tryz.func115,Tryz.ntmps115;go_wp2_with (go_at_call 73;refine (hr.out _).mono ?_;rintro e w1 ⟨rfl,rfl⟩)
       refine bodyPost_ret (v:=oneV s (.ok 2 1 n (n+2))) (by simp[results,Tryz.results115,go_sem,oneV,tokV];try rfl) rfl ⟨by simp,(Fr.refl nob w).alloc _⟩
   · rw[if_pos (.inr (by rw[hb];exact hq))]
     have hi:(n:Int)+1<(s.size:Int):=by omega
     have hq1:(((s[n+1]'h3).toNat:Int) != 34)=true:=bne_iff_ne.2 hq;clear hb h1 hq;go_enter Tryz.func115,Tryz.ntmps115;go_wp2_with (go_at_call 73;refine (hr.out _).mono ?_;rintro e w1 ⟨rfl,rfl⟩)
     refine bodyPost_ret (v:=oneV s (.err 11)) (by simp[results,Tryz.results115,go_sem,oneV,tokV];try rfl) rfl ⟨by simp,(Fr.refl nob w).alloc _⟩
theorem among2 (ss:List ByteArray) (n:Nat) (hn:ss.length=n) (hm:n≤9223372036854775807) (x:ByteArray) (g:Nat) (w:World) (hB:Blk w g 9 (ss.map Value.string).toArray):
   Calls Tryz.prog 122 #[.slice (some ⟨g,0,none⟩) n n,.string x] w fun e w'=>e = .returned (.bool (isIn ss x.data.toList))∧w=w':=by
 refine (Tryz.slices_Contains_string _ _ _ _ ss x _ (by omega) hm (fun j hj=>?_)).mono ?_
 · have:=hB.cell j
   rw[Nat.zero_add,this];simp[List.getD,hj]
 · rintro e w' ⟨rfl,rfl⟩
   rw[List.take_of_length_le (by omega),mem_bytes];exact⟨rfl,rfl⟩
theorem idx_ones (c:Int) (w:World):Calls Tryz.prog 71 #[.string ⟨#[40,41,123,125,91,93,44,59,61,60,43,45,42,47,37,33]⟩,.int .u8 c] w fun e w'=>
  ∃i:Int,e = .returned (.int .i64 i)∧oneB c=decide (0≤i)∧w'=w:=by
 refine (Tryz.strings_IndexByte _ c w).mono ?_;rintro e w' ⟨rfl,rfl⟩;exact⟨_,rfl,rfl,rfl⟩
set_option maxHeartbeats 1600000 in
set_option maxRecDepth 100000 in
theorem sign_any (s:ByteArray) (w:World) (hs:s.size≤281474976710656) (h0:0<s.size) (hv:Vars w):
   Calls Tryz.prog 116 #[.string s] w fun e w'=>e = .returned (oneV s (signM s.data.toList))∧Fr nob w w':=by
 have hl:s.data.toList.length=s.size:=by simp
 have hb:=byteAt_eq s 0 h0;have hex:(s.extract 0 2).data.toList=s.data.toList.take 2:=ext_take _ _;unfold signM;rw[hl,hb];have V:=hid hv;clear hv hl hb;have HA:=hid (fun g w' hB=>among2 twosS 5 rfl (by decide) (s.extract 0 2) g w' hB);rw[hex] at HA;have e2:twoB (s.data.toList.take 2)=isIn twosS (s.data.toList.take 2):=rfl;rw[e2];generalize isIn twosS (s.data.toList.take 2)=b at *;have HO:=hid (idx_ones ((s[0]'h0).toNat:Int));generalize oneB ((s[0]'h0).toNat:Int)=ob at *;clear hex e2;have h3:(0:Int)<(s.size:Int):=by omega
 by_cases h1:1<s.size
 · have h2:(1:Int)<(s.size:Int):=by omega
   have h4:(2:Int)≤(s.size:Int):=by omega
   have hd:decide ((1:Int)<(s.size:Int))=true:=decide_eq_true h2;cases b with
   | true=>
    rw[if_pos ⟨h1,rfl⟩];go_enter Tryz.func116,Tryz.ntmps116;go_wp2
    go_region_held3 (fun _=>True) (trivial) (first|(go_at_call 156;with_reducible refine (split_twos _ (V.out.fr (((Fr.refl nob w).alloc _).drew))).mono ?_;rintro e w6 ⟨rfl,rfl⟩)|(go_at_call 122;with_reducible refine (HA.out _ _ (by (have hB:=Blk.new (w.alloc (.cells #[.int .i64 0,.string ⟨#[]⟩,.int .i64 0] 115)) 9 (twosS.map Value.string).toArray);rw[World.size_alloc] at hB;exact hB.fr ((Fr.refl nob _).drew) (fun x=>x))).mono ?_;rintro e w7 ⟨rfl,rfl⟩))
    go_wp2
    refine bodyPost_ret (v:=oneV s (.ok 5 0 2 2)) (by simp[results,Tryz.results116,go_sem,oneV,tokV];try rfl) rfl ⟨by simp,(((Fr.refl nob w).alloc _).alloc _).drew⟩
   | false=>
    rw[if_neg (by simp)];go_enter Tryz.func116,Tryz.ntmps116;go_wp2
    go_region_held3 (fun _=>True) (trivial) (first|(go_at_call 156;with_reducible refine (split_twos _ (V.out.fr (((Fr.refl nob w).alloc _).drew))).mono ?_;rintro e w6 ⟨rfl,rfl⟩)|(go_at_call 122;with_reducible refine (HA.out _ _ (by (have hB:=Blk.new (w.alloc (.cells #[.int .i64 0,.string ⟨#[]⟩,.int .i64 0] 115)) 9 (twosS.map Value.string).toArray);rw[World.size_alloc] at hB;exact hB.fr ((Fr.refl nob _).drew) (fun x=>x))).mono ?_;rintro e w7 ⟨rfl,rfl⟩))
    cases ob with
    | true=>
     go_wp2_with (go_at_call 71;go_must (refine (HO.out _).mono ?_;rintro e w5 ⟨i,rfl,hob,rfl⟩;have hi:(0:Int)≤i:=of_decide_eq_true hob.symm;clear hob))
     refine bodyPost_ret (v:=oneV s (.ok 5 0 1 1)) (by simp[results,Tryz.results116,go_sem,oneV,tokV];try rfl) rfl ⟨by simp,(((Fr.refl nob w).alloc _).alloc _).drew⟩
    | false=>
     go_wp2_with (go_at_call 71;go_must (refine (HO.out _).mono ?_;rintro e w5 ⟨i,rfl,hob,rfl⟩;have hi:i<(0:Int):=Int.not_le.1 (of_decide_eq_false hob.symm);clear hob))
     refine bodyPost_ret (v:=oneV s (.err 10)) (by simp[results,Tryz.results116,go_sem,oneV,tokV];try rfl) rfl ⟨by simp,(((Fr.refl nob w).alloc _).alloc _).drew⟩
 · rw[if_neg (by omega)]
   have hd:decide ((1:Int)<(s.size:Int))=false:=decide_eq_false (by omega);clear h1;go_enter Tryz.func116,Tryz.ntmps116;go_wp2
   go_quiet (fail)
   cases ob with
   | true=>
    go_wp2_with (go_at_call 71;go_must (refine (HO.out _).mono ?_;rintro e w5 ⟨i,rfl,hob,rfl⟩;have hi:(0:Int)≤i:=of_decide_eq_true hob.symm;clear hob))
    refine bodyPost_ret (v:=oneV s (.ok 5 0 1 1)) (by simp[results,Tryz.results116,go_sem,oneV,tokV];try rfl) rfl ⟨by simp,Fr.box3 ((Fr.refl nob _).drewN _) _ _ _⟩
   | false=>
    go_wp2_with (go_at_call 71;go_must (refine (HO.out _).mono ?_;rintro e w5 ⟨i,rfl,hob,rfl⟩;have hi:i<(0:Int):=Int.not_le.1 (of_decide_eq_false hob.symm);clear hob))
    refine bodyPost_ret (v:=oneV s (.err 10)) (by simp[results,Tryz.results116,go_sem,oneV,tokV];try rfl) rfl ⟨by simp,Fr.box3 ((Fr.refl nob _).drewN _) _ _ _⟩
end Go.Proofs.YtlbjicjinnnboaaGreatDoor.Lx
/- What a text begins with: the walk. -/
namespace Go.Proofs.YtlbjicjinnnboaaGreatDoor.Lx
open Go.RowKit
set_option maxHeartbeats 1600000 in
theorem first_any (s:ByteArray) (w:World) (hs:s.size≤281474976710656) (h0:0<s.size) (hv:Vars w):
   Calls Tryz.prog 75 #[.string s] w fun e w'=>e = .returned (oneV s (firstM s.data.toList))∧Fr nob w w':=by
 have hb:=byteAt_eq s 0 h0;have h3:(0:Int)<(s.size:Int):=by omega
 have V:=hid hv;clear hv;unfold firstM;by_cases hd:digitI (byteAt s.data.toList 0)=true
 · rw[if_pos hd]
   have hr:0<runN digitI s.data.toList:=by
     have:=runN_step digitI s.data.toList 0 (by simpa using h0);rw[List.drop_zero,if_pos hd] at this;omega
   rw[hb] at hd;clear hb;have HC:=hid (fun w' (hf:Fr nob w w')=>number_any s w' hs hr (V.out.fr hf));obtain⟨k,t,n,er,hV⟩:=oneV_open s (numberM s.data.toList);rw[hV] at HC ⊢;go_enter Tryz.func75,Tryz.ntmps75;go_wp2_with (first|(go_at_call 111;refine (digit_any _ _).mono ?_;rintro e w1 ⟨rfl,rfl⟩)|(go_at_call 113;refine (letter_any _ _).mono ?_;rintro e w1 ⟨rfl,rfl⟩)|(go_at_call 112;go_must (refine (HC.out _ ((Fr.refl nob w).alloc _)).mono ?_;rintro e w2 ⟨rfl,hf⟩;have F2:=hid hf;(have B:=(Blk.new w 115 #[.int .i64 0,.string ⟨#[]⟩,.int .i64 0]).fr F2.out (fun x=>x));have c0:=B.cell 0;have c1:=B.cell 1;have c2:=B.cell 2;have f0:=B.frozen 0;have f1:=B.frozen 1;have f2:=B.frozen 2;clear B;clear hf)))
   refine bodyPost_ret (v:= .tuple #[.agg #[.int .i64 k,.string t,.int .i64 0],.int .i64 n,.int .i64 er]) (by simp[results,Tryz.results75,go_sem,c0,c1,c2];try rfl) rfl ⟨by simp,Fr.box3 F2.out _ _ _⟩
 · rw[if_neg hd]
   rw[hb] at hd ⊢;have hd':digitI ((s[0]'h0).toNat:Int)=false:=by simpa using hd
   clear hd hb;by_cases hl:letterI ((s[0]'h0).toNat:Int)=true
   · rw[if_pos hl]
     have HC:=hid (fun w' (hf:Fr nob w w')=>name_any s w' hs (V.out.fr hf));obtain⟨k,t,n,er,hV⟩:=oneV_open s (nameM s.data.toList);rw[hV] at HC ⊢;go_enter Tryz.func75,Tryz.ntmps75;go_wp2_with (first|(go_at_call 111;refine (digit_any _ _).mono ?_;rintro e w1 ⟨rfl,rfl⟩)|(go_at_call 113;refine (letter_any _ _).mono ?_;rintro e w1 ⟨rfl,rfl⟩)|(go_at_call 114;go_must (refine (HC.out _ ((Fr.refl nob w).alloc _)).mono ?_;rintro e w2 ⟨rfl,hf⟩;have F2:=hid hf;(have B:=(Blk.new w 115 #[.int .i64 0,.string ⟨#[]⟩,.int .i64 0]).fr F2.out (fun x=>x));have c0:=B.cell 0;have c1:=B.cell 1;have c2:=B.cell 2;have f0:=B.frozen 0;have f1:=B.frozen 1;have f2:=B.frozen 2;clear B;clear hf)))
     refine bodyPost_ret (v:= .tuple #[.agg #[.int .i64 k,.string t,.int .i64 0],.int .i64 n,.int .i64 er]) (by simp[results,Tryz.results75,go_sem,c0,c1,c2];try rfl) rfl ⟨by simp,Fr.box3 F2.out _ _ _⟩
   · rw[if_neg hl]
     have hl':letterI ((s[0]'h0).toNat:Int)=false:=by simpa using hl
     clear hl;by_cases hq:((s[0]'h0).toNat:Int)=34
     · have hq':(((s[0]'h0).toNat:Int)==34)=true:=beq_iff_eq.2 hq
       rw[if_pos hq'];clear hq;have HC:=hid (fun w' (hf:Fr nob w w')=>text_any s w' hs h0);obtain⟨k,t,n,er,hV⟩:=oneV_open s (textM s.data.toList);rw[hV] at HC ⊢;go_enter Tryz.func75,Tryz.ntmps75;go_wp2_with (first|(go_at_call 111;refine (digit_any _ _).mono ?_;rintro e w1 ⟨rfl,rfl⟩)|(go_at_call 113;refine (letter_any _ _).mono ?_;rintro e w1 ⟨rfl,rfl⟩)|(go_at_call 115;go_must (refine (HC.out _ ((Fr.refl nob w).alloc _)).mono ?_;rintro e w2 ⟨rfl,hf⟩;have F2:=hid hf;(have B:=(Blk.new w 115 #[.int .i64 0,.string ⟨#[]⟩,.int .i64 0]).fr F2.out (fun x=>x));have c0:=B.cell 0;have c1:=B.cell 1;have c2:=B.cell 2;have f0:=B.frozen 0;have f1:=B.frozen 1;have f2:=B.frozen 2;clear B;clear hf)))
       refine bodyPost_ret (v:= .tuple #[.agg #[.int .i64 k,.string t,.int .i64 0],.int .i64 n,.int .i64 er]) (by simp[results,Tryz.results75,go_sem,c0,c1,c2];try rfl) rfl ⟨by simp,Fr.box3 F2.out _ _ _⟩
     · have hq':(((s[0]'h0).toNat:Int)==34)=false:=by simpa using hq
       rw[if_neg (by rw[hq'];simp)];clear hq;have HC:=hid (fun w' (hf:Fr nob w w')=>sign_any s w' hs h0 (V.out.fr hf));obtain⟨k,t,n,er,hV⟩:=oneV_open s (signM s.data.toList);rw[hV] at HC ⊢;go_enter Tryz.func75,Tryz.ntmps75;go_wp2_with (first|(go_at_call 111;refine (digit_any _ _).mono ?_;rintro e w1 ⟨rfl,rfl⟩)|(go_at_call 113;refine (letter_any _ _).mono ?_;rintro e w1 ⟨rfl,rfl⟩)|(go_at_call 116;go_must (refine (HC.out _ ((Fr.refl nob w).alloc _)).mono ?_;rintro e w2 ⟨rfl,hf⟩;have F2:=hid hf;(have B:=(Blk.new w 115 #[.int .i64 0,.string ⟨#[]⟩,.int .i64 0]).fr F2.out (fun x=>x));have c0:=B.cell 0;have c1:=B.cell 1;have c2:=B.cell 2;have f0:=B.frozen 0;have f1:=B.frozen 1;have f2:=B.frozen 2;clear B;clear hf)))
       refine bodyPost_ret (v:= .tuple #[.agg #[.int .i64 k,.string t,.int .i64 0],.int .i64 n,.int .i64 er]) (by simp[results,Tryz.results75,go_sem,c0,c1,c2];try rfl) rfl ⟨by simp,Fr.box3 F2.out _ _ _⟩
end Go.Proofs.YtlbjicjinnnboaaGreatDoor.Lx
/- The tokens of a source: the model, and how the walk goes along it. -/
namespace Go.Proofs.YtlbjicjinnnboaaGreatDoor.Lx
open Go.RowKit
section
variable {l:List UInt8}{p:Nat}
end
end Go.Proofs.YtlbjicjinnnboaaGreatDoor.Lx
