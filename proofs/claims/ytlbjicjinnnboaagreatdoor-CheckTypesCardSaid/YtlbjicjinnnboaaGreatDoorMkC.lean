/- MkC: PPut, PStepE, PStepF, PStepG, POk, PFew, PSt, PGood, PRight, PNamed, PStmt, PChain. -/
import Derived.Test.YtlbjicjinnnboaaGreatDoorMkB
set_option linter.unusedVariables false
set_option linter.unusedSimpArgs false
/- The reader puts a node. -/
namespace Go.Proofs.YtlbjicjinnnboaaGreatDoor
open Go.RowKit
theorem Own.ty {w:World}{e size n:Nat}{v:Value}{xs:List Value} (h:Own w e size v n xs){k:Nat} (hk:blk v=some k):∃cs,Blk w k e cs:=by
 obtain⟨hl,A,c,rfl,⟨rfl,_⟩|⟨g',cur,rfl,h0,hb',r⟩⟩:=h
 · cases A<;>simp[blk] at hk
 · simp[blk] at hk
   exact⟨cur,by rw[←hk.2];exact hb'⟩
theorem Below2.frR {g:Nat}{w w':World}{cs:Array Value}{t:TypeId} (hb:Blk w g t cs) (ht:3≠t):∀{ns:List NodeM}{vs:List Value},Below2 w ns vs→FrR g w w'→Below2 w' ns vs
 | [],[],_,_=>trivial
 | [],_ :: _,h,_=>h.elim
 | _ :: _,[],h,_=>h.elim
 | _ :: _,_ :: _,h,f=>⟨h.1.fr f (fun b hb' hm=>by
  rcases hm with e|⟨_,cs',f',hc⟩
  · exact h.1.blk_ne hb ht (by rw[hb',e])
  · obtain⟨cur,hcur⟩:=h.1.ty hb'
    unfold Blk at hcur;rw[hcur] at hc;injection hc with hc;injection hc with _ h2 _;exact absurd h2 (by decide)),Below2.frR hb ht h.2 f⟩
theorem Below2.snoc {w:World}{n:NodeM}{v:Value} (hn:Own w 3 1 v n.l.length (ints n.l)):∀{ns:List NodeM}{vs:List Value},Below2 w ns vs→Below2 w (ns++[n]) (vs++[v])
 | [],[],_=>⟨hn,trivial⟩
 | [],_ :: _,h=>h.elim
 | _ :: _,[],h=>h.elim
 | _ :: _,_ :: _,h=>⟨h.1,Below2.snoc hn h.2⟩
theorem Own.frR {g:Nat}{w w':World}{cs:Array Value}{t e size n:Nat}{v:Value}{xs:List Value} (h:Own w e size v n xs) (hb:Blk w g t cs) (ht:e≠t) (hn:e≠50) (f:FrR g w w'):Own w' e size v n xs:=
 h.fr f (fun b hb' hm=>by
  rcases hm with e1|⟨_,cs',f',hc⟩
  · exact h.blk_ne hb ht (by rw[hb',e1])
  · obtain⟨cur,hcur⟩:=h.ty hb'
    unfold Blk at hcur;rw[hcur] at hc;injection hc with hc;injection hc with _ h2 _;exact hn h2)
theorem typeM_le (x:List UInt8):typeM x≤4:=by
 unfold typeM
 (repeat' split)<;>omega
section
variable {src:List UInt8}{ts:List Tok}{s:PS}
theorem pTok_down (s:PS):pTok ts (pDown ts s)=pTok ts s:=by
 unfold pDown pFail pTok;simp only;split
 · split<;>rfl
 · rfl
theorem PSOk.goDown {x:List UInt8} (h:PSOk ts s) (ht:ToksOk ts) (hx:pIs ts x s=true):PSOk ts (pGo (pDown ts s)):=
 (h.down ht (pIs_kind hx).1).go ht (by rw[pTok_down];exact (pIs_kind hx).2.1)
theorem PSOk.downIs {x:List UInt8} (h:PSOk ts s) (ht:ToksOk ts) (hx:pIs ts x s=true):PSOk ts (pDown ts s):=h.down ht (pIs_kind hx).1
theorem PSOk.goIs {x:List UInt8} (h:PSOk ts s) (ht:ToksOk ts) (hx:pIs ts x s=true):PSOk ts (pGo s):=h.go ht (pIs_kind hx).2.1
theorem PSOk.goNext {lv:Nat} (h:PSOk ts s) (ht:ToksOk ts) (hx:pNext ts lv s≠[]):PSOk ts (pGo s):=by
 unfold pNext at hx;cases hf:(signsL lv).find? fun x=>pIs ts x s with
 | none=>rw[hf] at hx;simp at hx
 | some x=>
  have hp:=List.find?_some hf;exact h.goIs (x:=x) ht hp
theorem PSOk.goWord {x:List UInt8} (h:PSOk ts s) (ht:ToksOk ts) (hw:pWord ts s=x) (hx:x≠[]):PSOk ts (pGo s):=h.go ht (by rw[(pWord_kind hx hw).2];decide)
theorem PSOk.goKind {k:Nat} (h:PSOk ts s) (ht:ToksOk ts) (hk:(pTok ts s).kind=k) (h0:k≠0):PSOk ts (pGo s):=h.go ht (by rw[hk];exact h0)
theorem run_ok (ht:ToksOk ts):∀(n:Nat) (k:Task) (s:PS) (r:List Nat×PS),run src ts n k s=some r→PSOk ts s→PSOk ts r.2:=by
 intro n;induction n with
 | zero=>intro k s r h;simp[run] at h
 | succ n ih=>
  intro k s r h hs;cases k<;>simp only[run] at h<;>
   (repeat' split at h)<;>
   (try simp only[Option.map_eq_some_iff,Option.bind_eq_some_iff,Option.some.injEq] at h)<;>
   (try (obtain⟨q1,h1,h⟩:=h))<;>
   (repeat' split at h)<;>
   (try simp only[Option.map_eq_some_iff,Option.bind_eq_some_iff,Option.some.injEq] at h)<;>
   (try (obtain⟨q2,h2,h⟩:=h))<;>
   (repeat' split at h)<;>
   (try simp only[Option.map_eq_some_iff,Option.bind_eq_some_iff,Option.some.injEq] at h)<;>
   (try (obtain⟨q3,h3,h⟩:=h))<;>
   (try subst h)<;>
   (try subst h1)<;>
   (repeat (first
     | assumption
     | apply PSOk.put
     | apply PSOk.up
     | (refine PSOk.must ?_ ht _)
     | (refine PSOk.named ?_ ht)
     | (refine PSOk.typed ?_ ht)
     | (refine PSOk.fail ?_ ht 20 (by decide) (by decide))
     | (refine PSOk.goDown ?_ ht (by assumption))
     | (refine PSOk.downIs ?_ ht (by assumption))
     | (refine PSOk.goIs ?_ ht (by assumption))
     | (refine PSOk.goNext ?_ ht (by assumption))
     | (refine PSOk.goWord ?_ ht (by assumption) (by simp))
     | (refine PSOk.goKind ?_ ht (by assumption) (by decide))
     | (refine ih _ _ _ (by assumption) ?_)
     | dsimp only))
end
def pot (s:PS):Int:=(s.nodes.length:Int) - 20*(s.i:Int)
section
variable {src:List UInt8}{ts:List Tok}{s:PS}
theorem pot_go (s:PS):pot (pGo s)=pot s - 20:=by unfold pot pGo;simp only;omega
theorem pot_fail (k:Nat) (s:PS):pot (pFail ts k s)=pot s:=by unfold pFail;split<;>rfl
theorem pot_must (x:List UInt8) (s:PS):pot (pMust ts x s)≤pot s:=by
 unfold pMust;split
 · rw[pot_go];omega
 · rw[pot_fail];omega
theorem pot_named (s:PS):pot (pNamed ts s)≤pot s:=by
 unfold pNamed;split
 · rw[pot_go];omega
 · rw[pot_fail];omega
theorem pot_down (s:PS):pot (pDown ts s)=pot s:=by
 unfold pDown;simp only;split
 · exact pot_fail 21 s
 · rfl
theorem pot_put (k line n:Nat) (name:List UInt8) (l:List Nat) (s:PS):pot (pPut k line n name l s).2=pot s+1:=by unfold pot pPut;simp;omega
def kN:Task→Int
 | .call=>1 | .right=>1 | .block=>3 | .named _=>2 | .stmt=>2 | .stmts _=>2|_=>0
def kS:Task→Prop
 | .named _=>True | .stmt=>True|_=>False
theorem potR_go {b:Int} (h:pot s≤b):pot (pGo s)≤b - 20:=by rw[pot_go];omega
theorem potR_must {b:Int} (x:List UInt8) (h:pot s≤b):pot (pMust ts x s)≤b:=Int.le_trans (pot_must x s) h
theorem potR_named {b:Int} (h:pot s≤b):pot (pNamed ts s)≤b:=Int.le_trans (pot_named s) h
theorem potR_down {b:Int} (h:pot s≤b):pot (pDown ts s)≤b:=by rw[pot_down];exact h
theorem potR_up {b:Int} (h:pot s≤b):pot (pUp s)≤b:=h
theorem potR_fail {b:Int} (k:Nat) (h:pot s≤b):pot (pFail ts k s)≤b:=by rw[pot_fail];exact h
theorem potR_put {b:Int} (k line n:Nat) (name:List UInt8) (l:List Nat) (h:pot s≤b):pot (pPut k line n name l s).2≤b+1:=by rw[pot_put];omega
theorem e_named (h:(pNamed ts s).e=0):pKind ts 3 s=true:=by
 unfold pNamed at h;by_cases hk:pKind ts 3 s=true
 · exact hk
 · rw[if_neg hk] at h
   unfold pFail at h;split at h
   · simp at h
   · rename_i h0;exact absurd h h0
theorem potR_namedK {b:Int} (hk:(pNamed ts s).e=0) (h:pot s≤b):pot (pNamed ts s)≤b - 20:=by
 have:=e_named hk;unfold pNamed;rw[if_pos this];exact potR_go h
theorem Ext.e0 {t:PS} (h:Ext s t) (h0:t.e=0):s.e=0:=by
 by_cases e:s.e=0
 · exact e
 · exact absurd ((h.err e).1.symm.trans h0) e
set_option maxHeartbeats 1600000 in
theorem run_few:∀(n:Nat) (k:Task) (s:PS) (r:List Nat×PS),run src ts n k s=some r→pot r.2≤pot s+kN k∧(kS k→r.2.e=0→pot r.2≤pot s - 10)∧(k = .call→(pNamed ts s).e=0→pot r.2≤pot s - 19):=by
 intro n;induction n with
 | zero=>intro k s r h;simp[run] at h
 | succ n ih=>
  have ih1:∀(k:Task) (s:PS) (r:List Nat×PS) (b:Int),run src ts n k s=some r→pot s≤b→pot r.2≤b+kN k:=fun k s r b h hb=>Int.le_trans (ih k s r h).1 (by omega)
  intro k s r h;have h0:=h;cases k
  case stmts l=>
   refine⟨?_,fun hk=>hk.elim,fun hk=>by cases hk⟩;simp only[run] at h;split at h
   · simp only[Option.some.injEq] at h;subst h;(simp only[kN];omega)
   · split at h
     · simp only[Option.some.injEq] at h;subst h;(simp only[kN];omega)
     · simp only[Option.bind_eq_some_iff] at h
       obtain⟨q1,h1,h⟩:=h;obtain⟨a1,a2,_⟩:=ih _ _ _ h1;by_cases he:q1.2.e=0
       · have b1:=a2 trivial he
         have:=(ih _ _ _ h).1;simp only[kN] at this ⊢;omega
       · cases n with
         | zero=>simp[run] at h
         | succ n=>
           simp only[run] at h;rw[if_pos he] at h;simp only[Option.some.injEq] at h;subst h;exact a1
  case named line=>
   simp only[run] at h;split at h
   · rename_i hc
     simp only[Option.map_eq_some_iff] at h;obtain⟨q1,h1,h⟩:=h;subst h;have hk:=pCalls_kind hc;have hn0:(pNamed ts s).e=0:=by unfold pNamed;rw[if_pos hk];exact (pKind_kind hk).1
     have hc2:pot q1.2≤pot s - 19:=(ih _ _ _ h1).2.2 rfl hn0;have:=potR_put 13 line 0 [] q1.1 (potR_must (ts:=ts) [59] hc2);simp only[kN,kS];refine⟨by omega,fun _ _=>by omega,fun hk=>by cases hk⟩
   · split at h
     · rename_i hx
       simp only[Option.map_eq_some_iff,Option.bind_eq_some_iff] at h;obtain⟨q1,h1,q2,h2,h⟩:=h;subst h;have hn0:=(pIs_kind hx).1;have hb:=potR_put 12 line 0 (pName ts s) (q1.1++q2.1) (potR_must (ts:=ts) [59] (ih1 _ _ _ _ h2 (potR_must _ (potR_up (potR_must _ (ih1 _ _ _ _ h1 (potR_must _ (potR_down (potR_namedK hn0 (Int.le_refl _))))))))));simp only[kN,kS] at hb ⊢;refine⟨by omega,fun _ _=>by omega,fun hk=>by cases hk⟩
     · simp only[Option.map_eq_some_iff] at h
       obtain⟨q1,h1,h⟩:=h;subst h;have hb:=potR_put 11 line 0 (pName ts s) q1.1 (potR_must (ts:=ts) [59] (ih1 _ _ _ _ h1 (potR_must _ (potR_named (Int.le_refl _)))));simp only[kN,kS] at hb ⊢;refine⟨by omega,fun _ he=>?_,fun hk=>by cases hk⟩;have hn0:(pNamed ts s).e=0:=by
         refine Ext.e0 (t:=(pPut 11 line 0 (pName ts s) q1.1 (pMust ts [59] q1.2)).2) ?_ he;exact ((((Ext.refl _).must (ts:=ts) [61]).trans (run_ext _ _ _ _ h1)).must (ts:=ts) [59]).put _ _ _ _ _
       have hb:=potR_put 11 line 0 (pName ts s) q1.1 (potR_must (ts:=ts) [59] (ih1 _ _ _ _ h1 (potR_must _ (potR_namedK hn0 (Int.le_refl _)))));simp only[kN] at hb ⊢;omega
  case stmt=>
   simp only[run] at h;have fin:∀{b:Int},pot r.2≤b→b≤pot s - 10→pot r.2≤pot s+2∧(True→r.2.e=0→pot r.2≤pot s - 10)∧(Task.stmt = .call→(pNamed ts s).e=0→pot r.2≤pot s - 19):=fun h1 h2=>⟨by omega,fun _ _=>by omega,fun hk=>by cases hk⟩
   simp only[kN,kS];by_cases hw:pWord ts s=[108,101,116]
   · rw[if_pos hw] at h
     simp only[Option.map_eq_some_iff] at h;obtain⟨q1,h1,h⟩:=h;subst h;refine fin (potR_put _ _ _ _ _ (potR_must _ (ih1 _ _ _ _ h1 (potR_must _ (potR_named (potR_go (Int.le_refl _))))))) (by simp only[kN];omega)
   · rw[if_neg hw] at h;clear hw
     by_cases hw:pWord ts s=[112,114,105,110,116]
     · rw[if_pos hw] at h
       simp only[Option.map_eq_some_iff] at h;obtain⟨q1,h1,h⟩:=h;subst h;refine fin (potR_put _ _ _ _ _ (potR_must _ (ih1 _ _ _ _ h1 (potR_go (Int.le_refl _))))) (by simp only[kN];omega)
     · rw[if_neg hw] at h;clear hw
       by_cases hw:pWord ts s=[119,104,105,108,101]
       · rw[if_pos hw] at h
         simp only[Option.map_eq_some_iff,Option.bind_eq_some_iff] at h;obtain⟨q1,h1,q2,h2,h⟩:=h;subst h;refine fin (potR_put _ _ _ _ _ (ih1 _ _ _ _ h2 (ih1 _ _ _ _ h1 (potR_go (Int.le_refl _))))) (by simp only[kN];omega)
       · rw[if_neg hw] at h;clear hw
         by_cases hw:pWord ts s=[105,102]
         · rw[if_pos hw] at h
           simp only[Option.bind_eq_some_iff] at h;obtain⟨q1,h1,q2,h2,h⟩:=h;split at h
           · simp only[Option.map_eq_some_iff] at h
             obtain⟨q3,h3,h⟩:=h;subst h;refine fin (potR_put _ _ _ _ _ (ih1 _ _ _ _ h3 (potR_go (ih1 _ _ _ _ h2 (ih1 _ _ _ _ h1 (potR_go (Int.le_refl _))))))) (by simp only[kN];omega)
           · simp only[Option.some.injEq] at h
             subst h;refine fin (potR_put _ _ _ _ _ (ih1 _ _ _ _ h2 (ih1 _ _ _ _ h1 (potR_go (Int.le_refl _))))) (by simp only[kN];omega)
         · rw[if_neg hw] at h;clear hw
           by_cases hw:pWord ts s=[114,101,116,117,114,110]
           · rw[if_pos hw] at h
             split at h
             · simp only[Option.some.injEq] at h
               subst h;refine fin (potR_put _ _ _ _ _ (potR_must _ (potR_go (Int.le_refl _)))) (by omega)
             · simp only[Option.map_eq_some_iff] at h
               obtain⟨q1,h1,h⟩:=h;subst h;refine fin (potR_put _ _ _ _ _ (potR_must _ (ih1 _ _ _ _ h1 (potR_go (Int.le_refl _))))) (by simp only[kN];omega)
           · rw[if_neg hw] at h;clear hw
             obtain⟨a1,a2,_⟩:=ih _ _ _ h;exact⟨a1,fun _=>a2 trivial,fun hk=>by cases hk⟩
  case call=>
   simp only[run] at h;simp only[kN,kS];have key:∀{b:Int},pot (pMust ts [40] (pNamed ts s))≤b→pot r.2≤b+1:=fun {b} hb=>by
     split at h<;>simp only[Option.map_eq_some_iff,Option.some.injEq] at h<;>obtain⟨q1,h1,h⟩:=h<;>subst h
     · have:=potR_put 21 (pLine src ts s) 0 (pName ts s) q1.1 (potR_must (ts:=ts) [41] (ih1 _ _ _ _ h1 hb))
       simp only[kN] at this;omega
     · subst h1
       exact potR_put 21 (pLine src ts s) 0 (pName ts s) [] (potR_must (ts:=ts) [41] hb)
   refine⟨key (potR_must _ (potR_named (Int.le_refl _))),fun hk=>hk.elim,fun _ hn0=>?_⟩;have:=key (potR_must _ (potR_namedK hn0 (Int.le_refl _)));omega
  all_goals
   refine⟨?_,fun hk=>hk.elim,fun hk=>by cases hk⟩;simp only[run] at h
   (repeat' split at h)<;>
   (try simp only[Option.map_eq_some_iff,Option.bind_eq_some_iff,Option.some.injEq] at h)<;>
   (try (obtain⟨q1,h1,h⟩:=h))<;>
   (repeat' split at h)<;>
   (try simp only[Option.map_eq_some_iff,Option.bind_eq_some_iff,Option.some.injEq] at h)<;>
   (try (obtain⟨q2,h2,h⟩:=h))<;>
   (repeat' split at h)<;>
   (try simp only[Option.map_eq_some_iff,Option.bind_eq_some_iff,Option.some.injEq] at h)<;>
   (try subst h)<;>
   (try subst h1)<;>
   (apply Int.le_trans
    focus (repeat (with_reducible (first
     | apply potR_put
     | apply potR_up
     | apply potR_must
     | apply potR_named
     | apply potR_fail
     | apply potR_go
     | apply potR_down
     | apply ih1 _ _ _ _ (by assumption)
     | dsimp only
     | exact Int.le_refl _)))
    (first|(simp only[kN];omega)|omega|(simp only[kN] at *;omega)))
end
def RV (R:Nat→Prop) (v:Value):Nat→Prop:=fun k=>R k∨blk v=some k
section
variable {src:ByteArray}{tb tc:Nat}{ts:List Tok}{g:Nat}{R:Nat→Prop}{w0 w w1 w':World}{s:PS}
theorem blk_row {B n c k:Nat} (h:blk (.slice (some ⟨B,0,none⟩) n c)=some k):k=B:=by
 simp[blk] at h;omega
theorem TyInts:SlTy Tryz.prog 27 3 1 8 (.int .i64 0):=SlTy.mk' (by kernel_rfl) (by kernel_rfl) rfl (by decide)
variable {v:Value}{l:List Nat}
theorem rows_lt:∀{ns:List NodeM}{vs:List Value},Below2 w ns vs→∀v∈vs,∀k,blk v=some k→k<w.heap.size
 | [],[],_,_,hv,_,_=>by cases hv
 | [],_ :: _,h,_,_,_,_=>h.elim
 | _ :: _,[],h,_,_,_,_=>h.elim
 | _ :: ns,u :: vs,h,v,hv,k,hk=>by
  rcases List.mem_cons.1 hv with rfl|hv
  · exact h.1.blk_lt hk
  · exact rows_lt h.2 v hv k hk
theorem own_snoc {e:TypeId}{x:Nat} (h:Own w e 1 v (l.length+1) (ints l++[.int .i64 (x:Nat)])):Own w e 1 v (l++[x]).length (ints (l++[x])):=by
 rw[List.length_append];unfold ints at h ⊢;rw[List.map_append];exact h
end
section
variable {src:List UInt8}{ts:List Tok}{s:PS}
theorem deep_fail (k:Nat) (s:PS):(pFail ts k s).deep=s.deep:=by unfold pFail;split<;>rfl
theorem deep_must (x:List UInt8) (s:PS):(pMust ts x s).deep=s.deep:=by
 unfold pMust;split
 · rfl
 · exact deep_fail 20 s
theorem deep_named (s:PS):(pNamed ts s).deep=s.deep:=by
 unfold pNamed;split
 · rfl
 · exact deep_fail 20 s
theorem deep_down (s:PS):(pDown ts s).deep=s.deep+1:=by
 unfold pDown;simp only;split
 · rw[deep_fail]
 · rfl
theorem deep_go (s:PS):(pGo s).deep=s.deep:=rfl
theorem deep_up (s:PS):(pUp s).deep=s.deep - 1:=rfl
theorem deep_put (k line n:Nat) (name:List UInt8) (l:List Nat) (s:PS):(pPut k line n name l s).2.deep=s.deep:=rfl
theorem run_deep:∀(n:Nat) (k:Task) (s:PS) (r:List Nat×PS),run src ts n k s=some r→r.2.deep=s.deep:=by
 intro n;induction n with
 | zero=>intro k s r h;simp[run] at h
 | succ n ih=>
  intro k s r h;cases k<;>simp only[run] at h<;>
   (repeat' split at h)<;>
   (try simp only[Option.map_eq_some_iff,Option.bind_eq_some_iff,Option.some.injEq] at h)<;>
   (try (obtain⟨q1,h1,h⟩:=h))<;>
   (repeat' split at h)<;>
   (try simp only[Option.map_eq_some_iff,Option.bind_eq_some_iff,Option.some.injEq] at h)<;>
   (try (obtain⟨q2,h2,h⟩:=h))<;>
   (repeat' split at h)<;>
   (try simp only[Option.map_eq_some_iff,Option.bind_eq_some_iff,Option.some.injEq] at h)<;>
   (try (obtain⟨q3,h3,h⟩:=h))<;>
   (try subst h)<;>
   (try subst h1)<;>
   (try replace h1:=ih _ _ _ h1)<;>
   (try replace h2:=ih _ _ _ h2)<;>
   (try replace h3:=ih _ _ _ h3)<;>
   (try replace h:=ih _ _ _ h)<;>
   (try simp only[deep_fail,deep_must,deep_named,deep_down,deep_go,deep_up,deep_put] at h1)<;>
   (try simp only[deep_fail,deep_must,deep_named,deep_down,deep_go,deep_up,deep_put] at h2)<;>
   (try simp only[deep_fail,deep_must,deep_named,deep_down,deep_go,deep_up,deep_put] at h3)<;>
   (try simp only[deep_fail,deep_must,deep_named,deep_down,deep_go,deep_up,deep_put] at h)<;>
   (try simp only[deep_fail,deep_must,deep_named,deep_down,deep_go,deep_up,deep_put])<;>
   (try omega)
def kOne:Task→Prop
 | .args _=>False | .stmts _=>False|_=>True
def oneOf (l:List Nat):Nat:=l.headD 0
theorem run_one:∀(n:Nat) (k:Task) (s:PS) (r:List Nat×PS),run src ts n k s=some r→kOne k→r.1=[oneOf r.1]:=by
 intro n;induction n with
 | zero=>intro k s r h;simp[run] at h
 | succ n ih=>
  intro k s r h ho;cases k<;>simp only[kOne] at ho<;>simp only[run] at h<;>
   (repeat' split at h)<;>
   (try simp only[Option.map_eq_some_iff,Option.bind_eq_some_iff,Option.some.injEq] at h)<;>
   (try (obtain⟨q1,h1,h⟩:=h))<;>
   (repeat' split at h)<;>
   (try simp only[Option.map_eq_some_iff,Option.bind_eq_some_iff,Option.some.injEq] at h)<;>
   (try (obtain⟨q2,h2,h⟩:=h))<;>
   (repeat' split at h)<;>
   (try simp only[Option.map_eq_some_iff,Option.bind_eq_some_iff,Option.some.injEq] at h)<;>
   (try (obtain⟨q3,h3,h⟩:=h))<;>
   (try subst h)<;>
   (first|rfl|exact ih _ _ _ h trivial|(have h5:=ih _ _ _ h1 trivial;exact h5))
theorem nodes_le {s t:PS} (h:Ext s t):s.nodes.length≤t.nodes.length:=by
 obtain⟨x,hx⟩:=h.nodes;rw[hx,List.length_append];omega
end
section
variable (src:ByteArray) (tb tc:Nat) (ts:List Tok) (g:Nat)
end
section
variable {src:ByteArray}{tb tc:Nat}{ts:List Tok}{g:Nat}{n:Nat}
end
section
variable {src:ByteArray}{tb tc:Nat}{ts:List Tok}{g:Nat}{n:Nat}
end
section
variable {src:ByteArray}{tb tc:Nat}{ts:List Tok}{g:Nat}{n:Nat}
end
section
variable {src:ByteArray}{tb tc:Nat}{ts:List Tok}{g:Nat}{n:Nat}
theorem stmt_puts {src:List UInt8}{n:Nat}{s:PS}{r:List Nat×PS} (h:run src ts n .stmt s=some r):s.nodes.length+1≤r.2.nodes.length:=by
 have key:∀{t:PS},Ext s t→∀(k line m:Nat) (name:List UInt8) (l:List Nat),s.nodes.length+1≤(pPut k line m name l t).2.nodes.length:=fun h k line m name l=>by
  have:=nodes_le h;simp[pPut];omega
 have named:∀{n line:Nat} {r:List Nat×PS},run src ts n (.named line) s=some r→s.nodes.length+1≤r.2.nodes.length:=by
  intro n line r h;cases n with
  | zero=>simp[run] at h
  | succ n=>
    simp only[run] at h
    (repeat' split at h)<;>
    (try simp only[Option.map_eq_some_iff,Option.bind_eq_some_iff] at h)<;>
    (try (obtain⟨q1,h1,h⟩:=h))<;>
    (try (obtain⟨q2,h2,h⟩:=h))<;>
    (try subst h)<;>
    (refine key ?_ _ _ _ _ _)<;>
    (repeat (first
      | exact Ext.refl _
      | apply Ext.up
      | apply Ext.must
      | (refine Ext.trans ?_ (run_ext _ _ _ _ (by assumption)))
      | apply Ext.named
      | apply Ext.go
      | apply Ext.down
      | dsimp only))
 cases n with
 | zero=>simp[run] at h
 | succ n=>
  simp only[run] at h
  (repeat' split at h)<;>
    (try simp only[Option.map_eq_some_iff,Option.bind_eq_some_iff,Option.some.injEq] at h)<;>
    (first|exact named h|skip)<;>
    (try (obtain⟨q1,h1,h⟩:=h))<;>
    (try (obtain⟨q2,h2,h⟩:=h))<;>
    (repeat' split at h)<;>
    (try simp only[Option.map_eq_some_iff,Option.bind_eq_some_iff,Option.some.injEq] at h)<;>
    (try (obtain⟨q3,h3,h⟩:=h))<;>
    (try subst h)<;>
    (refine key ?_ _ _ _ _ _)<;>
    (repeat (first
      | exact Ext.refl _
      | apply Ext.up
      | apply Ext.must
      | (refine Ext.trans ?_ (run_ext _ _ _ _ (by assumption)))
      | apply Ext.named
      | apply Ext.go
      | apply Ext.down
      | dsimp only))
end
section
variable {src:ByteArray}{tb tc:Nat}{ts:List Tok}{g:Nat}{n:Nat}
end
end Go.Proofs.YtlbjicjinnnboaaGreatDoor
