/- MkE: PFunc, PTot, PLexed, PTree. -/
import Derived.Test.YtlbjicjinnnboaaGreatDoorMkD
import Derived.Test.YtlbjicjinnnboaaGreatDoorMkB
set_option linter.unusedVariables false
set_option linter.unusedSimpArgs false
/- The parser: function. -/
namespace Go.Proofs.YtlbjicjinnnboaaGreatDoor
open Go.RowKit
theorem TyParam:SlTy Tryz.prog 46 101 2 24 (.agg #[.string ⟨#[]⟩,.int .i64 0]):=SlTy.mk' (by kernel_rfl) (by kernel_rfl) rfl (by decide)
def paramCells (l:List (List UInt8×Nat)):List Value:=l.flatMap fun p=>[.string (bs p.1),.int .i64 (p.2:Nat)]
section
variable {src:ByteArray}{tb tc:Nat}{ts:List Tok}{g:Nat}{R:Nat→Prop}{w0 w w1 w':World}{s:PS}
end
theorem Fr.five (w:World) (T:Nat) (a b c d e:Value):Fr (oneb T) w (((((w.setCell ⟨T,0,none⟩ a).setCell ⟨T,1,none⟩ b).setCell ⟨T,2,none⟩ c).setCell ⟨T,3,none⟩ d).setCell ⟨T,4,none⟩ e):=by
 have h1:Fr (oneb T) w (w.setCell ⟨T,0,none⟩ a):=(Fr.refl _ _).setCell _ _ (fun _=>rfl);have h2:=h1.setCell ⟨T,1,none⟩ b (fun _=>rfl);have h3:=h2.setCell ⟨T,2,none⟩ c (fun _=>rfl);have h4:=h3.setCell ⟨T,3,none⟩ d (fun _=>rfl);exact h4.setCell ⟨T,4,none⟩ e (fun _=>rfl)
section
variable {src:ByteArray}{tb tc:Nat}{ts:List Tok}{g:Nat}{R:Nat→Prop}{w0 w w1 w':World}{s:PS}{T F:Nat}{name:ByteArray}{line:Nat}{pv:Value}{acc:List (List UInt8×Nat)}{ret body:Nat}
end
section
variable {src:ByteArray}{tb tc:Nat}{ts:List Tok}{g:Nat}{n:Nat}
theorem params_ext:∀(n:Nat) (acc:List (List UInt8×Nat)) (s:PS) (p:List (List UInt8×Nat)×PS),runParams ts n acc s=some p→Ext s p.2
 | 0,_,_,_,h=>by simp[runParams] at h
 | n+1,acc,s,p,h=>by
  simp only[runParams] at h;split at h
  · exact (((Ext.refl s).named (ts:=ts)).typed (ts:=ts)).go.trans (params_ext n _ _ _ h)
  · simp only[Option.some.injEq] at h
    subst h;exact ((Ext.refl s).named (ts:=ts)).typed (ts:=ts)
end
section
variable {src:List UInt8}{ts:List Tok}
theorem params_some:∀(n:Nat) (acc:List (List UInt8×Nat)) (s:PS),rem ts s+1≤n→∃r,runParams ts n acc s=some r
 | 0,_,_,h=>by omega
 | n+1,acc,s,h=>by
  simp only[runParams];by_cases hx:pIs ts [44] (pTyped ts (pNamed ts s))=true
  · rw[if_pos hx]
    have h1:=rem_is hx (Ext.refl (pGo (pTyped ts (pNamed ts s))));have h2:rem ts (pTyped ts (pNamed ts s))≤rem ts s:=rem_ext (((Ext.refl s).named (ts:=ts)).typed (ts:=ts));exact params_some n _ _ (by omega)
  · rw[if_neg hx];exact⟨_,rfl⟩
theorem func_ext {n:Nat}{s:PS}{fs:FuncM×PS} (h:runFunc src ts n s=some fs):Ext (pMust ts [102,110] s) fs.2:=by
 simp only[runFunc,Option.bind_eq_some_iff,Option.map_eq_some_iff] at h;obtain⟨p,hp,b,hb,rfl⟩:=h;have hp2:Ext (pMust ts [40] (pNamed ts (pMust ts [102,110] s))) p.2:=by
   split at hp
   · exact params_ext _ _ _ _ hp
   · simp only[Option.some.injEq] at hp
     subst hp;exact Ext.refl _
 have hb2:=run_ext _ _ _ _ hb;have h1:Ext (pMust ts [102,110] s) (pMust ts [41] p.2):=(((((Ext.refl _).named (ts:=ts)).must (ts:=ts) [40]).trans hp2).must (ts:=ts) [41]);split at hb2
 · exact h1.trans hb2
 · exact (h1.typed (ts:=ts)).trans hb2
theorem func_ext' {n:Nat}{s:PS}{fs:FuncM×PS} (h:runFunc src ts n s=some fs):Ext s fs.2:=((Ext.refl s).must (ts:=ts) [102,110]).trans (func_ext h)
theorem func_some {n:Nat}{s:PS} (h:rem ts s+15≤n):∃r,runFunc src ts n s=some r:=by
 simp only[runFunc];obtain⟨p,hp,hpe⟩:∃p,(if pIs ts [41] (pMust ts [40] (pNamed ts (pMust ts [102,110] s)))=false∧(pMust ts [40] (pNamed ts (pMust ts [102,110] s))).e=0 then runParams ts n [] (pMust ts [40] (pNamed ts (pMust ts [102,110] s))) else some ([],pMust ts [40] (pNamed ts (pMust ts [102,110] s))))=some p∧Ext (pMust ts [40] (pNamed ts (pMust ts [102,110] s))) p.2:=by
   have h1:Ext s (pMust ts [40] (pNamed ts (pMust ts [102,110] s))):=(((Ext.refl s).must (ts:=ts) [102,110]).named (ts:=ts)).must (ts:=ts) [40];have h2:=rem_ext (ts:=ts) h1;split
   · obtain⟨p,hp⟩:=params_some (ts:=ts) n [] (pMust ts [40] (pNamed ts (pMust ts [102,110] s))) (by omega)
     exact⟨p,hp,params_ext _ _ _ _ hp⟩
   · exact⟨_,rfl,Ext.refl _⟩
 rw[hp];simp only[Option.bind_some];have h1:Ext s (pMust ts [41] p.2):=(((((Ext.refl s).must (ts:=ts) [102,110]).named (ts:=ts)).must (ts:=ts) [40]).trans hpe).must (ts:=ts) [41];split
 · obtain⟨b,hb⟩:=run_some (src:=src) (ts:=ts) n .block (pMust ts [41] p.2) trivial (by have:=rem_ext (ts:=ts) h1;simp only[cost];omega)
   rw[hb];exact⟨_,rfl⟩
 · obtain⟨b,hb⟩:=run_some (src:=src) (ts:=ts) n .block (pTyped ts (pMust ts [41] p.2)) trivial (by have:=rem_ext (ts:=ts) (h1.typed (ts:=ts));simp only[cost];omega)
   rw[hb];exact⟨_,rfl⟩
theorem must_goes {x:List UInt8}{s t:PS} (h:Ext (pMust ts x s) t) (h0:t.e=0):pIs ts x s=true∧Ext (pGo s) t:=by
 by_cases hx:pIs ts x s=true
 · refine⟨hx,?_⟩
   unfold pMust at h;rw[if_pos hx] at h;exact h
 · exfalso
   unfold pMust at h;rw[if_neg hx] at h;have h1:=h.e0 h0;unfold pFail at h1;split at h1
   · simp at h1
   · rename_i h2;exact h2 h1
theorem fns_some:∀(n:Nat) (acc:List FuncM) (s:PS),rem ts s+40≤n→∃r,runFns src ts n acc s=some r:=by
 intro n;induction n with
 | zero=>intro acc s h;omega
 | succ n ih=>
  intro acc s h;simp only[runFns];split
  · exact⟨_,rfl⟩
  · rename_i h0
    have h0:s.e=0:=by simpa using h0
    split
    · exact⟨_,rfl⟩
    · obtain⟨fs,hfs⟩:=func_some (src:=src) (ts:=ts) (n:=n) (s:=s) (by omega)
      rw[hfs];simp only[Option.bind_some];have he:=func_ext hfs;by_cases hf:fs.2.e=0
      · obtain⟨hx,hg⟩:=must_goes he hf
        have:=rem_is hx hg;exact ih _ _ (by omega)
      · cases n with
        | zero=>omega
        | succ n=>simp only[runFns];rw[if_pos hf];exact⟨_,rfl⟩
theorem parse_some (src:List UInt8):∃r,parseM src=some r:=by
 unfold parseM;cases lexM src with
 | bad p e=>exact⟨_,rfl⟩
 | good ts=>
  show ∃r,parseT src ts=some r
  unfold parseT;obtain⟨r,hr⟩:=fns_some (src:=src) (ts:=ts) (parseFuel ts) [] ⟨0,[],0,0,0⟩ (by unfold rem parseFuel;simp;omega);rw[hr];exact⟨_,rfl⟩
theorem params_ok (ht:ToksOk ts):∀(n:Nat) (acc:List (List UInt8×Nat)) (s:PS) (p:List (List UInt8×Nat)×PS),runParams ts n acc s=some p→PSOk ts s→PSOk ts p.2
 | 0,_,_,_,h,_=>by simp[runParams] at h
 | n+1,acc,s,p,h,hs=>by
  simp only[runParams] at h;split at h
  · rename_i hx
    exact params_ok ht n _ _ _ h (((hs.named ht).typed ht).goIs ht hx)
  · simp only[Option.some.injEq] at h
    subst h;exact (hs.named ht).typed ht
theorem params_pot:∀(n:Nat) (acc:List (List UInt8×Nat)) (s:PS) (p:List (List UInt8×Nat)×PS),runParams ts n acc s=some p→pot p.2≤pot s
 | 0,_,_,_,h=>by simp[runParams] at h
 | n+1,acc,s,p,h=>by
  have typed:∀s,pot (pTyped ts s)≤pot s:=fun s=>by
    unfold pTyped;split
    · rw[pot_fail];omega
    · rw[pot_go];omega
  have h1:=pot_named (ts:=ts) s;have h2:=typed (pNamed ts s);simp only[runParams] at h;split at h
  · have:=params_pot n _ _ _ h
    rw[pot_go] at this;omega
  · simp only[Option.some.injEq] at h
    subst h;exact Int.le_trans h2 h1
theorem func_ok (ht:ToksOk ts){n:Nat}{s:PS}{fs:FuncM×PS} (h:runFunc src ts n s=some fs) (hs:PSOk ts s):PSOk ts fs.2∧pot fs.2≤pot (pMust ts [102,110] s)+3:=by
 have typed:∀s,pot (pTyped ts s)≤pot s:=fun s=>by
   unfold pTyped;split
   · rw[pot_fail];omega
   · rw[pot_go];omega
 simp only[runFunc,Option.bind_eq_some_iff,Option.map_eq_some_iff] at h;obtain⟨p,hp,b,hb,rfl⟩:=h;have h1:PSOk ts (pMust ts [40] (pNamed ts (pMust ts [102,110] s))):=((hs.must ht _).named ht).must ht _;have hpp:pot (pMust ts [40] (pNamed ts (pMust ts [102,110] s)))≤pot (pMust ts [102,110] s):=Int.le_trans (pot_must _ _) (pot_named _);have h2:PSOk ts p.2∧pot p.2≤pot (pMust ts [102,110] s):=by
   split at hp
   · exact⟨params_ok ht _ _ _ _ hp h1,Int.le_trans (params_pot _ _ _ _ hp) hpp⟩
   · simp only[Option.some.injEq] at hp
     subst hp;exact⟨h1,hpp⟩
 have h3:PSOk ts (pMust ts [41] p.2):=h2.1.must ht _;have h4:=pot_must (ts:=ts) [41] p.2;have hfew:=(run_few _ _ _ _ hb).1;have hok:=run_ok ht _ _ _ _ hb;simp only[kN] at hfew;split at hfew
 · rename_i hx
   rw[if_pos hx] at hok;exact⟨hok h3,by have:=h2.2;show pot b.2≤_;omega⟩
 · rename_i hx
   rw[if_neg hx] at hok;have:=typed (pMust ts [41] p.2);exact⟨hok (h3.typed ht),by have:=h2.2;show pot b.2≤_;omega⟩
theorem fns_ext:∀(n:Nat) (acc:List FuncM) (s:PS) (r:List FuncM×PS),runFns src ts n acc s=some r→Ext s r.2
 | 0,_,_,_,h=>by simp[runFns] at h
 | n+1,acc,s,r,h=>by
  simp only[runFns] at h;split at h
  · simp only[Option.some.injEq] at h;subst h;exact Ext.refl _
  · split at h
    · simp only[Option.some.injEq] at h;subst h;exact Ext.refl _
    · simp only[Option.bind_eq_some_iff] at h
      obtain⟨fs,hfs,h⟩:=h;exact (func_ext' hfs).trans (fns_ext n _ _ _ h)
theorem fns_ok (ht:ToksOk ts):∀(n:Nat) (acc:List FuncM) (s:PS) (r:List FuncM×PS),runFns src ts n acc s=some r→PSOk ts s→PSOk ts r.2∧pot r.2≤pot s+3
 | 0,_,_,_,h,_=>by simp[runFns] at h
 | n+1,acc,s,r,h,hs=>by
  simp only[runFns] at h;split at h
  · simp only[Option.some.injEq] at h;subst h;exact⟨hs,by show pot s≤_;omega⟩
  · split at h
    · simp only[Option.some.injEq] at h;subst h;exact⟨hs,by show pot s≤_;omega⟩
    · simp only[Option.bind_eq_some_iff] at h
      obtain⟨fs,hfs,h⟩:=h;obtain⟨a1,a2⟩:=func_ok ht hfs hs;obtain⟨b1,b2⟩:=fns_ok ht n _ _ _ h a1;refine⟨b1,?_⟩;by_cases he:fs.2.e=0
      · obtain⟨hx,_⟩:=must_goes (func_ext hfs) he
        have:pot (pMust ts [102,110] s)=pot s - 20:=by unfold pMust;rw[if_pos hx,pot_go]
        omega
      · cases n with
        | zero=>simp[runFns] at h
        | succ n=>
         simp only[runFns] at h;rw[if_pos he] at h;simp only[Option.some.injEq] at h;subst h;have:=pot_must (ts:=ts) [102,110] s
         show pot fs.2≤_
         omega
end
structure TokFine (N:Nat) (t:Tok):Prop where
 kind:t.kind≤5
 place:t.place≤N
 long:t.text.length≤N
 num:t.kind=1→t.text≠[]∧allDigits t.text∧digitsVal 0 t.text≤9223372036854775807
theorem first_shape {l:List UInt8}{k o m n:Nat} (h0:0<l.length) (h:firstM l = .ok k o m n):1≤k∧k≤5∧(k=1→(l.drop o).take m≠[]∧allDigits ((l.drop o).take m)∧digitsVal 0 ((l.drop o).take m)≤9223372036854775807):=by
 unfold firstM at h;split at h
 · rename_i hd
   unfold numberM at h;split at h
   · rename_i hn
     injection h with h1 h2 h3 h4;subst h1;subst h2;subst h3;have hp:=runN_pos digitI l h0 hd;have hle:=runN_le digitI l;refine⟨by decide,by decide,fun _=>?_⟩;rw[List.drop_zero];unfold numOk at hn;simp only[Bool.and_eq_true,decide_eq_true_eq] at hn;refine⟨fun e=>?_,run_digits l,hn.2⟩;have:=congrArg List.length e;rw[List.length_take,List.length_nil] at this;omega
   · cases h
 · split at h
   · unfold nameM at h
     split at h
     · injection h with h1 h2 h3 h4
       exact⟨by omega,by omega,fun e=>by omega⟩
     · split at h
       · cases h
       · injection h with h1 h2 h3 h4
         exact⟨by omega,by omega,fun e=>by omega⟩
   · split at h
     · unfold textM at h
       split at h
       · cases h
       · split at h
         · cases h
         · injection h with h1 h2 h3 h4
           exact⟨by omega,by omega,fun e=>by omega⟩
     · unfold signM at h
       split at h
       · injection h with h1 h2 h3 h4
         exact⟨by omega,by omega,fun e=>by omega⟩
       · split at h
         · injection h with h1 h2 h3 h4
           exact⟨by omega,by omega,fun e=>by omega⟩
         · cases h
theorem lex_shape:∀(n:Nat) (l:List UInt8) (p N:Nat) (ts:List Tok),l.length≤n→p+l.length≤N→lexFrom l p = .good ts →
  (∀t∈ts,TokFine N t)∧ts.length≤l.length+1∧∃K q,ts=K++[⟨0,[],q⟩]∧∀t∈K,t.kind≠0:=by
 intro n;induction n with
 | zero=>
  intro l p N ts hl hN h;have:l=[]:=List.eq_nil_of_length_eq_zero (by omega);subst this;rw[lex_nil] at h;injection h with h;subst h;refine⟨fun t ht=>?_,by simp,[],p,rfl,fun t ht=>by cases ht⟩;rw[List.mem_singleton.1 ht];exact⟨by simp,by simp at hN ⊢;omega,by simp,fun e=>by simp at e⟩
 | succ n ih=>
  intro l p N ts hl hN h;refine lex_step (Mo:=fun l p=>l.length≤n+1→p+l.length≤N→lexFrom l p = .good ts→(∀t∈ts,TokFine N t)∧ts.length≤l.length+1∧∃K q,ts=K++[⟨0,[],q⟩]∧∀t∈K,t.kind≠0) l p ?_ ?_ ?_ ?_ ?_ hl hN h
  · intro _ _ hN h
    rw[lex_nil] at h;injection h with h;subst h;refine⟨fun t ht=>?_,by simp,[],p,rfl,fun t ht=>by cases ht⟩;rw[List.mem_singleton.1 ht];exact⟨by simp,by simp at hN ⊢;omega,by simp,fun e=>by simp at e⟩
  · intro h0 hb hl hN h
    rw[lex_blank h0 hb] at h;have hd:(l.drop 1).length=l.length - 1:=by rw[List.length_drop]
    obtain⟨a,b,c⟩:=ih (l.drop 1) (p+1) N ts (by omega) (by omega) h;exact⟨a,by omega,c⟩
  · intro h0 hb hr hp hl hN h
    rw[lex_remark h0 hb hr] at h;have hle:=runN_le lineI l;have hd:(l.drop (runN lineI l)).length=l.length - runN lineI l:=by rw[List.length_drop]
    obtain⟨a,b,c⟩:=ih (l.drop (runN lineI l)) (p+runN lineI l) N ts (by omega) (by omega) h;exact⟨a,by omega,c⟩
  · intro e h0 hb hr hf hl hN h
    rw[lex_err h0 hb hr hf] at h;cases h
  · intro k o m n' h0 hb hr hf hl hN h
    obtain⟨g1,g2,g3⟩:=firstM_ok h0 hf;obtain⟨k1,k2,k3⟩:=first_shape h0 hf;rw[lex_ok h0 hb hr hf] at h;have hd:(l.drop n').length=l.length - n':=by rw[List.length_drop]
    cases hq:lexFrom (l.drop n') (p+n') with
    | bad i e=>rw[hq] at h;cases h
    | good us=>
     rw[hq] at h;injection h with h;obtain⟨a,b,K,q,e1,e2⟩:=ih (l.drop n') (p+n') N us (by omega) (by omega) hq;subst h;refine⟨fun t ht=>?_,by simp;omega,⟨k,(l.drop o).take m,p⟩ :: K,q,by rw[e1];rfl,fun t ht=>?_⟩
     · rcases List.mem_append.1 ht with ht|ht
       · rw[List.mem_singleton.1 ht]
         exact⟨k2,by show p≤N;omega,by show ((l.drop o).take m).length≤N;rw[List.length_take];omega,k3⟩
       · exact a t ht
     · rcases List.mem_cons.1 ht with rfl|ht
       · show k≠0;omega
       · exact e2 t ht
theorem lexM_toks {l:List UInt8}{ts:List Tok} (h:lexM l = .good ts):ToksOk ts:=by
 unfold lexM at h;split at h
 · cases h
 · rename_i hl
   obtain⟨a,b,K,q,e1,e2⟩:=lex_shape l.length l 0 600 ts (Nat.le_refl _) (by omega) h;refine⟨by rw[e1];simp,by omega,fun t ht=>⟨(a t ht).kind,by have:=(a t ht).place;omega⟩,?_,fun t ht=>(a t ht).num,fun t ht=>by have:=(a t ht).long;omega⟩;rw[e1,List.length_append,List.length_singleton,Nat.add_sub_cancel,List.getD,List.getElem?_append_right (Nat.le_refl _),Nat.sub_self];rfl
theorem lexM_few {l:List UInt8}{ts:List Tok} (h:lexM l = .good ts):ts.length≤601:=by
 unfold lexM at h;split at h
 · cases h
 · obtain⟨a,b,_⟩:=lex_shape l.length l 0 600 ts (Nat.le_refl _) (by omega) h
   omega
theorem TyFn:SlTy Tryz.prog 24 48 5 64 (.agg #[.string ⟨#[]⟩,.int .i64 0,.slice none 0 0,.int .i64 0,.int .i64 0]):=SlTy.mk' (by kernel_rfl) (by kernel_rfl) rfl (by decide)
def fnCell (f:FuncM) (v:Value):List Value:=[.string (bs f.name),.int .i64 f.line,v,.int .i64 f.ret,.int .i64 f.body]
def fnCells:List FuncM→List Value→List Value
 | f :: fs,v :: vs=>fnCell f v++fnCells fs vs
 | _,_=>[]
theorem fnCells_snoc:∀(fs:List FuncM) (vs:List Value) (f:FuncM) (v:Value),fs.length=vs.length→fnCells (fs++[f]) (vs++[v])=fnCells fs vs++fnCell f v
 | [],[],f,v,_=>by simp[fnCells]
 | [],_ :: _,_,_,h=>by simp at h
 | _ :: _,[],_,_,h=>by simp at h
 | a :: fs,b :: vs,f,v,h=>by
  rw[List.cons_append,List.cons_append,fnCells,fnCells_snoc fs vs f v (by simpa using h),fnCells,List.append_assoc]
theorem Own.some {w:World}{e size n c:Nat}{A:Option Addr}{xs:List Value} (h:Own w e size (.slice A n c) n xs) (h0:0<n):
   ∃g,A=some ⟨g,0,none⟩∧∀j u,xs[j]?=some u→w.cell? ⟨g,j,none⟩=some u:=by
 obtain⟨hl,A',c',hv,⟨_,h2⟩|⟨g,cur,rfl,h1,hb,hnc,hcm,hsz,ht⟩⟩:=h
 · omega
 · injection hv with hA hn hc
   subst hA;subst hc;refine⟨g,rfl,fun j u hu=>?_⟩;rw[hb.cell];rw[←ht,List.getElem?_take] at hu;split at hu
   · simpa using hu
   · cases hu
def ParAll (w:World):List FuncM→List Value→Prop
 | [],[]=>True
 | f :: fs,v :: vs=>Own w 101 2 v f.params.length (paramCells f.params)∧ParAll w fs vs
 | _,_=>False
section
variable {w w':World}
theorem ParAll.to {M:Nat→Prop} (f:Fr M w w') (hM:∀k cs,Blk w k 101 cs→¬M k):∀{fs:List FuncM}{vs:List Value},ParAll w fs vs→ParAll w' fs vs
 | [],[],_=>trivial
 | [],_ :: _,h=>h.elim
 | _ :: _,[],h=>h.elim
 | _ :: _,_ :: _,h=>⟨h.1.fr f (fun k hk=>by obtain⟨cs,hc⟩:=h.1.ty hk;exact hM k cs hc),ParAll.to f hM h.2⟩
theorem ParAll.snoc {f:FuncM}{v:Value} (hn:Own w 101 2 v f.params.length (paramCells f.params)):∀{fs:List FuncM}{vs:List Value},ParAll w fs vs→ParAll w (fs++[f]) (vs++[v])
 | [],[],_=>⟨hn,trivial⟩
 | [],_ :: _,h=>h.elim
 | _ :: _,[],h=>h.elim
 | _ :: _,_ :: _,h=>⟨h.1,ParAll.snoc hn h.2⟩
theorem ParAll.get:∀{fs:List FuncM}{vs:List Value}{j:Nat}{f:FuncM}{v:Value},ParAll w fs vs→fs[j]?=some f→vs[j]?=some v→Own w 101 2 v f.params.length (paramCells f.params)
 | [],_,_,_,_,_,h,_=>by simp at h
 | _ :: _,[],_,_,_,_,_,h=>by simp at h
 | a :: fs,b :: vs,0,f,v,hp,h,h2=>by simp at h h2;subst h;subst h2;exact hp.1
 | a :: fs,b :: vs,j+1,f,v,hp,h,h2=>ParAll.get hp.2 (by simpa using h) (by simpa using h2)
end
structure TreeAt (B:Nat) (w:World) (nv fv:Value) (lvs pvs:List Value) (ns:List NodeM) (fs:List FuncM):Prop where
 nodes:Own w 50 5 nv ns.length (nodesCells ns lvs)
 below:Below2 w ns lvs
 same:ns.length=lvs.length
 fns:Own w 48 5 fv fs.length (fnCells fs pvs)
 pars:ParAll w fs pvs
 samef:fs.length=pvs.length
 newn:∀k,blk nv=some k→B≤k
 newf:∀k,blk fv=some k→B≤k
def ParseAt (B:Nat) (w:World) (e:Ending):ParseR→Prop
 | .bad p er=>e = .returned (.tuple #[.agg #[.slice none 0 0,.slice none 0 0],.int .i64 p,.int .i64 er])
 | .good nodes fns=>∃nv fv lvs pvs,e = .returned (.tuple #[.agg #[nv,fv],.int .i64 0,.int .i64 0])∧TreeAt B w nv fv lvs pvs nodes fns
section
variable {src:ByteArray}{tb tc:Nat}{ts:List Tok}{g:Nat}{w0 w w1 w':World}{s:PS}{TT T9:Nat}{fv:Value}{fns:List FuncM}{pvs:List Value}
theorem FrR.far (h:FrR g w w'){cs:Array Value}{t:TypeId} (hb:Blk w g t cs){k:Nat}{u:TypeId}{cu:Array Value} (hk:Blk w k u cu) (h1:u≠t) (h2:u≠50):¬(k=g∨(g<k∧NodeTy w k)):=by
 rintro (e|⟨_,cs',f,hc⟩)
 · subst e;exact hk.ne hb h1 rfl
 · unfold Blk at hk
   rw[hk] at hc;injection hc with hc;injection hc with _ ht;exact h2 ht
end
end Go.Proofs.YtlbjicjinnnboaaGreatDoor
