/- MkB: RE, RF, RG, RH, RI, PModel, PTotal, PMem, PSmall, PStep, PStepB, PStepC, PStepD. -/
import Derived.Test.YtlbjicjinnnboaaGreatDoorMkA
import Derived.Lib.IndexBytes
import Derived.StillTailTactics
set_option linter.unusedVariables false
set_option linter.unusedSimpArgs false
/- The reference's text. -/
namespace Go.Proofs.YtlbjicjinnnboaaGreatDoor
open Go.RowKit
structure NodeM where
 kind:Nat
 line:Nat
 n:Nat
 name:List UInt8
 l:List Nat
 deriving DecidableEq
structure PS where
 i:Nat
 nodes:List NodeM
 deep:Nat
 e:Nat
 place:Nat
abbrev tok0:Tok:=⟨0,[],0⟩
section
variable (src:List UInt8) (ts:List Tok)
def pTok (s:PS):Tok:=ts.getD s.i tok0
def pFail (k:Nat) (s:PS):PS:=if s.e=0 then { s with e:=k,place:=(pTok ts s).place } else s
def pIs (x:List UInt8) (s:PS):Bool:=decide (s.e=0) && (decide ((pTok ts s).kind=5) || decide ((pTok ts s).kind=4)) && decide ((pTok ts s).text=x)
def pKind (k:Nat) (s:PS):Bool:=decide (s.e=0) && decide ((pTok ts s).kind=k)
def pGo (s:PS):PS:={ s with i:=s.i+1 }
def pMust (x:List UInt8) (s:PS):PS:=if pIs ts x s then pGo s else pFail ts 20 s
def pName (s:PS):List UInt8:=if pKind ts 3 s then (pTok ts s).text else []
def pNamed (s:PS):PS:=if pKind ts 3 s then pGo s else pFail ts 20 s
def pLine (s:PS):Nat:=lineN src (pTok ts s).place
def pPut (kind line n:Nat) (name:List UInt8) (l:List Nat) (s:PS):List Nat×PS:=([s.nodes.length],{ s with nodes:=s.nodes++[⟨kind,line,n,name,l⟩] })
def pDown (s:PS):PS:=let s:=if 16≤s.deep then pFail ts 21 s else s;{ s with deep:=s.deep+1 }
def pUp (s:PS):PS:={ s with deep:=s.deep - 1 }
def signsL:Nat→List (List UInt8)
 | 0=>[[124,124]]
 | 1=>[[38,38]]
 | 2=>[[60],[60,61],[61,61],[33,61]]
 | 3=>[[43],[45]]
 | _=>[[42],[47],[37]]
def pNext (lv:Nat) (s:PS):List UInt8:=((signsL lv).find? fun x=>pIs ts x s).getD []
def pCalls (s:PS):Bool:=pKind ts 3 s && (decide ((ts.getD (s.i+1) tok0).kind=5) && decide ((ts.getD (s.i+1) tok0).text=[40]))
def pWord (s:PS):List UInt8:=if pKind ts 4 s then (pTok ts s).text else []
def typeM (w:List UInt8):Nat:=if w=[105,110,116] then 1 else if w=[98,111,111,108] then 2 else if w=[116,101,120,116] then 3 else if w=[108,105,115,116] then 4 else 0
def pType (s:PS):Nat:=typeM (pWord ts s)
def pTyped (s:PS):PS:=if pType ts s=0 then pFail ts 20 s else pGo s
def atoiM (l:List UInt8):Nat:=digitsVal 0 l
inductive Task where
 | atom|factor|chain (lv:Nat)|more (lv line x:Nat)|args (l:List Nat)|call|right|block|stmts (l:List Nat)|named (line:Nat)|stmt
def run:Nat→Task→PS→Option (List Nat×PS)
 | 0,_,_=>none
 | f+1,.atom,s=>
  if s.e≠0 then some ([0],s)
  else if (pTok ts s).kind=1 then some (pPut 1 (pLine src ts s) (atoiM (pTok ts s).text) [] [] (pGo s))
  else if (pTok ts s).kind=2 then some (pPut 3 (pLine src ts s) 0 (pTok ts s).text [] (pGo s))
  else if (pTok ts s).kind=3 then
    if pIs ts [91] (pGo s) then
      (run f (.chain 0) (pMust ts [91] (pDown ts (pGo s)))).map fun r=>pPut 5 (pLine src ts s) 0 (pTok ts s).text r.1 (pUp (pMust ts [93] r.2))
    else some (pPut 4 (pLine src ts s) 0 (pTok ts s).text [] (pGo s))
  else if pIs ts [116,114,117,101] s then some (pPut 2 (pLine src ts s) 1 [] [] (pGo s))
  else if pIs ts [102,97,108,115,101] s then some (pPut 2 (pLine src ts s) 0 [] [] (pGo s))
  else if pIs ts [108,101,110] s then
    if pIs ts [40] (pGo s) then
      (run f (.chain 0) (pMust ts [40] (pDown ts (pGo s)))).map fun r=>pPut 6 (pLine src ts s) 0 [] r.1 (pUp (pMust ts [41] r.2))
    else some ([0],pFail ts 20 (pGo s))
  else if pIs ts [40] s then (run f (.chain 0) (pMust ts [40] (pDown ts s))).map fun r=>(r.1,pUp (pMust ts [41] r.2))
  else some ([0],pFail ts 20 s)
 | f+1,.factor,s=>
  if pIs ts [45] s then (run f .factor (pGo (pDown ts s))).map fun r=>pPut 7 (pLine src ts s) 0 [] r.1 (pUp r.2)
  else if pIs ts [33] s then (run f .factor (pGo (pDown ts s))).map fun r=>pPut 8 (pLine src ts s) 0 [] r.1 (pUp r.2)
  else run f .atom s
 | f+1,.chain lv,s=>
  if lv=5 then run f .factor s
  else (run f (.chain (lv+1)) s).bind fun r=>run f (.more lv (pLine src ts s) (r.1.headD 0)) r.2
 | f+1,.more lv line x,s=>
  if pNext ts lv s=[] then some ([x],s)
  else (run f (.chain (lv+1)) (pGo s)).bind fun r=>
    let p:=pPut 9 line 0 (pNext ts lv s) [x,r.1.headD 0] r.2
    if lv=2 then some p else run f (.more lv line (p.1.headD 0)) p.2
 | f+1,.args l,s=>
  (run f (.chain 0) s).bind fun r=>if pIs ts [44] r.2 then run f (.args (l++r.1)) (pGo r.2) else some (l++r.1,r.2)
 | f+1,.call,s=>
  let s2:=pMust ts [40] (pNamed ts s)
  (if pIs ts [41] s2=false∧s2.e=0 then run f (.args []) s2 else some ([],s2)).map fun r=>pPut 21 (pLine src ts s) 0 (pName ts s) r.1 (pMust ts [41] r.2)
 | f+1,.right,s=>
  if pIs ts [105,110,112,117,116] s then some (pPut 19 (pLine src ts s) 0 [] [] (pGo s))
  else if pIs ts [110,101,119] s then
    (run f (.chain 0) (pMust ts [40] (pGo s))).map fun r=>pPut 20 (pLine src ts s) 0 [] r.1 (pMust ts [41] r.2)
  else if pCalls ts s then run f .call s
  else run f (.chain 0) s
 | f+1,.block,s=>
  if pIs ts [123] s then
    (run f (.stmts []) (pMust ts [123] (pDown ts s))).map fun r=>pPut 18 (pLine src ts s) 0 [] r.1 (pUp (pMust ts [125] r.2))
  else some ([0],pFail ts 20 s)
 | f+1,.stmts l,s=>
  if s.e≠0 then some (l,s)
  else if pIs ts [125] s then some (l,s)
  else (run f .stmt s).bind fun r=>run f (.stmts (l++r.1)) r.2
 | f+1,.named line,s=>
  if pCalls ts s then (run f .call s).map fun r=>pPut 13 line 0 [] r.1 (pMust ts [59] r.2)
  else if pIs ts [91] (pNamed ts s) then
    (run f (.chain 0) (pMust ts [91] (pDown ts (pNamed ts s)))).bind fun r=>
      (run f (.chain 0) (pMust ts [61] (pUp (pMust ts [93] r.2)))).map fun q=>pPut 12 line 0 (pName ts s) (r.1++q.1) (pMust ts [59] q.2)
  else (run f .right (pMust ts [61] (pNamed ts s))).map fun r=>pPut 11 line 0 (pName ts s) r.1 (pMust ts [59] r.2)
 | f+1,.stmt,s=>
  if pWord ts s=[108,101,116] then
    (run f .right (pMust ts [61] (pNamed ts (pGo s)))).map fun r=>pPut 10 (pLine src ts s) 0 (pName ts (pGo s)) r.1 (pMust ts [59] r.2)
  else if pWord ts s=[112,114,105,110,116] then
    (run f (.chain 0) (pGo s)).map fun r=>pPut 14 (pLine src ts s) 0 [] r.1 (pMust ts [59] r.2)
  else if pWord ts s=[119,104,105,108,101] then
    (run f (.chain 0) (pGo s)).bind fun r=>(run f .block r.2).map fun b=>pPut 16 (pLine src ts s) 0 [] (r.1++b.1) b.2
  else if pWord ts s=[105,102] then
    (run f (.chain 0) (pGo s)).bind fun r=>(run f .block r.2).bind fun b=>
      if pIs ts [101,108,115,101] b.2 then (run f .block (pGo b.2)).map fun c=>pPut 15 (pLine src ts s) 0 [] (r.1++b.1++c.1) c.2
      else some (pPut 15 (pLine src ts s) 0 [] (r.1++b.1) b.2)
  else if pWord ts s=[114,101,116,117,114,110] then
    if pIs ts [59] (pGo s) then some (pPut 17 (pLine src ts s) 0 [] [] (pMust ts [59] (pGo s)))
    else (run f (.chain 0) (pGo s)).map fun r=>pPut 17 (pLine src ts s) 0 [] r.1 (pMust ts [59] r.2)
  else run f (.named (pLine src ts s)) s
structure FuncM where
 name:List UInt8
 line:Nat
 params:List (List UInt8×Nat)
 ret:Nat
 body:Nat
def runParams:Nat→List (List UInt8×Nat)→PS→Option (List (List UInt8×Nat)×PS)
 | 0,_,_=>none
 | f+1,acc,s=>
  let s1:=pNamed ts s
  let s2:=pTyped ts s1
  let acc2:=acc++[(pName ts s,pType ts s1)]
  if pIs ts [44] s2 then runParams f acc2 (pGo s2) else some (acc2,s2)
def runFunc (f:Nat) (s:PS):Option (FuncM×PS):=
 let s1:=pMust ts [102,110] s
 let s3:=pMust ts [40] (pNamed ts s1)
 (if pIs ts [41] s3=false∧s3.e=0 then runParams ts f [] s3 else some ([],s3)).bind fun p=>
   let s4:=pMust ts [41] p.2
   let ret:=if pIs ts [123] s4 then 0 else pType ts s4
   let s5:=if pIs ts [123] s4 then s4 else pTyped ts s4
   (run src ts f .block s5).map fun b=>(⟨pName ts s1,pLine src ts s,p.1,ret,b.1.headD 0⟩,b.2)
def runFns:Nat→List FuncM→PS→Option (List FuncM×PS)
 | 0,_,_=>none
 | f+1,acc,s=>
  if s.e≠0 then some (acc,s)
  else if pKind ts 0 s then some (acc,s)
  else (runFunc src ts f s).bind fun r=>runFns f (acc++[r.1]) r.2
end
inductive ParseR where
 | good (nodes:List NodeM) (fns:List FuncM)
 | bad (p e:Nat)
def parseFuel (ts:List Tok):Nat:=40*ts.length+100
def parseT (src:List UInt8) (ts:List Tok):Option ParseR:=
 (runFns src ts (parseFuel ts) [] ⟨0,[],0,0,0⟩).map fun r=>
   if r.2.e≠0 then .bad r.2.place r.2.e
   else if 300<r.2.nodes.length∨6<r.1.length∨r.1.any (fun f=>decide (3<f.params.length))=true then .bad 0 4
   else .good r.2.nodes r.1
def parseM (src:List UInt8):Option ParseR:=
 match lexM src with
 | .bad p e=>some (.bad p e)
 | .good ts=>parseT src ts
structure Ext (s t:PS):Prop where
 i:s.i≤t.i
 err:s.e≠0→t.e=s.e∧t.place=s.place
 nodes:∃x,t.nodes=s.nodes++x
section
variable {src:List UInt8}{ts:List Tok}{s t u:PS}
theorem Ext.refl (s:PS):Ext s s:=⟨Nat.le_refl _,fun _=>⟨rfl,rfl⟩,[],by simp⟩
theorem Ext.trans (h:Ext s t) (g:Ext t u):Ext s u:=by
 refine⟨Nat.le_trans h.i g.i,fun he=>?_,?_⟩
 · obtain⟨a1,a2⟩:=h.err he
   obtain⟨b1,b2⟩:=g.err (by rw[a1];exact he);exact⟨b1.trans a1,b2.trans a2⟩
 · obtain⟨x,hx⟩:=h.nodes
   obtain⟨y,hy⟩:=g.nodes;exact⟨x++y,by rw[hy,hx,List.append_assoc]⟩
theorem Ext.fail (h:Ext s t) (k:Nat):Ext s (pFail ts k t):=by
 refine h.trans ?_;unfold pFail;split
 · rename_i h0;exact⟨Nat.le_refl _,fun he=>absurd h0 he,[],by simp⟩
 · exact Ext.refl _
theorem Ext.go (h:Ext s t):Ext s (pGo t):=h.trans ⟨Nat.le_succ _,fun _=>⟨rfl,rfl⟩,[],by simp[pGo]⟩
theorem Ext.up (h:Ext s t):Ext s (pUp t):=h.trans ⟨Nat.le_refl _,fun _=>⟨rfl,rfl⟩,[],by simp[pUp]⟩
theorem Ext.down (h:Ext s t):Ext s (pDown ts t):=by
 unfold pDown;simp only;split
 · exact (h.fail (ts:=ts) 21).trans ⟨Nat.le_refl _,fun _=>⟨rfl,rfl⟩,[],by simp⟩
 · exact h.trans ⟨Nat.le_refl _,fun _=>⟨rfl,rfl⟩,[],by simp⟩
theorem Ext.must (h:Ext s t) (x:List UInt8):Ext s (pMust ts x t):=by
 unfold pMust;split
 · exact h.go
 · exact h.fail _
theorem Ext.named (h:Ext s t):Ext s (pNamed ts t):=by
 unfold pNamed;split
 · exact h.go
 · exact h.fail _
theorem Ext.typed (h:Ext s t):Ext s (pTyped ts t):=by
 unfold pTyped;split
 · exact h.fail _
 · exact h.go
theorem Ext.put (h:Ext s t) (kind line n:Nat) (name:List UInt8) (l:List Nat):Ext s (pPut kind line n name l t).2:=
 h.trans ⟨Nat.le_refl _,fun _=>⟨rfl,rfl⟩,[⟨kind,line,n,name,l⟩],rfl⟩
theorem tok_lt (h:(pTok ts s).kind≠0):s.i<ts.length:=by
 by_cases hl:s.i<ts.length
 · exact hl
 · refine absurd ?_ h
   unfold pTok;rw[List.getD,List.getElem?_eq_none (by omega)];rfl
theorem pIs_kind {x:List UInt8} (h:pIs ts x s=true):s.e=0∧(pTok ts s).kind≠0∧(pTok ts s).text=x:=by
 unfold pIs at h;simp at h
 exact⟨h.1.1,by omega,h.2⟩
theorem pIs_lt {x:List UInt8} (h:pIs ts x s=true):s.i<ts.length:=tok_lt (pIs_kind h).2.1
theorem pKind_kind {k:Nat} (h:pKind ts k s=true):s.e=0∧(pTok ts s).kind=k:=by
 unfold pKind at h;simpa using h
theorem pCalls_kind (h:pCalls ts s=true):pKind ts 3 s=true:=by
 unfold pCalls at h;simp at h
 exact h.1
theorem pWord_kind {x:List UInt8} (hx:x≠[]) (h:pWord ts s=x):s.e=0∧(pTok ts s).kind=4:=by
 unfold pWord at h;split at h
 · rename_i hk;exact pKind_kind hk
 · exact absurd h.symm hx
theorem pNext_kind {lv:Nat} (h:pNext ts lv s≠[]):s.e=0∧s.i<ts.length:=by
 unfold pNext at h;cases hf:(signsL lv).find? fun x=>pIs ts x s with
 | none=>rw[hf] at h;simp at h
 | some x=>
  have:=List.find?_some hf;exact⟨(pIs_kind this).1,pIs_lt this⟩
theorem run_ext:∀(n:Nat) (k:Task) (s:PS) (r:List Nat×PS),run src ts n k s=some r→Ext s r.2:=by
 intro n;induction n with
 | zero=>intro k s r h;simp[run] at h
 | succ n ih=>
  intro k s r h;cases k<;>simp only[run] at h<;>
   (repeat' split at h)<;>
   (try simp only[Option.map_eq_some_iff,Option.bind_eq_some_iff,Option.some.injEq] at h)<;>
   (try (obtain⟨q1,h1,h⟩:=h))<;>
   (repeat' split at h)<;>
   (try simp only[Option.map_eq_some_iff,Option.bind_eq_some_iff,Option.some.injEq] at h)<;>
   (try (obtain⟨q2,h2,h⟩:=h))<;>
   (repeat' split at h)<;>
   (try simp only[Option.map_eq_some_iff,Option.bind_eq_some_iff,Option.some.injEq] at h)<;>
   (try (obtain⟨q3,h3,h⟩:=h))<;>
   (try subst h)<;>
   (try subst h1)<;>
   (repeat (first
     | exact Ext.refl _
     | apply Ext.put
     | apply Ext.up
     | apply Ext.must
     | apply Ext.named
     | apply Ext.typed
     | apply Ext.go
     | apply Ext.down
     | apply Ext.fail
     | refine Ext.trans ?_ (ih _ _ _ (by assumption))
     | dsimp only))
def rem (ts:List Tok) (s:PS):Nat:=if s.e=0 then 16*(ts.length - s.i) else 0
theorem rem_ext (h:Ext s t):rem ts t≤rem ts s:=by
 unfold rem;have hi:=h.i;by_cases h0:s.e=0
 · rw[if_pos h0];split<;>omega
 · rw[if_neg h0,if_neg (by rw[(h.err h0).1];exact h0)];omega
theorem rem_go (h0:s.e=0) (hi:s.i<ts.length) (h:Ext (pGo s) t):rem ts t+16≤rem ts s:=by
 have h1:rem ts t≤rem ts (pGo s):=rem_ext h;have h2:rem ts (pGo s)=16*(ts.length - (s.i+1)):=by unfold rem;rw[if_pos (show (pGo s).e=0 from h0)];rfl
 have h3:rem ts s=16*(ts.length - s.i):=by unfold rem;rw[if_pos h0]
 omega
theorem rem_is {x:List UInt8} (hx:pIs ts x s=true) (h:Ext (pGo s) t):rem ts t+16≤rem ts s:=rem_go (pIs_kind hx).1 (pIs_lt hx) h
theorem rem_down {x:List UInt8} (hx:pIs ts x s=true):rem ts (pMust ts x (pDown ts s))+16≤rem ts s:=by
 have h0:=(pIs_kind hx).1;have hi:=pIs_lt hx;have h3:rem ts s=16*(ts.length - s.i):=by unfold rem;rw[if_pos h0]
 unfold pDown;by_cases hd:16≤s.deep
 · have he:(pDown ts s).e=21:=by
    unfold pDown pFail;simp only;rw[if_pos hd,if_pos h0]
   have e1:=((Ext.refl (pDown ts s)).must (ts:=ts) x).err (by rw[he];decide);have:rem ts (pMust ts x (pDown ts s))=0:=by
    unfold rem;rw[if_neg (by rw[e1.1,he];decide)]
   unfold pDown at this;rw[this];omega
 · simp only
   rw[if_neg hd];have h4:pIs ts x { s with deep:=s.deep+1 }=true:=hx;unfold pMust;rw[if_pos h4];have:rem ts (pGo { s with deep:=s.deep+1 })=16*(ts.length - (s.i+1)):=by
    unfold rem;rw[if_pos (show (pGo { s with deep:=s.deep+1 }).e=0 from h0)];rfl
   omega
def cost:Task→Nat
 | .atom=>1 | .factor=>2 | .chain lv=>8 - lv | .more _ _ _=>2 | .args _=>9 | .call=>10 | .right=>11 | .named _=>12 | .stmt=>13 | .stmts _=>14 | .block=>15
def okTask:Task→Prop
 | .chain lv=>lv≤5
 | .more lv _ _=>lv≤4
 | _=>True
theorem go_down_ext (s:PS):Ext (pGo s) (pGo (pDown ts s)):=by
 have h:=(Ext.refl s).down (ts:=ts);exact⟨Nat.succ_le_succ h.i,fun he=>h.err he,h.nodes⟩
theorem named_ext {n line:Nat}{r:List Nat×PS} (h:run src ts n (.named line) s=some r) (hc:pCalls ts s=false):Ext (pNamed ts s) r.2:=by
 cases n with
 | zero=>simp[run] at h
 | succ n=>
  simp only[run] at h;rw[if_neg (by rw[hc];simp)] at h;split at h
  · simp only[Option.map_eq_some_iff,Option.bind_eq_some_iff] at h
    obtain⟨q1,h1,q2,h2,h⟩:=h;subst h
    (repeat (first
      | exact Ext.refl _
      | apply Ext.put
      | apply Ext.up
      | apply Ext.must
      | (refine Ext.trans ?_ (run_ext _ _ _ _ (by assumption)))
      | apply Ext.named
      | apply Ext.typed
      | apply Ext.go
      | apply Ext.down
      | apply Ext.fail
      | dsimp only))
  · simp only[Option.map_eq_some_iff] at h
    obtain⟨q1,h1,h⟩:=h;subst h
    (repeat (first
      | exact Ext.refl _
      | apply Ext.put
      | apply Ext.up
      | apply Ext.must
      | (refine Ext.trans ?_ (run_ext _ _ _ _ (by assumption)))
      | apply Ext.named
      | apply Ext.typed
      | apply Ext.go
      | apply Ext.down
      | apply Ext.fail
      | dsimp only))
theorem call_ext {n:Nat}{r:List Nat×PS} (h:run src ts n .call s=some r):Ext (pNamed ts s) r.2:=by
 cases n with
 | zero=>simp[run] at h
 | succ n=>
  simp only[run] at h;split at h<;>
   simp only[Option.map_eq_some_iff,Option.some.injEq] at h<;>
   obtain⟨q1,h1,h⟩:=h<;>
   subst h<;>
   (try subst h1)<;>
   (repeat (first
     | exact Ext.refl _
     | apply Ext.put
     | apply Ext.up
     | apply Ext.must
     | (refine Ext.trans ?_ (run_ext _ _ _ _ (by assumption)))
     | apply Ext.named
     | apply Ext.typed
     | apply Ext.go
     | apply Ext.down
     | apply Ext.fail
     | dsimp only))
theorem named_goes (h:Ext (pNamed ts s) t) (h0:s.e=0):t.e≠0∨rem ts t+16≤rem ts s:=by
 unfold pNamed at h;by_cases hk:pKind ts 3 s=true
 · rw[if_pos hk] at h
   exact .inr (rem_go h0 (tok_lt (by rw[(pKind_kind hk).2];decide)) h)
 · rw[if_neg hk] at h
   left
   have he:(pFail ts 20 s).e=20:=by unfold pFail;rw[if_pos h0]
   rw[(h.err (by rw[he];decide)).1,he];decide
theorem stmt_goes {n:Nat}{r:List Nat×PS} (h:run src ts n .stmt s=some r) (h0:s.e=0):r.2.e≠0∨rem ts r.2+16≤rem ts s:=by
 cases n with
 | zero=>simp[run] at h
 | succ n=>
  have word:∀x,x≠[]→pWord ts s=x→Ext (pGo s) r.2→rem ts r.2+16≤rem ts s:=fun x hx hw he=>by
    obtain⟨_,hk4⟩:=pWord_kind hx hw;exact rem_go h0 (tok_lt (by rw[hk4];decide)) he
  simp only[run] at h;split at h
  · rename_i hw
    refine .inr (word _ (by decide) hw ?_);simp only[Option.map_eq_some_iff] at h;obtain⟨q1,h1,h⟩:=h;subst h
    (repeat (first
      | exact Ext.refl _
      | apply Ext.put
      | apply Ext.up
      | apply Ext.must
      | (refine Ext.trans ?_ (run_ext _ _ _ _ (by assumption)))
      | apply Ext.named
      | apply Ext.typed
      | apply Ext.go
      | apply Ext.down
      | apply Ext.fail
      | dsimp only))
  · split at h
    · rename_i hw
      refine .inr (word _ (by decide) hw ?_);simp only[Option.map_eq_some_iff] at h;obtain⟨q1,h1,h⟩:=h;subst h
      (repeat (first
      | exact Ext.refl _
      | apply Ext.put
      | apply Ext.up
      | apply Ext.must
      | (refine Ext.trans ?_ (run_ext _ _ _ _ (by assumption)))
      | apply Ext.named
      | apply Ext.typed
      | apply Ext.go
      | apply Ext.down
      | apply Ext.fail
      | dsimp only))
    · split at h
      · rename_i hw
        refine .inr (word _ (by decide) hw ?_);simp only[Option.map_eq_some_iff,Option.bind_eq_some_iff] at h;obtain⟨q1,h1,q2,h2,h⟩:=h;subst h
        (repeat (first
      | exact Ext.refl _
      | apply Ext.put
      | apply Ext.up
      | apply Ext.must
      | (refine Ext.trans ?_ (run_ext _ _ _ _ (by assumption)))
      | apply Ext.named
      | apply Ext.typed
      | apply Ext.go
      | apply Ext.down
      | apply Ext.fail
      | dsimp only))
      · split at h
        · rename_i hw
          refine .inr (word _ (by decide) hw ?_);simp only[Option.bind_eq_some_iff] at h;obtain⟨q1,h1,q2,h2,h⟩:=h;split at h
          · simp only[Option.map_eq_some_iff] at h
            obtain⟨q3,h3,h⟩:=h;subst h
            (repeat (first
      | exact Ext.refl _
      | apply Ext.put
      | apply Ext.up
      | apply Ext.must
      | (refine Ext.trans ?_ (run_ext _ _ _ _ (by assumption)))
      | apply Ext.named
      | apply Ext.typed
      | apply Ext.go
      | apply Ext.down
      | apply Ext.fail
      | dsimp only))
          · simp only[Option.some.injEq] at h
            subst h
            (repeat (first
      | exact Ext.refl _
      | apply Ext.put
      | apply Ext.up
      | apply Ext.must
      | (refine Ext.trans ?_ (run_ext _ _ _ _ (by assumption)))
      | apply Ext.named
      | apply Ext.typed
      | apply Ext.go
      | apply Ext.down
      | apply Ext.fail
      | dsimp only))
        · split at h
          · rename_i hw
            refine .inr (word _ (by decide) hw ?_);split at h
            · simp only[Option.some.injEq] at h
              subst h
              (repeat (first
      | exact Ext.refl _
      | apply Ext.put
      | apply Ext.up
      | apply Ext.must
      | (refine Ext.trans ?_ (run_ext _ _ _ _ (by assumption)))
      | apply Ext.named
      | apply Ext.typed
      | apply Ext.go
      | apply Ext.down
      | apply Ext.fail
      | dsimp only))
            · simp only[Option.map_eq_some_iff] at h
              obtain⟨q1,h1,h⟩:=h;subst h
              (repeat (first
      | exact Ext.refl _
      | apply Ext.put
      | apply Ext.up
      | apply Ext.must
      | (refine Ext.trans ?_ (run_ext _ _ _ _ (by assumption)))
      | apply Ext.named
      | apply Ext.typed
      | apply Ext.go
      | apply Ext.down
      | apply Ext.fail
      | dsimp only))
          · by_cases hc:pCalls ts s=true
            · cases n with
              | zero=>simp[run] at h
              | succ n=>
                simp only[run] at h;rw[if_pos hc] at h;simp only[Option.map_eq_some_iff] at h;obtain⟨q1,h1,h⟩:=h;subst h;exact named_goes (((call_ext h1).must _).put _ _ _ _ _) h0
            · exact named_goes (named_ext h (by simpa using hc)) h0
theorem run_some:∀(n:Nat) (k:Task) (s:PS),okTask k→rem ts s+cost k≤n→∃r,run src ts n k s=some r:=by
 intro n;induction n with
 | zero=>intro k s hk h;cases k<;>simp[cost] at h<;>(simp[okTask] at hk)<;>omega
 | succ n ih=>
  intro k s hk h;cases k with
  | atom=>
   simp only[cost] at h;simp only[run];split
   · exact⟨_,rfl⟩
   · rename_i h0
     have h0:s.e=0:=by simpa using h0
     split
     · exact⟨_,rfl⟩
     · split
       · exact⟨_,rfl⟩
       · split
         · rename_i hk3
           split
           · rename_i hx
             have hr:=rem_down hx;have hg:=rem_go (ts:=ts) h0 (tok_lt (by rw[hk3];decide)) (Ext.refl (pGo s));obtain⟨q,hq⟩:=ih (.chain 0) (pMust ts [91] (pDown ts (pGo s))) (by simp[okTask]) (by simp only[cost];omega);rw[hq];exact⟨_,rfl⟩
           · exact⟨_,rfl⟩
         · split
           · exact⟨_,rfl⟩
           · split
             · exact⟨_,rfl⟩
             · split
               · rename_i hl
                 split
                 · rename_i hx
                   have hr:=rem_down hx;have hg:=rem_is hl (Ext.refl (pGo s));obtain⟨q,hq⟩:=ih (.chain 0) (pMust ts [40] (pDown ts (pGo s))) (by simp[okTask]) (by simp only[cost];omega);rw[hq];exact⟨_,rfl⟩
                 · exact⟨_,rfl⟩
               · split
                 · rename_i hx
                   have hr:=rem_down hx;obtain⟨q,hq⟩:=ih (.chain 0) (pMust ts [40] (pDown ts s)) (by simp[okTask]) (by simp only[cost];omega);rw[hq];exact⟨_,rfl⟩
                 · exact⟨_,rfl⟩
  | factor=>
   simp only[cost] at h;simp only[run];split
   · rename_i hx
     have hg:=rem_is hx (go_down_ext (ts:=ts) s);obtain⟨q,hq⟩:=ih .factor (pGo (pDown ts s)) trivial (by simp only[cost];omega);rw[hq];exact⟨_,rfl⟩
   · split
     · rename_i hx
       have hg:=rem_is hx (go_down_ext (ts:=ts) s);obtain⟨q,hq⟩:=ih .factor (pGo (pDown ts s)) trivial (by simp only[cost];omega);rw[hq];exact⟨_,rfl⟩
     · exact ih .atom s trivial (by simp only[cost];omega)
  | chain lv=>
   simp only[okTask] at hk;simp only[cost] at h;simp only[run];split
   · exact ih .factor s trivial (by simp only[cost];omega)
   · obtain⟨q,hq⟩:=ih (.chain (lv+1)) s (by simp only[okTask];omega) (by simp only[cost];omega)
     rw[hq];have he:=rem_ext (ts:=ts) (run_ext _ _ _ _ hq);exact ih (.more lv _ _) q.2 (by simp only[okTask];omega) (by simp only[cost];omega)
  | more lv line x=>
   simp only[okTask] at hk;simp only[cost] at h;simp only[run];split
   · exact⟨_,rfl⟩
   · rename_i hx
     obtain⟨h0,hi⟩:=pNext_kind hx;have hg:=rem_go (ts:=ts) h0 hi (Ext.refl (pGo s));obtain⟨q,hq⟩:=ih (.chain (lv+1)) (pGo s) (by simp only[okTask];omega) (by simp only[cost];omega);rw[hq];have he:=rem_ext (ts:=ts) (run_ext _ _ _ _ hq);simp only[Option.bind_some];split
     · exact⟨_,rfl⟩
     · have hp:=rem_ext (ts:=ts) ((Ext.refl q.2).put 9 line 0 (pNext ts lv s) [x,q.1.headD 0])
       exact ih (.more lv line _) _ (by simp only[okTask];omega) (by simp only[cost];omega)
  | args l=>
   simp only[cost] at h;simp only[run];obtain⟨q,hq⟩:=ih (.chain 0) s (by simp[okTask]) (by simp only[cost];omega);rw[hq];have he:=rem_ext (ts:=ts) (run_ext _ _ _ _ hq);simp only[Option.bind_some];split
   · rename_i hx
     have hg:=rem_is hx (Ext.refl (pGo q.2));exact ih (.args _) _ trivial (by simp only[cost];omega)
   · exact⟨_,rfl⟩
  | call=>
   simp only[cost] at h;simp only[run];have he:=rem_ext (ts:=ts) (((Ext.refl s).named (ts:=ts)).must (ts:=ts) [40]);split
   · obtain⟨q,hq⟩:=ih (.args []) (pMust ts [40] (pNamed ts s)) trivial (by simp only[cost];omega)
     rw[hq];exact⟨_,rfl⟩
   · exact⟨_,rfl⟩
  | right=>
   simp only[cost] at h;simp only[run];split
   · exact⟨_,rfl⟩
   · split
     · have he:=rem_ext (ts:=ts) (((Ext.refl s).go).must (ts:=ts) [40])
       obtain⟨q,hq⟩:=ih (.chain 0) (pMust ts [40] (pGo s)) (by simp[okTask]) (by simp only[cost];omega);rw[hq];exact⟨_,rfl⟩
     · split
       · exact ih .call s trivial (by simp only[cost];omega)
       · exact ih (.chain 0) s (by simp[okTask]) (by simp only[cost];omega)
  | block=>
   simp only[cost] at h;simp only[run];split
   · have he:=rem_ext (ts:=ts) (((Ext.refl s).down (ts:=ts)).must (ts:=ts) [123])
     obtain⟨q,hq⟩:=ih (.stmts []) (pMust ts [123] (pDown ts s)) trivial (by simp only[cost];omega);rw[hq];exact⟨_,rfl⟩
   · exact⟨_,rfl⟩
  | stmts l=>
   simp only[cost] at h;simp only[run];split
   · exact⟨_,rfl⟩
   · rename_i h0
     have h0:s.e=0:=by simpa using h0
     split
     · exact⟨_,rfl⟩
     · obtain⟨q,hq⟩:=ih .stmt s trivial (by simp only[cost];omega)
       rw[hq];simp only[Option.bind_some];by_cases hq0:q.2.e=0
       · have hg:=(stmt_goes hq h0).resolve_left (fun x=>x hq0)
         exact ih (.stmts _) _ trivial (by simp only[cost];omega)
       · cases n with
         | zero=>omega
         | succ n=>exact⟨(l++q.1,q.2),by simp only[run];rw[if_pos hq0]⟩
  | named line=>
   simp only[cost] at h;simp only[run];split
   · obtain⟨q,hq⟩:=ih .call s trivial (by simp only[cost];omega)
     rw[hq];exact⟨_,rfl⟩
   · split
     · have he:=rem_ext (ts:=ts) ((((Ext.refl s).named (ts:=ts)).down (ts:=ts)).must (ts:=ts) [91])
       obtain⟨q,hq⟩:=ih (.chain 0) (pMust ts [91] (pDown ts (pNamed ts s))) (by simp[okTask]) (by simp only[cost];omega);rw[hq];have he2:=rem_ext (ts:=ts) (((run_ext _ _ _ _ hq).must (ts:=ts) [93]).up.must (ts:=ts) [61]);obtain⟨q2,hq2⟩:=ih (.chain 0) (pMust ts [61] (pUp (pMust ts [93] q.2))) (by simp[okTask]) (by simp only[cost];omega);simp only[Option.bind_some];rw[hq2];exact⟨_,rfl⟩
     · have he:=rem_ext (ts:=ts) (((Ext.refl s).named (ts:=ts)).must (ts:=ts) [61])
       obtain⟨q,hq⟩:=ih .right (pMust ts [61] (pNamed ts s)) trivial (by simp only[cost];omega);rw[hq];exact⟨_,rfl⟩
  | stmt=>
   simp only[cost] at h;simp only[run];have goes:∀x,x≠[]→pWord ts s=x→rem ts (pGo s)+16≤rem ts s:=fun x hx hw=>by
     obtain⟨h0,hk4⟩:=pWord_kind hx hw;exact rem_go h0 (tok_lt (by rw[hk4];decide)) (Ext.refl _)
   split
   · rename_i hw
     have hg:=goes _ (by decide) hw;have he:=rem_ext (ts:=ts) (((Ext.refl (pGo s)).named (ts:=ts)).must (ts:=ts) [61]);obtain⟨q,hq⟩:=ih .right (pMust ts [61] (pNamed ts (pGo s))) trivial (by simp only[cost];omega);rw[hq];exact⟨_,rfl⟩
   · split
     · rename_i hw
       have hg:=goes _ (by decide) hw;obtain⟨q,hq⟩:=ih (.chain 0) (pGo s) (by simp[okTask]) (by simp only[cost];omega);rw[hq];exact⟨_,rfl⟩
     · split
       · rename_i hw
         have hg:=goes _ (by decide) hw;obtain⟨q,hq⟩:=ih (.chain 0) (pGo s) (by simp[okTask]) (by simp only[cost];omega);rw[hq];have he:=rem_ext (ts:=ts) (run_ext _ _ _ _ hq);obtain⟨b,hb⟩:=ih .block q.2 trivial (by simp only[cost];omega);simp only[Option.bind_some];rw[hb];exact⟨_,rfl⟩
       · split
         · rename_i hw
           have hg:=goes _ (by decide) hw;obtain⟨q,hq⟩:=ih (.chain 0) (pGo s) (by simp[okTask]) (by simp only[cost];omega);rw[hq];have he:=rem_ext (ts:=ts) (run_ext _ _ _ _ hq);obtain⟨b,hb⟩:=ih .block q.2 trivial (by simp only[cost];omega);simp only[Option.bind_some];rw[hb];have he2:=rem_ext (ts:=ts) (run_ext _ _ _ _ hb);simp only[Option.bind_some];split
           · have he3:=rem_ext (ts:=ts) ((Ext.refl b.2).go)
             obtain⟨c,hc⟩:=ih .block (pGo b.2) trivial (by simp only[cost];omega);rw[hc];exact⟨_,rfl⟩
           · exact⟨_,rfl⟩
         · split
           · rename_i hw
             have hg:=goes _ (by decide) hw;split
             · exact⟨_,rfl⟩
             · obtain⟨q,hq⟩:=ih (.chain 0) (pGo s) (by simp[okTask]) (by simp only[cost];omega)
               rw[hq];exact⟨_,rfl⟩
           · exact ih (.named _) s trivial (by simp only[cost];omega)
end
theorem TyNode:SlTy Tryz.prog 23 50 5 64 (.agg #[.int .i64 0,.int .i64 0,.int .i64 0,.string ⟨#[]⟩,.slice none 0 0]):=SlTy.mk' (by kernel_rfl) (by kernel_rfl) rfl (by decide)
def NodeTy (w:World) (k:Nat):Prop:=∃cs f,w.heap[k]?=some (.cells cs 50 f)
def FrR (g:Nat) (w w':World):Prop:=Fr (fun k=>k=g∨(g<k∧NodeTy w k)) w w'
theorem FrR.trans {g:Nat}{w w1 w2:World} (h:FrR g w w1) (h2:FrR g w1 w2):FrR g w w2:=by
 refine Fr.trans h h2 (fun _ _ x=>x) (fun k hk hM=>?_);rcases hM with rfl|⟨hgk,cs,f,hc⟩
 · exact .inl rfl
 · by_cases hn:k=g∨(g<k∧NodeTy w k)
   · exact hn
   · have:=h.block k hk hn
     exact .inr ⟨hgk,cs,f,by rw[←this];exact hc⟩
theorem FrR.no {g:Nat}{w w1:World} (h:Fr nob w w1):FrR g w w1:=Fr.ofNo h
theorem FrR.blk {g b t:Nat}{cs:Array Value}{w w':World} (h:FrR g w w') (hb:Blk w b t cs) (h1:b≠g) (h2:t≠50):Blk w' b t cs:=by
 refine hb.fr h ?_;rintro (e|⟨_,cs',f,hc⟩)
 · exact h1 e
 · unfold Blk at hb
   rw[hb] at hc;injection hc with hc;injection hc with _ ht;exact h2 ht
def nodeCells (n:NodeM) (lv:Value):List Value:=[.int .i64 n.kind,.int .i64 n.line,.int .i64 n.n,.string (bs n.name),lv]
def nodesCells:List NodeM→List Value→List Value
 | n :: ns,v :: vs=>nodeCells n v++nodesCells ns vs
 | _,_=>[]
theorem nodesCells_snoc:∀(ns:List NodeM) (vs:List Value) (n:NodeM) (v:Value),ns.length=vs.length→nodesCells (ns++[n]) (vs++[v])=nodesCells ns vs++nodeCells n v
 | [],[],n,v,_=>by simp[nodesCells]
 | [],_ :: _,_,_,h=>by simp at h
 | _ :: _,[],_,_,h=>by simp at h
 | a :: ns,b :: vs,n,v,h=>by
  rw[List.cons_append,List.cons_append,nodesCells,nodesCells_snoc ns vs n v (by simpa using h),nodesCells,List.append_assoc]
def ints (l:List Nat):List Value:=l.map fun (x:Nat)=>Value.int .i64 (x:Int)
def Below2 (w:World):List NodeM→List Value→Prop
 | [],[]=>True
 | n :: ns,v :: vs=>Own w 3 1 v n.l.length (ints n.l)∧Below2 w ns vs
 | _,_=>False
structure ToksOk (ts:List Tok):Prop where
 pos:0<ts.length
 few:ts.length≤1000
 at_:∀t∈ts,t.kind≤5∧t.place≤1000
 last:(ts.getD (ts.length - 1) tok0).kind=0
 nums:∀t∈ts,t.kind=1→t.text≠[]∧allDigits t.text∧digitsVal 0 t.text≤9223372036854775807
 short:∀t∈ts,t.text.length≤1000
structure PSOk (ts:List Tok) (s:PS):Prop where
 room:s.i<ts.length
 deep:s.deep≤17
 fine:s.e=0→s.deep≤16
 err:s.e≤21
 place:s.place≤1000
structure Rdr (src:ByteArray) (tb tc:Nat) (ts:List Tok) (g:Nat) (lvs:List Value) (w:World) (s:PS):Prop where
 cells:∃nv,Blk w g 88 #[.string src,.slice (some ⟨tb,0,none⟩) ts.length tc,.int .i64 s.i,nv,.int .i64 s.deep,.int .i64 s.e,.int .i64 s.place]∧Own w 50 5 nv s.nodes.length (nodesCells s.nodes lvs)
 below:Below2 w s.nodes lvs
 same:s.nodes.length=lvs.length
 toks:∃b0,Toks b0 w (.slice (some ⟨tb,0,none⟩) ts.length tc) ts
 newer:∀nv,w.cell? ⟨g,3,none⟩=some nv→∀k,blk nv=some k→g<k
section
variable {src:ByteArray}{tb tc:Nat}{ts:List Tok}{g:Nat}{lvs:List Value}{w w':World}{s:PS}
theorem Below2.no:∀{ns:List NodeM}{vs:List Value},Below2 w ns vs→Fr nob w w'→Below2 w' ns vs
 | [],[],_,_=>trivial
 | [],_ :: _,h,_=>h.elim
 | _ :: _,[],h,_=>h.elim
 | _ :: _,_ :: _,h,f=>⟨h.1.fr f (fun _ _ x=>x),Below2.no h.2 f⟩
theorem Rdr.no (h:Rdr src tb tc ts g lvs w s) (f:Fr nob w w'):Rdr src tb tc ts g lvs w' s:=by
 obtain⟨nv,hb,ho⟩:=h.cells;obtain⟨b0,ht⟩:=h.toks;exact⟨⟨nv,hb.fr f (fun x=>x),ho.fr f (fun _ _ x=>x)⟩,h.below.no f,h.same,⟨b0,ht.no f⟩,fun nv h1=>h.newer nv (by rw[←f.cell (p:=⟨g,3,none⟩) hb.lt (fun x=>x)];exact h1)⟩
theorem Rdr.tok (h:Rdr src tb tc ts g lvs w s) (hk:PSOk ts s):ts[s.i]?=some (pTok ts s)∧tb<w.heap.size ∧
  w.cell? ⟨tb,s.i*3,none⟩=some (.int .i64 (pTok ts s).kind)∧w.cell? ⟨tb,s.i*3+1,none⟩=some (.string (bs (pTok ts s).text))∧w.cell? ⟨tb,s.i*3+2,none⟩=some (.int .i64 (pTok ts s).place):=by
 obtain⟨b0,ht⟩:=h.toks;have hi:ts[s.i]?=some (pTok ts s):=by
  unfold pTok;rw[List.getD,List.getElem?_eq_getElem hk.room];rfl
 obtain⟨g2,hg,_,hlt,hat⟩:=ht.some (by have:=hk.room;omega);injection hg with hg;injection hg with hg;subst hg;exact⟨hi,hlt,hat s.i _ hi⟩
end
set_option maxHeartbeats 1600000 in
set_option maxRecDepth 100000 in
theorem kind_any {src:ByteArray}{tb tc:Nat}{ts:List Tok}{g:Nat}{lvs:List Value}{w:World}{s:PS} (h:Rdr src tb tc ts g lvs w s) (hk:PSOk ts s) (k:Nat):
   Calls Tryz.prog 56 #[.pointer (some ⟨g,0,none⟩),.int .i64 k] w fun e w'=>e = .returned (.bool (pKind ts k s))∧Fr nob w w':=by
 obtain⟨nv,hb,ho⟩:=h.cells;obtain⟨hi,htb,x0,x1,x2⟩:=h.tok hk;have c1:=hb.cell 1;have c2:=hb.cell 2;have c5:=hb.cell 5;have hr:(s.i:Int)<(ts.length:Int):=by have:=hk.room;omega
 unfold pKind;clear x1 x2 hi ho hb h hk;simp at c1 c2 c5
 generalize (pTok ts s).kind=tk at *;by_cases he:s.e=0
 · have heb:((s.e:Int)==0)=true:=by rw[he];rfl
   rw[decide_eq_true he,Bool.true_and];clear he;by_cases h2:tk=k
   · have h2b:((tk:Int)==(k:Int))=true:=by rw[h2];simp
     rw[decide_eq_true h2];clear h2;go_enter Tryz.func56,Tryz.ntmps56;go_wp2
     go_quiet (fail)
     go_wp2
     go_ret;exact⟨rfl,(Fr.refl nob w).drewN _⟩
   · have h2b:((tk:Int)==(k:Int))=false:=beq_eq_false_iff_ne.2 (by omega)
     rw[decide_eq_false h2];clear h2;go_enter Tryz.func56,Tryz.ntmps56;go_wp2
     go_quiet (fail)
     go_wp2
     go_ret;exact⟨rfl,(Fr.refl nob w).drewN _⟩
 · have heb:((s.e:Int)==0)=false:=beq_eq_false_iff_ne.2 (by omega)
   rw[decide_eq_false he,Bool.false_and];clear he;go_enter Tryz.func56,Tryz.ntmps56;go_wp2
   go_quiet (fail)
   go_wp2
   go_ret;exact⟨rfl,(Fr.refl nob w).drewN _⟩
section
variable {src:ByteArray}{tb tc:Nat}{ts:List Tok}{g:Nat}{lvs:List Value}{w w':World}{s:PS}
theorem Below2.one {cs:Array Value}{t:TypeId} (hb:Blk w g t cs) (ht:3≠t):∀{ns:List NodeM}{vs:List Value},Below2 w ns vs→Fr (oneb g) w w'→Below2 w' ns vs
 | [],[],_,_=>trivial
 | [],_ :: _,h,_=>h.elim
 | _ :: _,[],h,_=>h.elim
 | _ :: _,_ :: _,h,f=>⟨h.1.fr f (fun b hb' hm=>h.1.blk_ne hb ht (by rw[hb',show b=g from hm])),Below2.one hb ht h.2 f⟩
theorem Rdr.set {cs:Array Value}{nv:Value} (h:Rdr src tb tc ts g lvs w s) (hb:Blk w g 88 cs) (j:Nat) (u:Value){s':PS} (hn:s'.nodes=s.nodes)
   (hc:∀nv,cs = #[.string src,.slice (some ⟨tb,0,none⟩) ts.length tc,.int .i64 s.i,nv,.int .i64 s.deep,.int .i64 s.e,.int .i64 s.place]→cs.setIfInBounds j u = #[.string src,.slice (some ⟨tb,0,none⟩) ts.length tc,.int .i64 s'.i,nv,.int .i64 s'.deep,.int .i64 s'.e,.int .i64 s'.place]):
   Rdr src tb tc ts g lvs (w.setCell ⟨g,j,none⟩ u) s':=by
 obtain⟨nv,hb2,ho⟩:=h.cells;obtain⟨b0,ht⟩:=h.toks;have e0:=hb.symm.trans hb2;injection e0 with e0;injection e0 with e _ _;have f:Fr (oneb g) w (w.setCell ⟨g,j,none⟩ u):=(Fr.refl _ w).setCell _ _ (fun _=>rfl);refine⟨⟨nv,?_,?_⟩,?_,by rw[hn];exact h.same,⟨b0,ht.own.fr f (fun b hb' hm=>ht.own.blk_ne hb (by decide) (by rw[hb',show b=g from hm])),ht.new⟩,fun nv2 h1=>?_⟩
 · have:=hb.setCell j u
   rwa [hc nv e] at this
 · rw[hn]
   exact ho.fr f (fun b hb' hm=>ho.blk_ne hb (by decide) (by rw[hb',show b=g from hm]))
 · rw[hn]
   exact h.below.one hb (by decide) f
 · have hbs:=hb.setCell j u
   rw[hc nv e] at hbs;have h3:=hbs.cell 3;rw[h3] at h1;injection h1 with h1;subst h1;exact h.newer _ (hb2.cell 3)
theorem Rdr.blk (h:Rdr src tb tc ts g lvs w s):∃nv,Blk w g 88 #[.string src,.slice (some ⟨tb,0,none⟩) ts.length tc,.int .i64 s.i,nv,.int .i64 s.deep,.int .i64 s.e,.int .i64 s.place]:=by
 obtain⟨nv,hb,_⟩:=h.cells;exact⟨nv,hb⟩
theorem Rdr.setI (h:Rdr src tb tc ts g lvs w s) (x:Nat):Rdr src tb tc ts g lvs (w.setCell ⟨g,2,none⟩ (.int .i64 x)) { s with i:=x }:=by
 obtain⟨nv,hb⟩:=h.blk;exact h.set (nv:=nv) hb 2 _ rfl (fun nv2 e=>by rw[e];rfl)
theorem Rdr.setD (h:Rdr src tb tc ts g lvs w s) (x:Nat):Rdr src tb tc ts g lvs (w.setCell ⟨g,4,none⟩ (.int .i64 x)) { s with deep:=x }:=by
 obtain⟨nv,hb⟩:=h.blk;exact h.set (nv:=nv) hb 4 _ rfl (fun nv2 e=>by rw[e];rfl)
theorem Rdr.setE (h:Rdr src tb tc ts g lvs w s) (x:Nat):Rdr src tb tc ts g lvs (w.setCell ⟨g,5,none⟩ (.int .i64 x)) { s with e:=x }:=by
 obtain⟨nv,hb⟩:=h.blk;exact h.set (nv:=nv) hb 5 _ rfl (fun nv2 e=>by rw[e];rfl)
theorem Rdr.setP (h:Rdr src tb tc ts g lvs w s) (x:Nat):Rdr src tb tc ts g lvs (w.setCell ⟨g,6,none⟩ (.int .i64 x)) { s with place:=x }:=by
 obtain⟨nv,hb⟩:=h.blk;exact h.set (nv:=nv) hb 6 _ rfl (fun nv2 e=>by rw[e];rfl)
end
set_option maxHeartbeats 1600000 in
set_option maxRecDepth 100000 in
theorem fails_any {src:ByteArray}{tb tc:Nat}{ts:List Tok}{g:Nat}{lvs:List Value}{w:World}{s:PS} (h:Rdr src tb tc ts g lvs w s) (hk:PSOk ts s) (k:Nat):
   Calls Tryz.prog 134 #[.pointer (some ⟨g,0,none⟩),.int .i64 k] w fun e w'=>e = .returned (.tuple #[])∧Rdr src tb tc ts g lvs w' (pFail ts k s)∧FrR g w w':=by
 obtain⟨nv,hb⟩:=h.blk;obtain⟨hi,htb,x0,x1,x2⟩:=h.tok hk;have H:=hid h;have hg:=hb.lt;have c1:=hb.cell 1;have c2:=hb.cell 2;have c5:=hb.cell 5;have c6:=hb.cell 6;have f5:=hb.frozen 5;have f6:=hb.frozen 6;have hr:(s.i:Int)<(ts.length:Int):=by have:=hk.room;omega
 have htg:tb≠g:=by
   obtain⟨b0,ht⟩:=h.toks;intro e;exact ht.own.blk_ne hb (by decide) (by simp[Go.Proofs.YtlbjicjinnnboaaGreatDoor.blk,e];have:=ht.own.cap;obtain⟨A,c,e1,h1,_⟩:=this;injection e1 with _ _ e3;have:=hk.room;omega)
 simp at c1 c2 c5 c6
 by_cases he:s.e=0
 · have heb:((s.e:Int)==0)=true:=by rw[he];rfl
   have e1:pFail ts k s={ s with e:=k,place:=(pTok ts s).place }:=by unfold pFail;rw[if_pos he]
   rw[e1];clear e1 he hi hb h hk x0 x1;generalize (pTok ts s).place=tp at *;go_enter Tryz.func134,Tryz.ntmps134;have n1:(⟨g,5,none⟩:Addr)≠⟨g,1,none⟩:=by simp
   have n2:(⟨g,5,none⟩:Addr)≠⟨g,2,none⟩:=by simp
   have n3:(⟨g,5,none⟩:Addr)≠⟨g,6,none⟩:=by simp
   have n4:(⟨g,5,none⟩:Addr)≠⟨tb,s.i*3+2,none⟩:=by intro e;injection e with e;exact htg e.symm
   have d1:=(World.cell?_setCell_other w ⟨g,5,none⟩ ⟨g,1,none⟩ (.int .i64 k) n1).trans c1;have d2:=(World.cell?_setCell_other w ⟨g,5,none⟩ ⟨g,2,none⟩ (.int .i64 k) n2).trans c2;have d6:=(World.cell?_setCell_other w ⟨g,5,none⟩ ⟨g,6,none⟩ (.int .i64 k) n3).trans c6;have dx:=(World.cell?_setCell_other w ⟨g,5,none⟩ ⟨tb,s.i*3+2,none⟩ (.int .i64 k) n4).trans x2;have HB:=H.out.setE k;have G1:Fr (oneb g) w (w.setCell ⟨g,5,none⟩ (.int .i64 k)):=(Fr.refl _ w).setCell _ _ (fun _=>rfl);have FG:=hid G1;have fz:(w.setCell ⟨g,5,none⟩ (.int .i64 k)).frozen? ⟨g,6,none⟩=false:=by
    obtain⟨nv2,hb2⟩:=HB.blk;exact hb2.frozen 6
   have HB2:=hid HB;clear n1 n2 n3 n4 G1 HB;go_wp2
   clear c1 c2 c5 c6 x2 f5 f6;generalize w.setCell ⟨g,5,none⟩ (.int .i64 k)=w1 at *;have m1:(⟨g,6,none⟩:Addr)≠⟨g,1,none⟩:=by simp
   have m2:(⟨g,6,none⟩:Addr)≠⟨g,2,none⟩:=by simp
   have m4:(⟨g,6,none⟩:Addr)≠⟨tb,s.i*3+2,none⟩:=by intro e;injection e with e;exact htg e.symm
   have D1:=hid d1;have D2:=hid d2;have DX:=hid dx;have e1:=hid ((World.cell?_setCell_other w1.drew ⟨g,6,none⟩ ⟨g,1,none⟩ (.int .i64 tp) m1).trans d1);have e2:=hid ((World.cell?_setCell_other w1.drew ⟨g,6,none⟩ ⟨g,2,none⟩ (.int .i64 tp) m2).trans d2);have ex:=hid ((World.cell?_setCell_other w1.drew ⟨g,6,none⟩ ⟨tb,s.i*3+2,none⟩ (.int .i64 tp) m4).trans dx);clear m1 m2 m4;go_region_held3 (fun wx=>wx.cell? ⟨g,1,none⟩=some (.slice (some ⟨tb,0,none⟩) ts.length tc)∧wx.cell? ⟨g,2,none⟩=some (.int .i64 s.i)∧wx.cell? ⟨tb,s.i*3+2,none⟩=some (.int .i64 tp)) (first|exact⟨D1.out,D2.out,DX.out⟩|exact⟨e1.out,e2.out,ex.out⟩) (first|fail)
   refine bodyPost_end (results_none rfl _ _ _) rfl ⟨rfl,(HB2.out.setP tp).no ((Fr.refl nob _).drew),?_⟩;exact ((FG.out.setCell ⟨g,6,none⟩ _ (fun _=>rfl)).drew).mono (fun k _ e=> .inl e)
 · have heb:((s.e:Int)==0)=false:=beq_eq_false_iff_ne.2 (by omega)
   have e1:pFail ts k s=s:=by unfold pFail;rw[if_neg he]
   rw[e1];clear e1 he hi hb h hk x0 x1 x2;go_enter Tryz.func134,Tryz.ntmps134;go_wp2
   refine bodyPost_end (results_none rfl _ _ _) rfl ⟨rfl,H.out,Fr.refl _ _⟩
section
variable {ts:List Tok}{s:PS}
theorem PSOk.fail (h:PSOk ts s) (ht:ToksOk ts) (k:Nat) (hk:k≤21) (hk0:1≤k):PSOk ts (pFail ts k s):=by
 unfold pFail;split
 · refine⟨h.room,h.deep,fun e=>?_,hk,?_⟩
   · exact absurd e (by show k≠0;omega)
   · have hm:pTok ts s∈ts:=by
      unfold pTok;rw[List.getD,List.getElem?_eq_getElem h.room];exact List.getElem_mem _
     exact (ht.at_ _ hm).2
 · exact h
theorem PSOk.go (h:PSOk ts s) (ht:ToksOk ts) (hk:(pTok ts s).kind≠0):PSOk ts (pGo s):=by
 refine⟨?_,h.deep,h.fine,h.err,h.place⟩;have hr:=h.room;by_cases e:s.i=ts.length - 1
 · refine absurd ?_ hk
   unfold pTok;rw[e];exact ht.last
 · show s.i+1<ts.length
   omega
theorem PSOk.must (h:PSOk ts s) (ht:ToksOk ts) (x:List UInt8):PSOk ts (pMust ts x s):=by
 unfold pMust;split
 · rename_i hx;exact h.go ht (pIs_kind hx).2.1
 · exact h.fail ht 20 (by decide) (by decide)
theorem PSOk.named (h:PSOk ts s) (ht:ToksOk ts):PSOk ts (pNamed ts s):=by
 unfold pNamed;split
 · rename_i hx;exact h.go ht (by rw[(pKind_kind hx).2];decide)
 · exact h.fail ht 20 (by decide) (by decide)
theorem PSOk.typed (h:PSOk ts s) (ht:ToksOk ts):PSOk ts (pTyped ts s):=by
 unfold pTyped;split
 · exact h.fail ht 20 (by decide) (by decide)
 · rename_i hx
   refine h.go ht ?_;unfold pType pWord at hx;split at hx
   · rename_i hk;rw[(pKind_kind hk).2];decide
   · exact absurd rfl hx
theorem PSOk.down (h:PSOk ts s) (ht:ToksOk ts) (h0:s.e=0):PSOk ts (pDown ts s):=by
 have hd:=h.fine h0;unfold pDown;by_cases h16:16≤s.deep
 · have hf:=h.fail ht 21 (by decide) (by decide)
   simp only;rw[if_pos h16];have he:(pFail ts 21 s).e=21:=by unfold pFail;rw[if_pos h0]
   have hdd:(pFail ts 21 s).deep=s.deep:=by unfold pFail;rw[if_pos h0]
   exact⟨hf.room,by show (pFail ts 21 s).deep+1≤17;omega,fun e=>absurd e (by show (pFail ts 21 s).e≠0;omega),hf.err,hf.place⟩
 · simp only
   rw[if_neg h16];exact⟨h.room,by show s.deep+1≤17;omega,fun _=>by show s.deep+1≤16;omega,h.err,h.place⟩
theorem PSOk.up (h:PSOk ts s):PSOk ts (pUp s):=⟨h.room,by show s.deep - 1≤17;have:=h.deep;omega,fun e=>by show s.deep - 1≤16;have:=h.fine e;omega,h.err,h.place⟩
theorem PSOk.put (h:PSOk ts s) (k line n:Nat) (name:List UInt8) (l:List Nat):PSOk ts (pPut k line n name l s).2:=⟨h.room,h.deep,h.fine,h.err,h.place⟩
end
theorem ToksOk.i_le {ts:List Tok}{s:PS} (ht:ToksOk ts) (h:PSOk ts s):(s.i:Int)≤1000:=by have:=ht.few;have:=h.room;omega
theorem Rdr.tokAt {src:ByteArray}{tb tc:Nat}{ts:List Tok}{g:Nat}{lvs:List Value}{w:World}{s:PS} (h:Rdr src tb tc ts g lvs w s){i:Nat}{t:Tok} (hi:ts[i]?=some t):
  w.cell? ⟨tb,i*3,none⟩=some (.int .i64 t.kind)∧w.cell? ⟨tb,i*3+1,none⟩=some (.string (bs t.text))∧w.cell? ⟨tb,i*3+2,none⟩=some (.int .i64 t.place):=by
 obtain⟨b0,ht⟩:=h.toks;obtain⟨g2,hg,_,hlt,hat⟩:=ht.some (by have:=(List.getElem?_eq_some_iff.1 hi).1;omega);injection hg with hg;injection hg with hg;subst hg;exact hat i _ hi
set_option maxHeartbeats 1600000 in
set_option maxRecDepth 100000 in
theorem name_any {src:ByteArray}{tb tc:Nat}{ts:List Tok}{g:Nat}{lvs:List Value}{w:World}{s:PS} (h:Rdr src tb tc ts g lvs w s) (hk:PSOk ts s) (ht:ToksOk ts):
  Calls Tryz.prog 90 #[.pointer (some ⟨g,0,none⟩)] w fun e w'=>e = .returned (.string (bs (pName ts s)))∧Rdr src tb tc ts g lvs w' (pNamed ts s)∧FrR g w w':=by
 have H:=hid h;have HK:=hid hk;have hi:=ht.i_le hk;obtain⟨hti,_⟩:=h.tok hk;have HTI:=hid hti;have hr:(s.i:Int)<(ts.length:Int):=by have:=hk.room;omega
 have HI:=hid (kind_any h hk 3);clear h hk ht hti;unfold pNamed pName;generalize pKind ts 3 s=b at *;cases b with
 | true=>
  go_enter Tryz.func90,Tryz.ntmps90;go_upto_region 6 with (go_at_call 56;go_must (refine HI.out.mono ?_;rintro e w1 ⟨rfl,hf⟩;have F1:=hid hf;have H1:=hid (H.out.no hf);(obtain⟨nv,hb⟩:=H1.out.blk);have c2:=hb.cell 2;have f2:=hb.frozen 2;simp at c2;clear hf hb));have H2:=hid (H1.out.setI (s.i+1));have F2:=hid (show FrR g w1 (w1.setCell ⟨g,2,none⟩ (.int .i64 ((s.i+1:Nat):Int))) from ((Fr.refl (oneb g) w1).setCell ⟨g,2,none⟩ _ (fun _=>rfl)).mono (fun k _ e=> .inl e));rw[show ((s.i+1:Nat):Int)=(s.i:Int)+1 by omega] at H2 F2;clear c2 f2;generalize w1.setCell ⟨g,2,none⟩ (.int .i64 ((s.i:Int)+1))=w2 at *;obtain⟨nv2,hb2⟩:=H2.out.blk;have c1:=hb2.cell 1;have c2:=hb2.cell 2;obtain⟨_,x1,_⟩:=H2.out.tokAt HTI.out;simp at c1 c2
  clear hb2;go_quiet (fail)
  go_wp2
  go_ret;exact⟨rfl,H2.out.no ((Fr.refl nob _).drewN _),(FrR.trans (FrR.no F1.out) F2.out).trans (FrR.no ((Fr.refl nob _).drewN _))⟩
 | false=>
  go_enter Tryz.func90,Tryz.ntmps90;go_wp2_with (first|(go_at_call 56;go_must (refine HI.out.mono ?_;rintro e w1 ⟨rfl,hf⟩;have F1:=hid hf;have H1:=hid (H.out.no hf);clear hf))|(go_at_call 134;go_must (refine (fails_any H1.out HK.out 20).mono ?_;rintro e w2 ⟨rfl,hr,hf2⟩;have H2:=hid hr;have F2:=hid hf2;clear hr hf2)))
  go_ret;exact⟨rfl,H2.out,FrR.trans (FrR.no F1.out) F2.out⟩
end Go.Proofs.YtlbjicjinnnboaaGreatDoor
