/- MkF: PAll, TrT, PWf2, PSz2, CkModel. -/
import Derived.Test.YtlbjicjinnnboaaGreatDoorMkE
set_option linter.unusedVariables false
set_option linter.unusedSimpArgs false
/- The parser: All. -/
namespace Go.Proofs.YtlbjicjinnnboaaGreatDoor
open Go.RowKit
section
variable {src:ByteArray}{tb tc b0:Nat}{ts:List Tok}{w0:World}
end
theorem fr_end {g:Nat}{w w1 w2:World}{o:Obj} (h1:Fr nob (w.alloc o) w1) (h2:FrR g w1 w2) (hg:w.heap.size≤g):Fr nob w w2:=by
 refine Fr.trans (((Fr.refl nob w).alloc o).tr h1) h2 (fun _ _ x=>x) (fun k hk hm=>?_);rcases hm with e|⟨e,_⟩<;>omega
theorem TreeAt.far {B:Nat}{w w':World}{nv fv:Value}{lvs pvs:List Value}{ns:List NodeM}{fs:List FuncM} (h:TreeAt B w nv fv lvs pvs ns fs){M:Nat→Prop} (f:Fr M w w') (hM:∀k,M k→∃cs,Blk w k 26 cs):TreeAt B w' nv fv lvs pvs ns fs:=by
 have farO:∀{e size n:Nat} {v:Value} {xs:List Value},Own w e size v n xs→e≠26→∀k,blk v=some k→¬M k:=fun ho hne k hk hm=>by
  obtain⟨cs,hc⟩:=hM k hm;exact ho.blk_ne hc hne hk
 have hbel:∀{ns:List NodeM} {vs:List Value},Below2 w ns vs→Below2 w' ns vs:=by
  intro ns;induction ns with
  | nil=>intro vs hb;cases vs with
   | nil=>trivial
   | cons _ _=>exact hb.elim
  | cons n ns ih=>intro vs hb;cases vs with
   | nil=>exact hb.elim
   | cons u vs=>exact⟨hb.1.fr f (farO hb.1 (by decide)),ih hb.2⟩
 exact⟨h.nodes.fr f (farO h.nodes (by decide)),hbel h.below,h.same,h.fns.fr f (farO h.fns (by decide)),h.pars.to f (fun k cs hk hm=>by
  obtain⟨cs2,hc⟩:=hM k hm;exact hk.ne hc (by decide) rfl),h.samef,h.newn,h.newf⟩
theorem fnCells_all:∀{fs:List FuncM}{vs:List Value}{j:Nat}{f:FuncM}{v:Value},fs[j]?=some f→vs[j]?=some v→∀i u,(fnCell f v)[i]?=some u→(fnCells fs vs)[j*5+i]?=some u
 | [],_,_,_,_,h,_=>by simp at h
 | _ :: _,[],_,_,_,_,h=>by simp at h
 | a :: fs,b :: vs,0,f,v,h,h2=>by
  simp at h h2;subst h;subst h2
  intro i u hu;rw[fnCells,List.getElem?_append_left (by have:=(List.getElem?_eq_some_iff.1 hu).1;omega),Nat.zero_mul,Nat.zero_add];exact hu
 | a :: fs,b :: vs,j+1,f,v,h,h2=>by
  intro i u hu;have:=fnCells_all (fs:=fs) (vs:=vs) (j:=j) (by simpa using h) (by simpa using h2) i u hu;rw[fnCells,List.getElem?_append_right (by simp[fnCell];omega),show (fnCell a b).length=5 from rfl,show (j+1)*5+i - 5=j*5+i by omega];exact this
theorem paramCells_get:∀{l:List (List UInt8×Nat)}{i:Nat}{q:List UInt8×Nat},l[i]?=some q→(paramCells l)[i*2]?=some (.string (bs q.1))∧(paramCells l)[i*2+1]?=some (.int .i64 (q.2:Nat))
 | [],_,_,h=>by simp at h
 | a :: l,0,q,h=>by simp at h;subst h;exact⟨rfl,rfl⟩
 | a :: l,i+1,q,h=>by
  have ih:=paramCells_get (l:=l) (i:=i) (by simpa using h);have e:paramCells (a :: l) = .string (bs a.1) :: .int .i64 (a.2:Nat) :: paramCells l:=rfl;rw[e,show (i+1)*2=i*2+1+1 by omega,List.getElem?_cons_succ,List.getElem?_cons_succ,show i*2+1+1+1=(i*2+1)+1+1 by omega,List.getElem?_cons_succ,List.getElem?_cons_succ];exact ih
theorem nodesCells_get:∀{ns:List NodeM}{vs:List Value}{j:Nat}{nd:NodeM}{v:Value},ns[j]?=some nd→vs[j]?=some v→∀i u,(nodeCells nd v)[i]?=some u→(nodesCells ns vs)[j*5+i]?=some u
 | [],_,_,_,_,h,_=>by simp at h
 | _ :: _,[],_,_,_,_,h=>by simp at h
 | a :: ns,b :: vs,0,nd,v,h,h2=>by
  simp at h h2;subst h;subst h2
  intro i u hu;rw[nodesCells,List.getElem?_append_left (by have:=(List.getElem?_eq_some_iff.1 hu).1;omega),Nat.zero_mul,Nat.zero_add];exact hu
 | a :: ns,b :: vs,j+1,nd,v,h,h2=>by
  intro i u hu;have:=nodesCells_get (ns:=ns) (vs:=vs) (j:=j) (by simpa using h) (by simpa using h2) i u hu;rw[nodesCells,List.getElem?_append_right (by simp[nodeCells];omega),show (nodeCells a b).length=5 from rfl,show (j+1)*5+i - 5=j*5+i by omega];exact this
theorem Below2.get {w:World}:∀{ns:List NodeM}{vs:List Value}{j:Nat}{nd:NodeM}{v:Value},Below2 w ns vs→ns[j]?=some nd→vs[j]?=some v→Own w 3 1 v nd.l.length (ints nd.l)
 | [],_,_,_,_,_,h,_=>by simp at h
 | _ :: _,[],_,_,_,_,_,h=>by simp at h
 | a :: ns,b :: vs,0,nd,v,hp,h,h2=>by simp at h h2;subst h;subst h2;exact hp.1
 | a :: ns,b :: vs,j+1,nd,v,hp,h,h2=>Below2.get hp.2 (by simpa using h) (by simpa using h2)
section
variable {g:Nat}{lvs pvs:List Value}{ns:List NodeM}{fs:List FuncM}{w0 w w':World}{out:List UInt8}{NA FA:Option Addr}{NC FC:Nat}
theorem TreeAt.node {B:Nat}{nv fv:Value} (h:TreeAt B w nv fv lvs pvs ns fs){x:Nat}{nd:NodeM} (hx:ns[x]?=some nd):∃nb c lv,nv = .slice (some ⟨nb,0,none⟩) ns.length c∧ns.length≤c∧Own w 3 1 lv nd.l.length (ints nd.l) ∧
  w.cell? ⟨nb,x*5,none⟩=some (.int .i64 nd.kind)∧w.cell? ⟨nb,x*5+1,none⟩=some (.int .i64 nd.line)∧w.cell? ⟨nb,x*5+2,none⟩=some (.int .i64 nd.n)∧w.cell? ⟨nb,x*5+3,none⟩=some (.string (bs nd.name))∧w.cell? ⟨nb,x*5+4,none⟩=some lv:=by
 have hlt:=(List.getElem?_eq_some_iff.1 hx).1;obtain⟨A,c,rfl,hc,_⟩:=h.nodes.cap;obtain⟨nb,rfl,hcell⟩:=h.nodes.some (by omega);obtain⟨lv,hlv⟩:∃lv,lvs[x]?=some lv:=⟨_,List.getElem?_eq_getElem (by have:=h.same;omega)⟩;have key:=nodesCells_get hx hlv;exact⟨nb,c,lv,rfl,hc,h.below.get hx hlv,hcell _ _ (key 0 _ rfl),hcell _ _ (key 1 _ rfl),hcell _ _ (key 2 _ rfl),hcell _ _ (key 3 _ rfl),hcell _ _ (key 4 _ rfl)⟩
end
section
variable {nv fv:Value}{lvs pvs:List Value}{ns:List NodeM}{fs:List FuncM}{w w':World}
theorem TreeAt.no (h:TreeAt 0 w nv fv lvs pvs ns fs) (f:Fr nob w w'):TreeAt 0 w' nv fv lvs pvs ns fs:=
 ⟨h.nodes.fr f (fun _ _ x=>x),h.below.no f,h.same,h.fns.fr f (fun _ _ x=>x),h.pars.to f (fun _ _ _ x=>x),h.samef,h.newn,h.newf⟩
theorem TreeAt.node3 {B nb c:Nat}{fv:Value} (h:TreeAt B w (.slice (some ⟨nb,0,none⟩) ns.length c) fv lvs pvs ns fs){x:Nat}{nd:NodeM} (hx:ns[x]?=some nd){lv:Value} (hlv:lvs[x]?=some lv):Own w 3 1 lv nd.l.length (ints nd.l) ∧
  w.cell? ⟨nb,x*5,none⟩=some (.int .i64 nd.kind)∧w.cell? ⟨nb,x*5+1,none⟩=some (.int .i64 nd.line)∧w.cell? ⟨nb,x*5+2,none⟩=some (.int .i64 nd.n)∧w.cell? ⟨nb,x*5+3,none⟩=some (.string (bs nd.name))∧w.cell? ⟨nb,x*5+4,none⟩=some lv:=by
 have hlt:=(List.getElem?_eq_some_iff.1 hx).1;obtain⟨nb',e,hcell⟩:=h.nodes.some (by omega);injection e with e;injection e with e;subst e;have key:=nodesCells_get hx hlv;exact⟨h.below.get hx hlv,hcell _ _ (key 0 _ rfl),hcell _ _ (key 1 _ rfl),hcell _ _ (key 2 _ rfl),hcell _ _ (key 3 _ rfl),hcell _ _ (key 4 _ rfl)⟩
theorem TreeAt.fn {B fb c:Nat}{w:World} (h:TreeAt B w nv (.slice (some ⟨fb,0,none⟩) fs.length c) lvs pvs ns fs){j:Nat}{f:FuncM} (hf:fs[j]?=some f):∃pv,Own w 101 2 pv f.params.length (paramCells f.params) ∧
  w.cell? ⟨fb,j*5,none⟩=some (.string (bs f.name))∧w.cell? ⟨fb,j*5+1,none⟩=some (.int .i64 f.line)∧w.cell? ⟨fb,j*5+2,none⟩=some pv∧w.cell? ⟨fb,j*5+3,none⟩=some (.int .i64 f.ret)∧w.cell? ⟨fb,j*5+4,none⟩=some (.int .i64 f.body):=by
 have hlt:=(List.getElem?_eq_some_iff.1 hf).1;obtain⟨fb',e,hcell⟩:=h.fns.some (by omega);injection e with e;injection e with e;subst e;obtain⟨pv,hpv⟩:∃pv,pvs[j]?=some pv:=⟨_,List.getElem?_eq_getElem (by have:=h.samef;omega)⟩;have key:=fnCells_all hf hpv;exact⟨pv,h.pars.get hf hpv,hcell _ _ (key 0 _ rfl),hcell _ _ (key 1 _ rfl),hcell _ _ (key 2 _ rfl),hcell _ _ (key 3 _ rfl),hcell _ _ (key 4 _ rfl)⟩
end
theorem TreeAt.zero {B:Nat}{w:World}{nv fv:Value}{lvs pvs:List Value}{ns:List NodeM}{fs:List FuncM} (h:TreeAt B w nv fv lvs pvs ns fs):TreeAt 0 w nv fv lvs pvs ns fs:=
 ⟨h.nodes,h.below,h.same,h.fns,h.pars,h.samef,fun _ _=>Nat.zero_le _,fun _ _=>Nat.zero_le _⟩
end Go.Proofs.YtlbjicjinnnboaaGreatDoor
/- The parser: what holds of the tree of a source. -/
namespace Go.Proofs.YtlbjicjinnnboaaGreatDoor
namespace Pw
open Go.RowKit
def clsE (k:Nat):Bool:=decide (1≤k) && decide (k≤9)
def clsR (k:Nat):Bool:=clsE k || (decide (19≤k) && decide (k≤21))
def clsS (k:Nat):Bool:=decide (10≤k) && decide (k≤17)
def clsB (k:Nat):Bool:=decide (k=18)
def clsC (k:Nat):Bool:=decide (k=21)
def allSigns:List (List UInt8):=[[124,124],[38,38],[60],[60,61],[61,61],[33,61],[43],[45],[42],[47],[37]]
def Kid (ns:List NodeM) (cls:Nat→Bool) (x:Nat):Prop:=∃c,ns[x]?=some c∧cls c.kind=true
inductive NodeOk (ns:List NodeM):NodeM→Prop where
 | int (line n:Nat) (h:n≤9223372036854775807):NodeOk ns ⟨1,line,n,[],[]⟩
 | bool (line n:Nat) (h:n≤1):NodeOk ns ⟨2,line,n,[],[]⟩
 | text (line:Nat) (x:List UInt8):NodeOk ns ⟨3,line,0,x,[]⟩
 | var (line:Nat) (x:List UInt8):NodeOk ns ⟨4,line,0,x,[]⟩
 | index (line:Nat) (x:List UInt8) (a:Nat) (h:Kid ns clsE a):NodeOk ns ⟨5,line,0,x,[a]⟩
 | len (line a:Nat) (h:Kid ns clsE a):NodeOk ns ⟨6,line,0,[],[a]⟩
 | neg (line a:Nat) (h:Kid ns clsE a):NodeOk ns ⟨7,line,0,[],[a]⟩
 | not (line a:Nat) (h:Kid ns clsE a):NodeOk ns ⟨8,line,0,[],[a]⟩
 | bin (line:Nat) (x:List UInt8) (a b:Nat) (hx:x∈allSigns) (h:Kid ns clsE a) (h2:Kid ns clsE b):NodeOk ns ⟨9,line,0,x,[a,b]⟩
 | let_ (line:Nat) (x:List UInt8) (a:Nat) (h:Kid ns clsR a):NodeOk ns ⟨10,line,0,x,[a]⟩
 | set (line:Nat) (x:List UInt8) (a:Nat) (h:Kid ns clsR a):NodeOk ns ⟨11,line,0,x,[a]⟩
 | put (line:Nat) (x:List UInt8) (a b:Nat) (h:Kid ns clsE a) (h2:Kid ns clsE b):NodeOk ns ⟨12,line,0,x,[a,b]⟩
 | do_ (line a:Nat) (h:Kid ns clsC a):NodeOk ns ⟨13,line,0,[],[a]⟩
 | print (line a:Nat) (h:Kid ns clsE a):NodeOk ns ⟨14,line,0,[],[a]⟩
 | if2 (line a b:Nat) (h:Kid ns clsE a) (h2:Kid ns clsB b):NodeOk ns ⟨15,line,0,[],[a,b]⟩
 | if3 (line a b c:Nat) (h:Kid ns clsE a) (h2:Kid ns clsB b) (h3:Kid ns clsB c):NodeOk ns ⟨15,line,0,[],[a,b,c]⟩
 | loop (line a b:Nat) (h:Kid ns clsE a) (h2:Kid ns clsB b):NodeOk ns ⟨16,line,0,[],[a,b]⟩
 | ret0 (line:Nat):NodeOk ns ⟨17,line,0,[],[]⟩
 | ret1 (line a:Nat) (h:Kid ns clsE a):NodeOk ns ⟨17,line,0,[],[a]⟩
 | block (line:Nat) (l:List Nat) (h:∀a∈l,Kid ns clsS a):NodeOk ns ⟨18,line,0,[],l⟩
 | input (line:Nat):NodeOk ns ⟨19,line,0,[],[]⟩
 | new (line a:Nat) (h:Kid ns clsE a):NodeOk ns ⟨20,line,0,[],[a]⟩
 | call (line:Nat) (x:List UInt8) (l:List Nat) (h:∀a∈l,Kid ns clsE a):NodeOk ns ⟨21,line,0,x,l⟩
def NodesOk (ns:List NodeM):Prop:=∀i nd,ns[i]?=some nd→NodeOk (ns.take i) nd
theorem NodesOk.snoc {ns:List NodeM}{nd:NodeM} (h:NodesOk ns) (hn:NodeOk ns nd):NodesOk (ns++[nd]):=by
 intro i x hx;by_cases hi:i<ns.length
 · rw[List.getElem?_append_left hi] at hx
   rw[List.take_append_of_le_length (by omega)];exact h i x hx
 · rw[List.getElem?_append_right (by omega)] at hx
   by_cases he:i=ns.length
   · subst he
     rw[Nat.sub_self] at hx;simp at hx
     subst hx;rw[List.take_left];exact hn
   · rw[List.getElem?_eq_none (by simp;omega)] at hx;cases hx
theorem Kid.mono {ns:List NodeM}{cls:Nat→Bool}{x:Nat} (h:Kid ns cls x) (y:List NodeM):Kid (ns++y) cls x:=by
 obtain⟨c,hc,hk⟩:=h;exact⟨c,by rw[List.getElem?_append_left (List.getElem?_eq_some_iff.1 hc).1];exact hc,hk⟩
theorem Kid.ext {s t:PS}{cls:Nat→Bool}{x:Nat} (h:Kid s.nodes cls x) (e:Ext s t):Kid t.nodes cls x:=by
 obtain⟨y,hy⟩:=e.nodes;rw[hy];exact h.mono y
theorem Kid.new (ns:List NodeM) (nd:NodeM){cls:Nat→Bool} (h:cls nd.kind=true):Kid (ns++[nd]) cls ns.length:=⟨nd,by simp,h⟩
theorem Kid.le {ns:List NodeM}{c1 c2:Nat→Bool}{x:Nat} (h:Kid ns c1 x) (hc:∀k,c1 k=true→c2 k=true):Kid ns c2 x:=by
 obtain⟨c,h1,h2⟩:=h;exact⟨c,h1,hc _ h2⟩
section
variable {src:List UInt8}{ts:List Tok}
def AllK (ns:List NodeM) (cls:Nat→Bool) (l:List Nat):Prop:=∀a∈l,Kid ns cls a
def preT (k:Task) (s:PS):Prop:=match k with
 | .more _ _ x=>Kid s.nodes clsE x
 | .args l=>AllK s.nodes clsE l
 | .stmts l=>AllK s.nodes clsS l
 | _=>True
def resT (k:Task):Nat→Bool:=match k with
 | .call=>clsC
 | .right=>clsR
 | .block=>clsB
 | .stmts _=>clsS
 | .named _=>clsS
 | .stmt=>clsS
 | _=>clsE
theorem put_wf {k line n:Nat}{name:List UInt8}{l:List Nat}{s:PS}{cls:Nat→Bool} (h:NodesOk s.nodes) (hn:NodeOk s.nodes ⟨k,line,n,name,l⟩) (hc:cls k=true):
  NodesOk (pPut k line n name l s).2.nodes∧AllK (pPut k line n name l s).2.nodes cls (pPut k line n name l s).1:=
 ⟨h.snoc hn,fun a ha=>by rw[List.mem_singleton.1 ha];exact Kid.new _ _ hc⟩
theorem nodes_fail (k:Nat) (s:PS):(pFail ts k s).nodes=s.nodes:=by unfold pFail;split<;>rfl
theorem nodes_must (x:List UInt8) (s:PS):(pMust ts x s).nodes=s.nodes:=by
 unfold pMust;split
 · rfl
 · exact nodes_fail 20 s
theorem nodes_named (s:PS):(pNamed ts s).nodes=s.nodes:=by
 unfold pNamed;split
 · rfl
 · exact nodes_fail 20 s
theorem nodes_typed (s:PS):(pTyped ts s).nodes=s.nodes:=by
 unfold pTyped;split
 · exact nodes_fail 20 s
 · rfl
theorem nodes_down (s:PS):(pDown ts s).nodes=s.nodes:=by
 unfold pDown;simp only;split
 · rw[nodes_fail]
 · rfl
theorem e_fail {k:Nat}{s:PS} (hk:k≠0) (h:(pFail ts k s).e=0):False:=by
 unfold pFail at h;split at h
 · exact hk h
 · rename_i h0;exact h0 h
theorem kid1 {ns:List NodeM}{cls:Nat→Bool}{l:List Nat} (h:AllK ns cls l) (h1:l=[oneOf l]):Kid ns cls (oneOf l):=h _ (by rw[h1];exact List.mem_singleton.2 rfl)
theorem next_sign {lv:Nat}{s:PS} (h:pNext ts lv s≠[]):pNext ts lv s∈allSigns:=by
 unfold pNext at h ⊢;cases hf:(signsL lv).find? fun x=>pIs ts x s with
 | none=>rw[hf] at h;simp at h
 | some x=>
  have hm:=List.mem_of_find?_eq_some hf
  show x∈allSigns
  unfold signsL at hm;have key:∀l:List (List UInt8),(∀y∈l,y∈allSigns)→x∈l→x∈allSigns:=fun l h1 h2=>h1 x h2
  split at hm<;>exact key _ (by decide) hm
theorem run_wf (ht:ToksOk ts):∀(n:Nat) (k:Task) (s:PS) (r:List Nat×PS),run src ts n k s=some r→PSOk ts s→r.2.e=0→NodesOk s.nodes→preT k s→NodesOk r.2.nodes∧AllK r.2.nodes (resT k) r.1:=by
 intro n;induction n with
 | zero=>intro k s r h;simp[run] at h
 | succ n ih=>
  intro k s r h hs he hw hp;have ih2:∀{k:Task} {s:PS} {r:List Nat×PS} {ns:List NodeM},run src ts n k s=some r→PSOk ts s→r.2.e=0→s.nodes=ns→NodesOk ns→preT k s→NodesOk r.2.nodes∧AllK r.2.nodes (resT k) r.1:=fun h1 h2 h3 h4 h5 h6=>ih _ _ _ h1 h2 h3 (by rw[h4];exact h5) h6
  cases k with
  | atom=>
   simp only[run] at h;split at h
   · rename_i h0
     simp only[Option.some.injEq] at h;subst h;exact absurd he h0
   · rename_i h0
     have h0:s.e=0:=by simpa using h0
     split at h
     · rename_i h1
       simp only[Option.some.injEq] at h;subst h;have hm:pTok ts s∈ts:=by
         unfold pTok;rw[List.getD,List.getElem?_eq_getElem hs.room];exact List.getElem_mem _
       exact put_wf hw (.int _ _ (ht.nums _ hm h1).2.2) rfl
     · split at h
       · simp only[Option.some.injEq] at h;subst h;exact put_wf hw (.text _ _) rfl
       · split at h
         · rename_i h3
           split at h
           · rename_i hx
             simp only[Option.map_eq_some_iff] at h;obtain⟨q,hq,rfl⟩:=h;have hq1:=run_one _ _ _ _ hq trivial;have e1:q.2.e=0:=((Ext.refl q.2).must (ts:=ts) [93]).e0 he;obtain⟨a,b⟩:=ih2 hq (((hs.goKind ht h3 (by omega)).down ht h0).must ht _) e1 (by rw[nodes_must,nodes_down];rfl) hw trivial;rw[hq1];refine put_wf (s:=pUp (pMust ts [93] q.2)) (by show NodesOk (pMust ts [93] q.2).nodes;rw[nodes_must];exact a) (.index _ _ _ ?_) rfl
             show Kid (pMust ts [93] q.2).nodes _ _
             rw[nodes_must];exact kid1 b hq1
           · simp only[Option.some.injEq] at h;subst h;exact put_wf hw (.var _ _) rfl
         · split at h
           · simp only[Option.some.injEq] at h;subst h;exact put_wf hw (.bool _ _ (by omega)) rfl
           · split at h
             · simp only[Option.some.injEq] at h;subst h;exact put_wf hw (.bool _ _ (by omega)) rfl
             · split at h
               · rename_i hl
                 split at h
                 · simp only[Option.map_eq_some_iff] at h
                   obtain⟨q,hq,rfl⟩:=h;have hq1:=run_one _ _ _ _ hq trivial;have e1:q.2.e=0:=((Ext.refl q.2).must (ts:=ts) [41]).e0 he;obtain⟨a,b⟩:=ih2 hq (((hs.goIs ht hl).down ht h0).must ht _) e1 (by rw[nodes_must,nodes_down];rfl) hw trivial;rw[hq1];refine put_wf (s:=pUp (pMust ts [41] q.2)) (by show NodesOk (pMust ts [41] q.2).nodes;rw[nodes_must];exact a) (.len _ _ ?_) rfl
                   show Kid (pMust ts [41] q.2).nodes _ _
                   rw[nodes_must];exact kid1 b hq1
                 · simp only[Option.some.injEq] at h;subst h;exact (e_fail (by decide) he).elim
               · split at h
                 · simp only[Option.map_eq_some_iff] at h
                   obtain⟨q,hq,rfl⟩:=h;have e1:q.2.e=0:=((Ext.refl q.2).must (ts:=ts) [41]).e0 he;obtain⟨a,b⟩:=ih2 hq ((hs.down ht h0).must ht _) e1 (by rw[nodes_must,nodes_down]) hw trivial;refine⟨by show NodesOk (pMust ts [41] q.2).nodes;rw[nodes_must];exact a,?_⟩
                   show AllK (pMust ts [41] q.2).nodes _ _
                   rw[nodes_must];exact b
                 · simp only[Option.some.injEq] at h;subst h;exact (e_fail (by decide) he).elim
  | factor=>
   simp only[run] at h;split at h
   · rename_i hx
     simp only[Option.map_eq_some_iff] at h;obtain⟨q,hq,rfl⟩:=h;have hq1:=run_one _ _ _ _ hq trivial;obtain⟨a,b⟩:=ih2 hq (hs.goDown ht hx) he (show (pDown ts s).nodes=s.nodes from nodes_down s) hw trivial;rw[hq1];exact put_wf (s:=pUp q.2) a (.neg _ _ (kid1 b hq1)) rfl
   · split at h
     · rename_i hx
       simp only[Option.map_eq_some_iff] at h;obtain⟨q,hq,rfl⟩:=h;have hq1:=run_one _ _ _ _ hq trivial;obtain⟨a,b⟩:=ih2 hq (hs.goDown ht hx) he (show (pDown ts s).nodes=s.nodes from nodes_down s) hw trivial;rw[hq1];exact put_wf (s:=pUp q.2) a (.not _ _ (kid1 b hq1)) rfl
     · (have h9:=ih _ _ _ h hs he hw trivial;exact h9)
  | chain lv=>
   simp only[run] at h;split at h
   · (have h9:=ih _ _ _ h hs he hw trivial;exact h9)
   · simp only[Option.bind_eq_some_iff] at h
     obtain⟨q,hq,h⟩:=h;have hq1:=run_one _ _ _ _ hq trivial;have e1:q.2.e=0:=(run_ext _ _ _ _ h).e0 he;obtain⟨a,b⟩:=ih2 hq hs e1 rfl hw trivial
     (have h9:=ih _ _ _ h (run_ok ht _ _ _ _ hq hs) he a (kid1 b hq1);exact h9)
  | more lv line x=>
   simp only[run] at h;split at h
   · simp only[Option.some.injEq] at h;subst h
     exact⟨hw,fun a ha=>by rw[List.mem_singleton.1 ha];exact hp⟩
   · rename_i hx
     simp only[Option.bind_eq_some_iff] at h;obtain⟨q,hq,h⟩:=h;have hq1:=run_one _ _ _ _ hq trivial;have hok:=run_ok ht _ _ _ _ hq (hs.goNext ht hx);have hkx:Kid q.2.nodes clsE x:=Kid.ext (s:=pGo s) hp (run_ext _ _ _ _ hq);split at h
     · simp only[Option.some.injEq] at h;subst h
       obtain⟨a,b⟩:=ih2 hq (hs.goNext ht hx) he (show (pGo s).nodes=s.nodes from rfl) hw trivial;exact put_wf a (.bin _ _ _ _ (next_sign hx) hkx (kid1 b hq1)) rfl
     · have e1:q.2.e=0:=(run_ext _ _ _ _ h).e0 he
       obtain⟨a,b⟩:=ih2 hq (hs.goNext ht hx) e1 (show (pGo s).nodes=s.nodes from rfl) hw trivial;obtain⟨c,d⟩:=put_wf (line:=line) (n:=0) (cls:=clsE) a (.bin _ _ _ _ (next_sign hx) hkx (kid1 b hq1)) rfl
       (have h9:=ih _ _ _ h (hok.put _ _ _ _ _) he c (d _ (List.mem_singleton.2 rfl));exact h9)
  | args l=>
   simp only[run,Option.bind_eq_some_iff] at h;obtain⟨q,hq,h⟩:=h;have hq1:=run_one _ _ _ _ hq trivial;have hok:=run_ok ht _ _ _ _ hq hs;have hle:=run_ext _ _ _ _ hq;split at h
   · rename_i hx
     have e1:q.2.e=0:=(pIs_kind hx).1;obtain⟨a,b⟩:=ih2 hq hs e1 rfl hw trivial;have h9:=ih _ _ _ h (hok.goIs ht hx) he a (show AllK q.2.nodes clsE (l++q.1) from fun y hy=>by
       rcases List.mem_append.1 hy with hy|hy
       · exact (hp y hy).ext hle
       · exact b y hy)
     exact h9
   · simp only[Option.some.injEq] at h;subst h
     obtain⟨a,b⟩:=ih2 hq hs he rfl hw trivial;refine⟨a,fun y hy=>?_⟩;rcases List.mem_append.1 hy with hy|hy
     · exact (hp y hy).ext hle
     · exact b y hy
  | call=>
   simp only[run,Option.map_eq_some_iff] at h;obtain⟨q,hq,rfl⟩:=h;have e1:q.2.e=0:=((Ext.refl q.2).must (ts:=ts) [41]).e0 he;have hw2:NodesOk (pMust ts [40] (pNamed ts s)).nodes:=by rw[nodes_must,nodes_named];exact hw
   have key:NodesOk q.2.nodes∧AllK q.2.nodes clsE q.1:=by
     split at hq
     · exact ih2 hq ((hs.named ht).must ht _) e1 rfl hw2 (fun y hy=>by cases hy)
     · simp only[Option.some.injEq] at hq;subst hq
       exact⟨hw2,fun y hy=>by cases hy⟩
   refine put_wf (s:=pMust ts [41] q.2) (by rw[nodes_must];exact key.1) (.call _ _ _ (fun y hy=>?_)) rfl;rw[nodes_must];exact key.2 y hy
  | right=>
   simp only[run] at h;split at h
   · simp only[Option.some.injEq] at h;subst h;exact put_wf hw (.input _) rfl
   · split at h
     · rename_i hx
       simp only[Option.map_eq_some_iff] at h;obtain⟨q,hq,rfl⟩:=h;have hq1:=run_one _ _ _ _ hq trivial;have e1:q.2.e=0:=((Ext.refl q.2).must (ts:=ts) [41]).e0 he;obtain⟨a,b⟩:=ih2 hq ((hs.goIs ht hx).must ht _) e1 (by rw[nodes_must];rfl) hw trivial;rw[hq1];refine put_wf (s:=pMust ts [41] q.2) (by rw[nodes_must];exact a) (.new _ _ ?_) rfl;rw[nodes_must];exact kid1 b hq1
     · split at h
       · obtain⟨a,b⟩:=ih2 h hs he rfl hw trivial
         exact ⟨a, fun y hy => (b y hy).le (fun k hk => by have : k = 21 := by simpa [resT, clsC] using hk
                                                           subst this; rfl)⟩
       · obtain⟨a,b⟩:=ih2 h hs he rfl hw trivial
         exact ⟨a, fun y hy => (b y hy).le (fun k hk => by have : clsE k = true := hk
                                                           show clsR k = true
                                                           unfold clsR; rw [this]; rfl)⟩
  | block=>
   simp only[run] at h;split at h
   · rename_i hx
     simp only[Option.map_eq_some_iff] at h;obtain⟨q,hq,rfl⟩:=h;have e1:q.2.e=0:=((Ext.refl q.2).must (ts:=ts) [125]).e0 he;obtain⟨a,b⟩:=ih2 hq ((hs.downIs ht hx).must ht _) e1 (by rw[nodes_must,nodes_down]) hw (fun y hy=>by cases hy);refine put_wf (s:=pUp (pMust ts [125] q.2)) (by show NodesOk (pMust ts [125] q.2).nodes;rw[nodes_must];exact a) (.block _ _ (fun y hy=>?_)) rfl
     show Kid (pMust ts [125] q.2).nodes _ _
     rw[nodes_must];exact b y hy
   · simp only[Option.some.injEq] at h;subst h;exact (e_fail (by decide) he).elim
  | stmts l=>
   simp only[run] at h;split at h
   · rename_i h0
     simp only[Option.some.injEq] at h;subst h;exact absurd he h0
   · split at h
     · simp only[Option.some.injEq] at h;subst h;exact⟨hw,hp⟩
     · simp only[Option.bind_eq_some_iff] at h
       obtain⟨q,hq,h⟩:=h;have e1:q.2.e=0:=(run_ext _ _ _ _ h).e0 he;obtain⟨a,b⟩:=ih2 hq hs e1 rfl hw trivial;have h9:=ih _ _ _ h (run_ok ht _ _ _ _ hq hs) he a (show AllK q.2.nodes clsS (l++q.1) from fun y hy=>by
         rcases List.mem_append.1 hy with hy|hy
         · exact (hp y hy).ext (run_ext _ _ _ _ hq)
         · exact b y hy)
       exact h9
  | named line=>
   simp only[run] at h;split at h
   · simp only[Option.map_eq_some_iff] at h
     obtain⟨q,hq,rfl⟩:=h;have hq1:=run_one _ _ _ _ hq trivial;have e1:q.2.e=0:=((Ext.refl q.2).must (ts:=ts) [59]).e0 he;obtain⟨a,b⟩:=ih2 hq hs e1 rfl hw trivial;rw[hq1];refine put_wf (s:=pMust ts [59] q.2) (by rw[nodes_must];exact a) (.do_ _ _ ?_) rfl;rw[nodes_must];exact kid1 b hq1
   · split at h
     · rename_i hx
       simp only[Option.map_eq_some_iff,Option.bind_eq_some_iff] at h;obtain⟨q,hq,u,hu,rfl⟩:=h;have hq1:=run_one _ _ _ _ hq trivial;have hu1:=run_one _ _ _ _ hu trivial;have e2:u.2.e=0:=((Ext.refl u.2).must (ts:=ts) [59]).e0 he;have hx2:=((((Ext.refl q.2).must (ts:=ts) [93]).up).must (ts:=ts) [61]);have e1:q.2.e=0:=hx2.e0 ((run_ext _ _ _ _ hu).e0 e2);have hsn:PSOk ts (pNamed ts s):=hs.named ht;obtain⟨a,b⟩:=ih2 hq ((hsn.downIs ht hx).must ht _) e1 (by rw[nodes_must,nodes_down,nodes_named]) hw trivial;have hokq:=run_ok ht _ _ _ _ hq ((hsn.downIs ht hx).must ht _);obtain⟨c,d⟩:=ih2 hu (((hokq.must ht _).up).must ht _) e2 (show (pMust ts [61] (pUp (pMust ts [93] q.2))).nodes=q.2.nodes by rw[nodes_must];exact nodes_must _ _) a trivial;rw[hq1,hu1];refine put_wf (s:=pMust ts [59] u.2) (by rw[nodes_must];exact c) (.put _ _ _ _ ?_ ?_) rfl
       · rw[nodes_must]
         exact (kid1 b hq1).ext (hx2.trans (run_ext _ _ _ _ hu))
       · rw[nodes_must];exact kid1 d hu1
     · simp only[Option.map_eq_some_iff] at h
       obtain⟨q,hq,rfl⟩:=h;have hq1:=run_one _ _ _ _ hq trivial;have e1:q.2.e=0:=((Ext.refl q.2).must (ts:=ts) [59]).e0 he;obtain⟨a,b⟩:=ih2 hq ((hs.named ht).must ht _) e1 (by rw[nodes_must,nodes_named]) hw trivial;rw[hq1];refine put_wf (s:=pMust ts [59] q.2) (by rw[nodes_must];exact a) (.set _ _ _ ?_) rfl;rw[nodes_must];exact kid1 b hq1
  | stmt=>
   simp only[run] at h;split at h
   · rename_i hwd
     simp only[Option.map_eq_some_iff] at h;obtain⟨q,hq,rfl⟩:=h;have hq1:=run_one _ _ _ _ hq trivial;have e1:q.2.e=0:=((Ext.refl q.2).must (ts:=ts) [59]).e0 he;obtain⟨a,b⟩:=ih2 hq (((hs.goWord ht hwd (by simp)).named ht).must ht _) e1 (by rw[nodes_must,nodes_named];rfl) hw trivial;rw[hq1];refine put_wf (s:=pMust ts [59] q.2) (by rw[nodes_must];exact a) (.let_ _ _ _ ?_) rfl;rw[nodes_must];exact kid1 b hq1
   · split at h
     · rename_i hwd
       simp only[Option.map_eq_some_iff] at h;obtain⟨q,hq,rfl⟩:=h;have hq1:=run_one _ _ _ _ hq trivial;have e1:q.2.e=0:=((Ext.refl q.2).must (ts:=ts) [59]).e0 he;obtain⟨a,b⟩:=ih2 hq (hs.goWord ht hwd (by simp)) e1 (show (pGo s).nodes=s.nodes from rfl) hw trivial;rw[hq1];refine put_wf (s:=pMust ts [59] q.2) (by rw[nodes_must];exact a) (.print _ _ ?_) rfl;rw[nodes_must];exact kid1 b hq1
     · split at h
       · rename_i hwd
         simp only[Option.map_eq_some_iff,Option.bind_eq_some_iff] at h;obtain⟨q,hq,u,hu,rfl⟩:=h;have hq1:=run_one _ _ _ _ hq trivial;have hu1:=run_one _ _ _ _ hu trivial;have e1:q.2.e=0:=(run_ext _ _ _ _ hu).e0 he;obtain⟨a,b⟩:=ih2 hq (hs.goWord ht hwd (by simp)) e1 (show (pGo s).nodes=s.nodes from rfl) hw trivial;obtain⟨c,d⟩:=ih2 hu (run_ok ht _ _ _ _ hq (hs.goWord ht hwd (by simp))) he rfl a trivial;rw[hq1,hu1];exact put_wf (s:=u.2) c (.loop _ _ _ ((kid1 b hq1).ext (run_ext _ _ _ _ hu)) (kid1 d hu1)) rfl
       · split at h
         · rename_i hwd
           simp only[Option.bind_eq_some_iff] at h;obtain⟨q,hq,u,hu,h⟩:=h;have hq1:=run_one _ _ _ _ hq trivial;have hu1:=run_one _ _ _ _ hu trivial;have hokq:=run_ok ht _ _ _ _ hq (hs.goWord ht hwd (by simp));have hoku:=run_ok ht _ _ _ _ hu hokq;split at h
           · rename_i hx
             simp only[Option.map_eq_some_iff] at h;obtain⟨v,hv,rfl⟩:=h;have hv1:=run_one _ _ _ _ hv trivial;have e2:u.2.e=0:=(pIs_kind hx).1;have e1:q.2.e=0:=(run_ext _ _ _ _ hu).e0 e2;obtain⟨a,b⟩:=ih2 hq (hs.goWord ht hwd (by simp)) e1 (show (pGo s).nodes=s.nodes from rfl) hw trivial;obtain⟨c,d⟩:=ih2 hu hokq e2 rfl a trivial;obtain⟨f,g⟩:=ih2 hv (hoku.goIs ht hx) he (show (pGo u.2).nodes=u.2.nodes from rfl) c trivial;have e3:Ext u.2 v.2:=((Ext.refl u.2).go).trans (run_ext _ _ _ _ hv);rw[hq1,hu1,hv1];exact put_wf (s:=v.2) f (.if3 _ _ _ _ (((kid1 b hq1).ext (run_ext _ _ _ _ hu)).ext e3) ((kid1 d hu1).ext e3) (kid1 g hv1)) rfl
           · simp only[Option.some.injEq] at h;subst h
             have e1:q.2.e=0:=(run_ext _ _ _ _ hu).e0 he;obtain⟨a,b⟩:=ih2 hq (hs.goWord ht hwd (by simp)) e1 (show (pGo s).nodes=s.nodes from rfl) hw trivial;obtain⟨c,d⟩:=ih2 hu hokq he rfl a trivial;rw[hq1,hu1];exact put_wf (s:=u.2) c (.if2 _ _ _ ((kid1 b hq1).ext (run_ext _ _ _ _ hu)) (kid1 d hu1)) rfl
         · split at h
           · rename_i hwd
             split at h
             · simp only[Option.some.injEq] at h;subst h
               exact put_wf (s:=pMust ts [59] (pGo s)) (by rw[nodes_must];exact hw) (.ret0 _) rfl
             · simp only[Option.map_eq_some_iff] at h
               obtain⟨q,hq,rfl⟩:=h;have hq1:=run_one _ _ _ _ hq trivial;have e1:q.2.e=0:=((Ext.refl q.2).must (ts:=ts) [59]).e0 he;obtain⟨a,b⟩:=ih2 hq (hs.goWord ht hwd (by simp)) e1 (show (pGo s).nodes=s.nodes from rfl) hw trivial;rw[hq1];refine put_wf (s:=pMust ts [59] q.2) (by rw[nodes_must];exact a) (.ret1 _ _ ?_) rfl;rw[nodes_must];exact kid1 b hq1
           · (have h9:=ih _ _ _ h hs he hw trivial;exact h9)
end
structure TreeOk (ns:List NodeM) (fs:List FuncM):Prop where
 nodes:NodesOk ns
 bodies:∀f∈fs,Kid ns clsB f.body
 few:ns.length≤300
 fewf:fs.length≤6
 pars:∀f∈fs,f.params.length≤3
 types:∀f∈fs,f.ret≤4∧∀p∈f.params,p.2≤4
section
variable {src:List UInt8}{ts:List Tok}
theorem params_types:∀(n:Nat) (acc:List (List UInt8×Nat)) (s:PS) (p:List (List UInt8×Nat)×PS),runParams ts n acc s=some p→(∀q∈acc,q.2≤4)→∀q∈p.1,q.2≤4
 | 0,_,_,_,h,_=>by simp[runParams] at h
 | n+1,acc,s,p,h,ha=>by
  have h2:∀q∈acc++[(pName ts s,pType ts (pNamed ts s))],q.2≤4:=fun q hq=>by
    rcases List.mem_append.1 hq with hq|hq
    · exact ha q hq
    · rw[List.mem_singleton.1 hq];exact typeM_le _
  simp only[runParams] at h;split at h
  · exact params_types n _ _ _ h h2
  · simp only[Option.some.injEq] at h
    subst h;exact h2
theorem params_nodes:∀(n:Nat) (acc:List (List UInt8×Nat)) (s:PS) (p:List (List UInt8×Nat)×PS),runParams ts n acc s=some p→p.2.nodes=s.nodes
 | 0,_,_,_,h=>by simp[runParams] at h
 | n+1,acc,s,p,h=>by
  simp only[runParams] at h;split at h
  · rw[params_nodes n _ _ _ h]
    show (pTyped ts (pNamed ts s)).nodes=_
    rw[nodes_typed,nodes_named]
  · simp only[Option.some.injEq] at h
    subst h
    show (pTyped ts (pNamed ts s)).nodes=_
    rw[nodes_typed,nodes_named]
theorem func_wf (ht:ToksOk ts){n:Nat}{s:PS}{fs:FuncM×PS} (h:runFunc src ts n s=some fs) (hs:PSOk ts s) (he:fs.2.e=0) (hw:NodesOk s.nodes):
   NodesOk fs.2.nodes∧Kid fs.2.nodes clsB fs.1.body∧fs.1.ret≤4∧∀p∈fs.1.params,p.2≤4:=by
 simp only[runFunc,Option.bind_eq_some_iff,Option.map_eq_some_iff] at h;obtain⟨p,hp,b,hb,rfl⟩:=h;have h1:PSOk ts (pMust ts [40] (pNamed ts (pMust ts [102,110] s))):=((hs.must ht _).named ht).must ht _;have hn1:(pMust ts [40] (pNamed ts (pMust ts [102,110] s))).nodes=s.nodes:=by rw[nodes_must,nodes_named,nodes_must]
 have h2:PSOk ts p.2∧p.2.nodes=s.nodes∧∀q∈p.1,q.2≤4:=by
   split at hp
   · exact⟨params_ok ht _ _ _ _ hp h1,by rw[params_nodes _ _ _ _ hp,hn1],params_types _ _ _ _ hp (fun q hq=>by cases hq)⟩
   · simp only[Option.some.injEq] at hp
     subst hp;exact⟨h1,hn1,fun q hq=>by cases hq⟩
 have hb1:=run_one _ _ _ _ hb trivial;have key:NodesOk b.2.nodes∧AllK b.2.nodes clsB b.1:=by
   split at hb
   · exact run_wf ht _ _ _ _ hb (h2.1.must ht _) he (by rw[nodes_must,h2.2.1];exact hw) trivial
   · exact run_wf ht _ _ _ _ hb ((h2.1.must ht _).typed ht) he (by rw[nodes_typed,nodes_must,h2.2.1];exact hw) trivial
 refine⟨key.1,kid1 key.2 hb1,?_,h2.2.2⟩
 show (if pIs ts [123] (pMust ts [41] p.2)=true then 0 else pType ts (pMust ts [41] p.2))≤4
 split
 · omega
 · exact typeM_le _
theorem fns_wf (ht:ToksOk ts):∀(n:Nat) (acc:List FuncM) (s:PS) (r:List FuncM×PS),runFns src ts n acc s=some r→PSOk ts s→r.2.e=0→NodesOk s.nodes→(∀f∈acc,Kid s.nodes clsB f.body∧f.ret≤4∧∀p∈f.params,p.2≤4) →
  NodesOk r.2.nodes∧∀f∈r.1,Kid r.2.nodes clsB f.body∧f.ret≤4∧∀p∈f.params,p.2≤4
 | 0,_,_,_,h,_,_,_,_=>by simp[runFns] at h
 | n+1,acc,s,r,h,hs,he,hw,ha=>by
  simp only[runFns] at h;split at h
  · simp only[Option.some.injEq] at h;subst h;exact⟨hw,ha⟩
  · split at h
    · simp only[Option.some.injEq] at h;subst h;exact⟨hw,ha⟩
    · simp only[Option.bind_eq_some_iff] at h
      obtain⟨fs,hfs,h⟩:=h;have e1:fs.2.e=0:=(fns_ext _ _ _ _ h).e0 he;obtain⟨a,b,c,d⟩:=func_wf ht hfs hs e1 hw;refine fns_wf ht n _ _ _ h (func_ok ht hfs hs).1 he a (fun f hf=>?_);rcases List.mem_append.1 hf with hf|hf
      · obtain⟨x,y⟩:=ha f hf
        exact⟨x.ext (func_ext' hfs),y⟩
      · rw[List.mem_singleton.1 hf];exact⟨b,c,d⟩
theorem parse_ok {src:List UInt8}{ns:List NodeM}{fs:List FuncM} (h:parseM src=some (.good ns fs)):TreeOk ns fs:=by
 unfold parseM at h;cases hl:lexM src with
 | bad p e=>rw[hl] at h;simp at h
 | good ts=>
  rw[hl] at h;have ht:=lexM_toks hl;simp only[parseT,Option.map_eq_some_iff] at h;obtain⟨q,hq,h⟩:=h;split at h
  · cases h
  · rename_i h0
    have h0:q.2.e=0:=by simpa using h0
    split at h
    · cases h
    · rename_i hb
      injection h with h1 h2;subst h1;subst h2;have hs:PSOk ts ⟨0,[],0,0,0⟩:=⟨ht.pos,by decide,fun _=>by decide,by decide,by decide⟩;obtain⟨a,b⟩:=fns_wf ht _ _ _ _ hq hs h0 (fun i nd hi=>by simp at hi) (fun f hf=>by cases hf);refine⟨a,fun f hf=>(b f hf).1,by omega,by omega,fun f hf=>?_,fun f hf=>(b f hf).2⟩;by_cases h3:f.params.length≤3
      · exact h3
      · exact absurd (List.any_eq_true.2 ⟨f,hf,by simp;omega⟩) (fun e=>hb (.inr (.inr e)))
end
end Pw
end Go.Proofs.YtlbjicjinnnboaaGreatDoor
/- The parser: values that are made node by node; how great a tree is. -/
namespace Go.Proofs.YtlbjicjinnnboaaGreatDoor
namespace Pw
open Go.RowKit
section
variable {α:Type} (g:(Nat→α)→NodeM→α) (d:α)
end
theorem Kid.lt {ns:List NodeM}{cls:Nat→Bool}{x:Nat} (h:Kid ns cls x):x<ns.length:=by
 obtain⟨c,hc,_⟩:=h;exact (List.getElem?_eq_some_iff.1 hc).1
theorem Kid.take {ns:List NodeM}{cls:Nat→Bool}{x i:Nat} (h:Kid (ns.take i) cls x):x<i∧Kid ns cls x:=by
 obtain⟨c,hc,hk⟩:=h;rw[List.getElem?_take] at hc;split at hc
 · exact⟨by assumption,c,hc,hk⟩
 · cases hc
section
variable {src:List UInt8}{ts:List Tok}
def pendT:Task→List Nat
 | .more _ _ x=>[x] | .args l=>l | .stmts l=>l|_=>[]
end
end Pw
open Pw
inductive CkR (α:Type) where
 | bad (e p:Nat)
 | good (a:α)
namespace CkR
def bind {α β:Type}:CkR α→(α→CkR β)→CkR β
 | .bad e p,_=> .bad e p
 | .good a,f=>f a
def map {α β:Type} (f:α→β):CkR α→CkR β
 | .bad e p=> .bad e p
 | .good a=> .good (f a)
@[simp] theorem bind_bad {α β : Type} (e p : Nat) (f : α → CkR β) : (CkR.bad e p).bind f = .bad e p := rfl
@[simp] theorem bind_good {α β : Type} (a : α) (f : α → CkR β) : (CkR.good a).bind f = f a := rfl
@[simp] theorem map_bad {α β : Type} (e p : Nat) (f : α → β) : (CkR.bad e p).map f = .bad e p := rfl
@[simp] theorem map_good {α β : Type} (a : α) (f : α → β) : (CkR.good a).map f = .good (f a) := rfl
theorem bind_eq {α β:Type}{r:CkR α}{f:α→CkR β}{b:β} (h:r.bind f = .good b):∃a,r = .good a∧f a = .good b:=by
 cases r with
 | bad e p=>cases h
 | good a=>exact⟨a,rfl,h⟩
theorem map_eq {α β:Type}{r:CkR α}{f:α→β}{b:β} (h:r.map f = .good b):∃a,r = .good a∧f a=b:=by
 cases r with
 | bad e p=>cases h
 | good a=>injection h with h;exact⟨a,rfl,h⟩
end CkR
structure VarM where
 name:List UInt8
 ty:Nat
 slot:Nat
 deriving DecidableEq
structure CkS where
 types:List Nat
 slots:List Int
 fn:List Nat
 vars:List VarM
 size:Nat
def findV (vars:List VarM) (name:List UInt8):Option VarM:=vars.find? fun v=>decide (v.name=name)
def findF (fs:List FuncM) (name:List UInt8):Option Nat:=fs.findIdx? fun f=>decide (f.name=name)
def binT (sign:List UInt8) (a b:Nat):Nat:=
 if a≠b then 0
 else if sign=[124,124]∨sign=[38,38] then (if a=2 then 2 else 0)
 else if sign=[60]∨sign=[60,61] then (if a=1 then 2 else 0)
 else if sign=[61,61]∨sign=[33,61] then (if a=1∨a=2∨a=3 then 2 else 0)
 else if sign=[43] then (if a=1∨a=3 then a else 0)
 else if a=1 then 1 else 0
section
variable (ns:List NodeM) (fs:List FuncM) (k:Nat)
def namedC (x:Nat) (name:List UInt8) (s:CkS):CkR (Nat×CkS):=
 match findV s.vars name with
 | none=> .bad 40 x
 | some v=> .good (v.ty,{ s with slots:=s.slots.set x v.slot })
section
variable (ex:Nat→CkS→CkR (Nat×CkS))
def argsC:List Nat→CkS→CkR (List Nat×CkS)
 | [],s=> .good ([],s)
 | a :: l,s=>(ex a s).bind fun r=>(argsC l r.2).map fun q=>(r.1 :: q.1,q.2)
def callC (x:Nat) (nd:NodeM) (s:CkS):CkR (Nat×CkS):=
 match findF fs nd.name with
 | none=> .bad 40 x
 | some j=>(argsC ex nd.l s).bind fun r=>
  if r.1.length≠((fs[j]?.map (·.params)).getD []).length then .bad 43 x
  else if r.1≠((fs[j]?.map (·.params)).getD []).map (·.2) then .bad 42 x
  else .good ((fs[j]?.map (·.ret)).getD 0,r.2)
def tellsC (x:Nat) (nd:NodeM) (s:CkS):CkR (Nat×CkS):=
 if nd.kind=1∨nd.kind=19 then .good (1,s)
 else if nd.kind=2 then .good (2,s)
 else if nd.kind=3 then .good (3,s)
 else if nd.kind=4 then namedC x nd.name s
 else if nd.kind=21 then callC fs ex x nd s
 else if nd.kind=5 then (namedC x nd.name s).bind fun t=>(ex (nd.l.headD 0) t.2).bind fun r=>if t.1=4∧r.1=1 then .good (1,r.2) else .bad 42 x
 else if nd.kind=9 then (ex (nd.l.headD 0) s).bind fun a=>(ex (nd.l.getD 1 0) a.2).bind fun b=>
  if binT nd.name a.1 b.1=0 then .bad 42 x else .good (binT nd.name a.1 b.1,b.2)
 else (ex (nd.l.headD 0) s).bind fun r=>
  if nd.kind=6 then (if r.1=3∨r.1=4 then .good (1,r.2) else .bad 42 x)
  else if nd.kind=7 then (if r.1=1 then .good (1,r.2) else .bad 42 x)
  else if nd.kind=8 then (if r.1=2 then .good (2,r.2) else .bad 42 x)
  else (if r.1=1 then .good (4,r.2) else .bad 42 x)
end
def exprC:Nat→Nat→CkS→CkR (Nat×CkS)
 | 0,_,_=> .bad 99 0
 | f+1,x,s=>
  match ns[x]? with
  | none=> .bad 98 0
  | some nd=>(tellsC fs (exprC f) x nd s).map fun r=>(r.1,{ r.2 with types:=r.2.types.set x r.1,fn:=r.2.fn.set x k })
section
variable (ex:Nat→CkS→CkR (Nat×CkS)) (bl:Nat→CkS→CkR CkS)
def letC (x:Nat) (nd:NodeM) (s:CkS):CkR CkS:=
 (ex (nd.l.headD 0) s).bind fun r=>
   if r.1=0 then .bad 42 x
   else if (findV r.2.vars nd.name).isSome then .bad 41 x
   else if 24≤r.2.size then .bad 4 x
   else .good { r.2 with slots:=r.2.slots.set x r.2.size,vars:=r.2.vars++[⟨nd.name,r.1,r.2.size⟩],size:=r.2.size+1 }
def seqC (st:Nat→CkS→CkR CkS):List Nat→CkS→CkR CkS
 | [],s=> .good s
 | a :: l,s=>(st a s).bind fun s=>seqC st l s
def retC (x:Nat) (nd:NodeM) (s:CkS):CkR CkS:=
 if (nd.l.length=1)↔((fs[k]?.map (·.ret)).getD 0≠0) then
  (if nd.l.length=1 then (ex (nd.l.headD 0) s).bind fun r=>if r.1=(fs[k]?.map (·.ret)).getD 0 then .good r.2 else .bad 42 x else .good s)
 else .bad 43 x
def stmC (x:Nat) (nd:NodeM) (s:CkS):CkR CkS:=
 let s:={ s with fn:=s.fn.set x k }
 if nd.kind=10 then letC ex x nd s
 else if nd.kind=11 then (namedC x nd.name s).bind fun t=>(ex (nd.l.headD 0) t.2).bind fun r=>if t.1=r.1 then .good r.2 else .bad 42 x
 else if nd.kind=12 then (namedC x nd.name s).bind fun t=>(ex (nd.l.headD 0) t.2).bind fun r=>(ex (nd.l.getD 1 0) r.2).bind fun q=>if t.1=4∧r.1=1∧q.1=1 then .good q.2 else .bad 42 x
 else if nd.kind=13 then (ex (nd.l.headD 0) s).map (·.2)
 else if nd.kind=14 then (ex (nd.l.headD 0) s).bind fun r=>if r.1≠4 then .good r.2 else .bad 42 x
 else if nd.kind=17 then retC fs k ex x nd s
 else (ex (nd.l.headD 0) s).bind fun r=>if r.1=2 then seqC bl nd.l.tail r.2 else .bad 42 x
end
def blockC:Nat→Nat→CkS→CkR CkS
 | 0,_,_=> .bad 97 0
 | f+1,x,s=>
  match ns[x]? with
  | none=> .bad 96 0
  | some nd=>(seqC (fun a s=>match ns[a]? with
   | none=> .bad 95 0
   | some na=>stmC fs k (exprC ns fs k ns.length) (blockC f) a na s) nd.l { s with fn:=s.fn.set x k }).map fun r=>{ r with vars:=r.vars.take s.vars.length }
end
structure ProgM where
 ns:List NodeM
 fs:List FuncM
 types:List Nat
 slots:List Int
 fn:List Nat
 sizes:List Nat
def parsC (body:Nat):List (List UInt8×Nat)→List VarM→CkR (List VarM)
 | [],vs=> .good vs
 | p :: l,vs=>if (findV vs p.1).isSome then .bad 41 body else parsC body l (vs++[⟨p.1,p.2,vs.length⟩])
section
variable (ns:List NodeM) (fs:List FuncM)
def funcC (k:Nat) (f:FuncM) (s:CkS):CkR CkS:=
 (parsC f.body f.params []).bind fun vs=>blockC ns fs k ns.length f.body { s with vars:=vs,size:=vs.length }
def funcsC:Nat→List FuncM→List Nat→CkS→CkR (List Nat×CkS)
 | _,[],zs,s=> .good (zs,s)
 | k,f :: l,zs,s=>(funcC ns fs k f s).bind fun r=>funcsC (k+1) l (zs++[r.size]) r
def isMain (f:FuncM):Bool:=decide (f.name=[109,97,105,110]) && decide (f.params.length=0) && decide (f.ret=0)
def twiceC:List (List UInt8)→List FuncM→Option Nat
 | _,[]=>none
 | seen,f :: l=>if f.name∈seen then some f.body else twiceC (seen++[f.name]) l
def headsC:CkR Unit:=
 match twiceC [] fs with
 | some b=> .bad 41 b
 | none=>if fs.any isMain then .good () else .bad 44 0
def startC:CkS:=⟨List.replicate ns.length 0,List.replicate ns.length (-1),List.replicate ns.length 0,[],0⟩
def checkT:CkR ProgM:=
 (headsC fs).bind fun _=>(funcsC ns fs 0 fs [] (startC ns)).map fun r=>⟨ns,fs,r.2.types,r.2.slots,r.2.fn,r.1⟩
end
inductive SourceR where
 | bad (p e:Nat)
 | good (p:ProgM)
def sourceM (src:List UInt8):Option SourceR:=
 (parseM src).map fun
   | .bad p e=> .bad p e
   | .good ns fs=>match checkT ns fs with
    | .bad e x=>if e=44 then .bad 0 44 else .bad ((ns[x]?.map (·.line)).getD 0) e
    | .good p=> .good p
end Go.Proofs.YtlbjicjinnnboaaGreatDoor
