/- MvH: laws and walks for CheckVisible. -/
import Derived.Test.YtlbjicjinnnboaaGreatDoorMvG
import Derived.StillTailTactics
import Derived.Laws.EntriesVeiled
set_option maxHeartbeats 8000000
set_option maxRecDepth 100000
set_option linter.unusedVariables false
set_option linter.unusedSimpArgs false
namespace Go.Proofs.YtlbjicjinnnboaaGreatDoor
open Go.RowKit Go.Proofs.Tryz
open Pw
inductive CkR (α:Type) where
 | bad (e p:Nat)
 | good (a:α)
namespace CkR
def bind {α β:Type}:CkR α->(α->CkR β)->CkR β
 | .bad e p,_=> .bad e p
 | .good a,f=>f a
def map {α β:Type} (f:α->β):CkR α->CkR β
 | .bad e p=> .bad e p
 | .good a=> .good (f a)
@[simp] theorem wV {α β : Type} (e p : Nat) (f : α -> CkR β) : (CkR.bad e p).bind f = .bad e p := rfl
@[simp] theorem aC {α β : Type} (a : α) (f : α -> CkR β) : (CkR.good a).bind f = f a := rfl
@[simp] theorem aPm {α β : Type} (e p : Nat) (f : α -> β) : (CkR.bad e p).map f = .bad e p := rfl
@[simp] theorem bO {α β : Type} (a : α) (f : α -> β) : (CkR.good a).map f = .good (f a) := rfl
theorem bind_eq {α β:Type}{r:CkR α}{f:α->CkR β}{b:β} (h:r.bind f = .good b):∃a,r = .good a∧f a = .good b:=by
 cases r with
 | bad e p=>cases h
 | good a=>exact⟨a,rfl,h⟩
theorem map_eq {α β:Type}{r:CkR α}{f:α->β}{b:β} (h:r.map f = .good b):∃a,r = .good a∧f a=b:=by
 cases r with
 | bad e p=>cases h
 | good a=>injection h with h;exact⟨a,rfl,h⟩
end CkR
structure bT where
 name:List UInt8
 ty:Nat
 slot:Nat
 deriving DecidableEq
structure CkS where
 types:List Nat
 slots:List Int
 fn:List Nat
 vars:List bT
 size:Nat
def dV (vars:List bT) (name:List UInt8):Option bT:=vars.find? λv=>decide (v.name=name)
def findF (fs:List aG) (name:List UInt8):Option Nat:=fs.findIdx? λf=>decide (f.name=name)
def bL (sign:List UInt8) (a b:Nat):Nat:=
 if a≠b then 0
 else if sign=[124,124]∨sign=[38,38] then (if a=2 then 2 else 0)
 else if sign=[60]∨sign=[60,61] then (if a=1 then 2 else 0)
 else if sign=[61,61]∨sign=[33,61] then (if a=1∨a=2∨a=3 then 2 else 0)
 else if sign=[43] then (if a=1∨a=3 then a else 0)
 else if a=1 then 1 else 0
section
variable (ns:List aF) (fs:List aG) (k:Nat)
def aU (x:Nat) (name:List UInt8) (s:CkS):CkR (Nat×CkS):=
 match dV s.vars name with
 | none=> .bad 40 x
 | some v=> .good (v.ty,{ s with slots:=s.slots.set x v.slot })
section
variable (ex:Nat->CkS->CkR (Nat×CkS))
def bF:List Nat->CkS->CkR (List Nat×CkS)
 | [],s=> .good ([],s)
 | a :: l,s=>(ex a s).bind λr=>(bF l r.2).map λq=>(r.1 :: q.1,q.2)
def kV (x:Nat) (nd:aF) (s:CkS):CkR (Nat×CkS):=
 match findF fs nd.name with
 | none=> .bad 40 x
 | some j=>(bF ex nd.l s).bind λr=>
  if r.1.length≠((fs[j]?.map (·.params)).getD []).length then .bad 43 x
  else if r.1≠((fs[j]?.map (·.params)).getD []).map (·.2) then .bad 42 x
  else .good ((fs[j]?.map (·.ret)).getD 0,r.2)
def bB (x:Nat) (nd:aF) (s:CkS):CkR (Nat×CkS):=
 if nd.kind=1∨nd.kind=19 then .good (1,s)
 else if nd.kind=2 then .good (2,s)
 else if nd.kind=3 then .good (3,s)
 else if nd.kind=4 then aU x nd.name s
 else if nd.kind=21 then kV fs ex x nd s
 else if nd.kind=5 then (aU x nd.name s).bind λt=>(ex (nd.l.headD 0) t.2).bind λr=>if t.1=4∧r.1=1 then .good (1,r.2) else .bad 42 x
 else if nd.kind=9 then (ex (nd.l.headD 0) s).bind λa=>(ex (nd.l.getD 1 0) a.2).bind λb=>
  if bL nd.name a.1 b.1=0 then .bad 42 x else .good (bL nd.name a.1 b.1,b.2)
 else (ex (nd.l.headD 0) s).bind λr=>
  if nd.kind=6 then (if r.1=3∨r.1=4 then .good (1,r.2) else .bad 42 x)
  else if nd.kind=7 then (if r.1=1 then .good (1,r.2) else .bad 42 x)
  else if nd.kind=8 then (if r.1=2 then .good (2,r.2) else .bad 42 x)
  else (if r.1=1 then .good (4,r.2) else .bad 42 x)
end
def eO:Nat->Nat->CkS->CkR (Nat×CkS)
 | 0,_,_=> .bad 99 0
 | f+1,x,s=>
  match ns[x]? with
  | none=> .bad 98 0
  | some nd=>(bB fs (eO f) x nd s).map λr=>(r.1,{ r.2 with types:=r.2.types.set x r.1,fn:=r.2.fn.set x k })
section
variable (ex:Nat->CkS->CkR (Nat×CkS)) (bl:Nat->CkS->CkR CkS)
def aGg (x:Nat) (nd:aF) (s:CkS):CkR CkS:=
 (ex (nd.l.headD 0) s).bind λr=>
   if r.1=0 then .bad 42 x
   else if (dV r.2.vars nd.name).isSome then .bad 41 x
   else if 24<=r.2.size then .bad 4 x
   else .good { r.2 with slots:=r.2.slots.set x r.2.size,vars:=r.2.vars++[⟨nd.name,r.1,r.2.size⟩],size:=r.2.size+1 }
def dX (st:Nat->CkS->CkR CkS):List Nat->CkS->CkR CkS
 | [],s=> .good s
 | a :: l,s=>(st a s).bind λs=>dX st l s
def vV (x:Nat) (nd:aF) (s:CkS):CkR CkS:=
 if (nd.l.length=1)↔((fs[k]?.map (·.ret)).getD 0≠0) then
  (if nd.l.length=1 then (ex (nd.l.headD 0) s).bind λr=>if r.1=(fs[k]?.map (·.ret)).getD 0 then .good r.2 else .bad 42 x else .good s)
 else .bad 43 x
def fI (x:Nat) (nd:aF) (s:CkS):CkR CkS:=
 let s:={ s with fn:=s.fn.set x k }
 if nd.kind=10 then aGg ex x nd s
 else if nd.kind=11 then (aU x nd.name s).bind λt=>(ex (nd.l.headD 0) t.2).bind λr=>if t.1=r.1 then .good r.2 else .bad 42 x
 else if nd.kind=12 then (aU x nd.name s).bind λt=>(ex (nd.l.headD 0) t.2).bind λr=>(ex (nd.l.getD 1 0) r.2).bind λq=>if t.1=4∧r.1=1∧q.1=1 then .good q.2 else .bad 42 x
 else if nd.kind=13 then (ex (nd.l.headD 0) s).map (·.2)
 else if nd.kind=14 then (ex (nd.l.headD 0) s).bind λr=>if r.1≠4 then .good r.2 else .bad 42 x
 else if nd.kind=17 then vV fs k ex x nd s
 else (ex (nd.l.headD 0) s).bind λr=>if r.1=2 then dX bl nd.l.tail r.2 else .bad 42 x
end
def eT:Nat->Nat->CkS->CkR CkS
 | 0,_,_=> .bad 97 0
 | f+1,x,s=>
  match ns[x]? with
  | none=> .bad 96 0
  | some nd=>(dX (λa s=>match ns[a]? with
   | none=> .bad 95 0
   | some na=>fI fs k (eO ns fs k ns.length) (eT f) a na s) nd.l { s with fn:=s.fn.set x k }).map λr=>{ r with vars:=r.vars.take s.vars.length }
end
structure gB where
 ns:List aF
 fs:List aG
 types:List Nat
 slots:List Int
 fn:List Nat
 sizes:List Nat
def iL (body:Nat):List (List UInt8×Nat)->List bT->CkR (List bT)
 | [],vs=> .good vs
 | p :: l,vs=>if (dV vs p.1).isSome then .bad 41 body else iL body l (vs++[⟨p.1,p.2,vs.length⟩])
section
variable (ns:List aF) (fs:List aG)
def gV (k:Nat) (f:aG) (s:CkS):CkR CkS:=
 (iL f.body f.params []).bind λvs=>eT ns fs k ns.length f.body { s with vars:=vs,size:=vs.length }
def iR:Nat->List aG->List Nat->CkS->CkR (List Nat×CkS)
 | _,[],zs,s=> .good (zs,s)
 | k,f :: l,zs,s=>(gV ns fs k f s).bind λr=>iR (k+1) l (zs++[r.size]) r
def iM (f:aG):Bool:=decide (f.name=[109,97,105,110]) && decide (f.params.length=0) && decide (f.ret=0)
def dN:List (List UInt8)->List aG->Option Nat
 | _,[]=>none
 | seen,f :: l=>if f.name∈seen then some f.body else dN (seen++[f.name]) l
def jM:CkR Unit:=
 match dN [] fs with
 | some b=> .bad 41 b
 | none=>if fs.any iM then .good () else .bad 44 0
def jV:CkS:=⟨List.replicate ns.length 0,List.replicate ns.length (-1),List.replicate ns.length 0,[],0⟩
def eD:CkR gB:=
 (jM fs).bind λ_=>(iR ns fs 0 fs [] (jV ns)).map λr=>⟨ns,fs,r.2.types,r.2.slots,r.2.fn,r.1⟩
end
inductive fZ where
 | bad (p e:Nat)
 | good (p:gB)
def jA (src:List UInt8):Option fZ:=
 (parseM src).map fun
   | .bad p e=> .bad p e
   | .good ns fs=>match eD ns fs with
    | .bad e x=>if e=44 then .bad 0 44 else .bad ((ns[x]?.map (·.line)).getD 0) e
    | .good p=> .good p
end Go.Proofs.YtlbjicjinnnboaaGreatDoor
namespace Go.Proofs.YtlbjicjinnnboaaGreatDoor
open Go.RowKit Go.Proofs.Tryz
open Pw
variable {w w':World}
theorem qJ:wY prog 58 62 3 32 (.agg #[.string ⟨#[]⟩,U0,U0]):=wY.mk' (by kernel_rfl) (by kernel_rfl) rfl (by decide)
def eH (l:List Int):List Value:=l.map λx=>Value.int .i64 x
def aH (l:List bT):List Value:=l.flatMap λv=>[bs v.name,v.ty,v.slot]
theorem fH (l:List bT) (v:bT):aH (l++[v])=aH l++[.string (bs v.name),.int .i64 (v.ty:Nat),.int .i64 (v.slot:Nat)]:=by
 unfold aH;rw[List.flatMap_append];simp
theorem gF:∀{l:List bT}{j:Nat}{v:bT},l[j]?=some v->(aH l)[j*3]?=(bs v.name)∧(aH l)[j*3+1]?=v.ty∧(aH l)[j*3+2]?=v.slot
 | [],_,_,h=>by simp at h
 | a :: l,0,v,h=>by simp at h;subst h;exact⟨rfl,rfl,rfl⟩
 | a :: l,j+1,v,h=>by
  have:=gF (l:=l) (j:=j) (v:=v) (by simpa using h);have e:aH (a :: l)=[.string (bs a.name),.int .i64 (a.ty:Nat),.int .i64 (a.slot:Nat)]++aH l:=rfl;rw[e,List.getElem?_append_right (by simp;omega),List.getElem?_append_right (by simp;omega),List.getElem?_append_right (by simp;omega)];simp only[List.length_cons,List.length_nil];rw[show (j+1)*3 - (0+1+1+1)=j*3 by omega,show (j+1)*3+1 - (0+1+1+1)=j*3+1 by omega,show (j+1)*3+2 - (0+1+1+1)=j*3+2 by omega];exact this
theorem kF (l:List bT) (n:Nat):(aH l).take (n*3)=aH (l.take n):=by
 induction l generalizing n with
 | nil=>simp[aH]
 | cons a l ih=>
  cases n with
  | zero=>simp[aH]
  | succ n=>
   have e:∀m,aH (a :: m)=[.string (bs a.name),.int .i64 (a.ty:Nat),.int .i64 (a.slot:Nat)]++aH m:=λ_=>rfl
   rw[List.take_succ_cons,e,e,<-ih n,List.take_append];simp only[List.length_cons,List.length_nil];rw[show (n+1)*3 - (0+1+1+1)=n*3 by omega,aA5 (by simp;omega)]
structure Geo where
 M:Nat
 B:Nat
 Z:Nat
 g:Nat
 bt:Nat
 bs:Nat
 bf:Nat
 ct:Nat
 cs:Nat
 cf:Nat
 nv:Value
 fv:Value
 lvs:List Value
 pvs:List Value
 ns:List aF
 fs:List aG
 L:Nat
def wW (w:World) (k:Nat):Prop:=∃cs f,w.heap[k]?=some (.cells cs 62 f)
def FrK (G:Geo) (w w':World):Prop:=Fr (λk=>k=G.g∨k=G.bt∨k=G.bs∨k=G.bf∨(G.B<=k∧wW w k)) w w'
section
variable {G:Geo}{w w1 w2 w':World}
theorem FrK.refl (G:Geo) (w:World):FrK G w w:=Fr.refl _ w
theorem FrK.no (h:Fr nob w w1):FrK G w w1:=Fr.aGf h
theorem FrK.trans (h:FrK G w w1) (h2:FrK G w1 w2):FrK G w w2:=by
 refine Fr.trans h h2 (λ_ _ x=>x) (λk hk hM=>?_);rcases hM with e|e|e|e|⟨hb,cs,f,hc⟩
 . exact .inl e
 . exact .inr (.inl e)
 . exact .inr (.inr (.inl e))
 . exact .inr (.inr (.inr (.inl e)))
 . by_cases hn:k=G.g∨k=G.bt∨k=G.bs∨k=G.bf∨(G.B<=k∧wW w k)
   . exact hn
   . have:=h.block k hk hn
     exact .inr (.inr (.inr (.inr ⟨hb,cs,f,by rw[<-this];exact hc⟩)))
theorem FrK.far (h:FrK G w w'){b t:Nat}{cs:Array Value} (hb:Blk w b t cs) (h0:b≠G.g) (h1:b≠G.bt) (h2:b≠G.bs) (h3:b≠G.bf) (h4:t≠62):Blk w' b t cs:=by
 refine hb.fr h ?_;rintro (e|e|e|e|⟨_,cs',f,hc⟩)
 . exact h0 e
 . exact h1 e
 . exact h2 e
 . exact h3 e
 . unfold Blk at hb
   rw[hb] at hc;injection hc with hc;injection hc with _ ht;exact h4 ht
theorem FrK.low (h:FrK G w w'){b:Nat} (hl:b<w.heap.size) (hB:b<G.B) (h0:G.B<=G.g) (h1:G.B<=G.bt) (h2:G.B<=G.bs) (h3:G.B<=G.bf):w'.heap[b]?=w.heap[b]?:=by
 refine h.block b hl ?_;rintro (e|e|e|e|⟨e,_⟩)<;>omega
end
theorem Own.keep {e size n:Nat}{v:Value}{xs:List Value} (h:Own w e size v n xs) (hk:∀b,blk v=Option.some b->w'.heap[b]?=w.heap[b]?):Own w' e size v n xs:=by
 obtain⟨hl,A,c,rfl,h|⟨g,cur,rfl,h0,hb,r⟩⟩:=h
 . exact⟨hl,A,c,rfl,.inl h⟩
 . refine⟨hl,_,c,rfl,.inr ⟨g,cur,rfl,h0,?_,r⟩⟩
   unfold Blk at hb ⊢;rw[hk g (by simp[blk];omega)];exact hb
theorem bD.keep {K:Nat->Prop} (hk:∀b,K b->w'.heap[b]?=w.heap[b]?):∀{ns:List aF}{vs:List Value},bD w ns vs->(∀v∈vs,∀b,blk v=some b->K b)->bD w' ns vs
 | [],[],_,_=>trivial
 | [],_ :: _,h,_=>h.elim
 | _ :: _,[],h,_=>h.elim
 | _ :: _,v :: _,h,hv=>⟨h.1.keep λb hb=>hk b (hv v List.mem_cons_self b hb),bD.keep hk h.2 λu hu=>hv u (List.mem_cons_of_mem _ hu)⟩
theorem dG.keep {K:Nat->Prop} (hk:∀b,K b->w'.heap[b]?=w.heap[b]?):∀{fs:List aG}{vs:List Value},dG w fs vs->(∀v∈vs,∀b,blk v=some b->K b)->dG w' fs vs
 | [],[],_,_=>trivial
 | [],_ :: _,h,_=>h.elim
 | _ :: _,[],h,_=>h.elim
 | _ :: _,v :: _,h,hv=>⟨h.1.keep λb hb=>hk b (hv v List.mem_cons_self b hb),dG.keep hk h.2 λu hu=>hv u (List.mem_cons_of_mem _ hu)⟩
theorem bD.lt:∀{ns:List aF}{vs:List Value},bD w ns vs->∀v∈vs,∀b,blk v=some b->b<w.heap.size
 | [],[],_,v,hv,_,_=>by cases hv
 | [],_ :: _,h,_,_,_,_=>h.elim
 | _ :: _,[],h,_,_,_,_=>h.elim
 | _ :: _,u :: us,h,v,hv,b,hb=>by
  rcases List.mem_cons.1 hv with e|hv
  . subst e;exact h.1.aZ hb
  . exact bD.lt h.2 v hv b hb
theorem dG.lt:∀{fs:List aG}{vs:List Value},dG w fs vs->∀v∈vs,∀b,blk v=some b->b<w.heap.size
 | [],[],_,v,hv,_,_=>by cases hv
 | [],_ :: _,h,_,_,_,_=>h.elim
 | _ :: _,[],h,_,_,_,_=>h.elim
 | _ :: _,u :: us,h,v,hv,b,hb=>by
  rcases List.mem_cons.1 hv with e|hv
  . subst e;exact h.1.aZ hb
  . exact dG.lt h.2 v hv b hb
structure dJ (B:Nat) (w:World) (nv fv:Value) (lvs pvs:List Value) (ns:List aF) (fs:List aG):Prop where
 tree:cZ 0 w nv fv lvs pvs ns fs
 hn:∀b,blk nv=some b->b<B
 hf:∀b,blk fv=some b->b<B
 hl:∀v∈lvs,∀b,blk v=some b->b<B
 hp:∀v∈pvs,∀b,blk v=some b->b<B
 le:B<=w.heap.size
section
variable {B:Nat}{w w':World}{nv fv:Value}{lvs pvs:List Value}{ns:List aF}{fs:List aG}
theorem dJ.of (h:cZ 0 w nv fv lvs pvs ns fs):dJ w.heap.size w nv fv lvs pvs ns fs:=
 ⟨h,λb hb=>h.nodes.aZ hb,λb hb=>h.fns.aZ hb,λv hv b hb=>h.below.lt v hv b hb,λv hv b hb=>h.pars.lt v hv b hb,aA1 _⟩
theorem dJ.keep (h:dJ B w nv fv lvs pvs ns fs) (hk:∀b,b<B->w'.heap[b]?=w.heap[b]?) (hs:w.heap.size<=w'.heap.size):dJ B w' nv fv lvs pvs ns fs:=
 ⟨⟨h.tree.nodes.keep λb hb=>hk b (h.hn b hb),h.tree.below.keep hk h.hl,h.tree.same,h.tree.fns.keep λb hb=>hk b (h.hf b hb),h.tree.pars.keep hk h.hp,h.tree.samef,h.tree.newn,h.tree.newf⟩,h.hn,h.hf,h.hl,h.hp,Nat.le_trans h.le hs⟩
end
end Go.Proofs.YtlbjicjinnnboaaGreatDoor
namespace Go.Proofs.YtlbjicjinnnboaaGreatDoor
open Go.RowKit Go.Proofs.Tryz
open Pw
variable {R:CkR CkS}{e:Nat}
theorem Own.gY {w:World}{n c b:Nat}{xs:List Value} (h:Own w e 1 (.slice (Option.some (b,())) n c) n xs){j:Nat} (hj:j<n):(∃u,w.cell? (b,j)=Option.some u)∧w.frozen? (b,j)=false:=by
 obtain⟨hl,A',c',hv',⟨_,h2⟩|⟨g',cur,h1,_,hb,hnc,hcm,hsz,ht⟩⟩:=h
 . omega
 . injection hv' with e1 _ e3
   rw[<-e1] at h1;injection h1 with h1;injection h1 with h1;subst h1;refine⟨⟨cur[j]'(by omega),?_⟩,hb.frozen j⟩;rw[hb.cell,Array.getElem?_eq_getElem (by omega)]
theorem Own.cut {w:World}{size n m c:Nat}{A:Option Addr}{xs:List Value} (h:Own w e size (.slice A n c) n xs) (hm:m<=n):Own w e size (.slice A m c) m (xs.take (m*size)):=by
 obtain⟨hl,A',c',hv,⟨h1,h2⟩|⟨g,cur,h1,h0,hb,hnc,hcm,hsz,ht⟩⟩:=h
 . injection hv with e1 e2 e3
   subst e1;subst e3;refine⟨by rw[List.length_take,hl];exact Nat.min_eq_left (Nat.mul_le_mul_right _ hm),A,c,rfl,.inl ⟨h1,by omega⟩⟩
 . injection hv with e1 e2 e3
   subst e1;subst e3;refine⟨by rw[List.length_take,hl];exact Nat.min_eq_left (Nat.mul_le_mul_right _ hm),A,c,rfl,.inr ⟨g,cur,h1,h0,hb,by omega,hcm,hsz,?_⟩⟩;rw[<-ht,List.take_take,Nat.min_eq_left (Nat.mul_le_mul_right _ hm)]
theorem iJ (st:Nat->CkS->CkR CkS) (a:Nat):∀(l:List Nat) (s:CkS),dX st (l++[a]) s=(dX st l s).bind (st a)
 | [],s=>by
  show (st a s).bind (λs=>CkR.good s)=(CkR.good s).bind (st a)
  rw[CkR.aC];cases st a s<;>rfl
 | b :: l,s=>by
  show (st b s).bind _=((st b s).bind _).bind _
  cases st b s with
  | bad e p=>rfl
  | good u=>exact iJ st a l u
theorem qL {st:Nat->CkS->CkR CkS}{p:Nat}:∀(l m:List Nat) (s:CkS),dX st l s = .bad e p->dX st (l++m) s = .bad e p:=by
 intro l m;induction m generalizing l with
 | nil=>intro s h;rw[List.append_nil];exact h
 | cons a m ih=>
  intro s h;have:l++a :: m=(l++[a])++m:=by simp
  rw[this];exact ih (l++[a]) s (by rw[iJ,h];rfl)
section
variable {s:CkS}{e p:Nat}
def fO (R:CkR CkS) (s:CkS) (e p:Nat):Prop:=(e=0∧p=0∧R = .good s)∨(e≠0∧e<=99∧R = .bad e p)
theorem fO.fails (h:fO R s e p){e':Nat} (h1:e'≠0) (h2:e'<=99) (x:Nat):fO (R.bind λ_=> .bad e' x) s (if e=0 then e' else e) (if e=0 then x else p):=by
 rcases h with ⟨rfl,rfl,rfl⟩|⟨h3,h4,rfl⟩
 . exact .inr ⟨by simpa using h1,by simpa using h2,rfl⟩
 . rw[if_neg h3,if_neg h3];exact .inr ⟨h3,h4,rfl⟩
theorem fO.pass (h:fO R s e p){f:CkS->CkR CkS}{s':CkS} (hf:f s = .good s'):fO (R.bind f) s' e p:=by
 rcases h with ⟨rfl,rfl,rfl⟩|⟨h3,h4,rfl⟩
 . exact .inl ⟨rfl,rfl,hf⟩
 . exact .inr ⟨h3,h4,rfl⟩
theorem fO.into (h:fO R s e p){f:CkS->CkR CkS}{a b:Nat} (hf:f s = .bad a b) (h1:a≠0) (h2:a<=99) (s':CkS):fO (R.bind f) s' (if e=0 then a else e) (if e=0 then b else p):=by
 rcases h with ⟨rfl,rfl,rfl⟩|⟨h3,h4,rfl⟩
 . exact .inr ⟨by simpa using h1,by simpa using h2,hf⟩
 . rw[if_neg h3,if_neg h3];exact .inr ⟨h3,h4,rfl⟩
theorem fO.eq {R':CkR CkS} (h:fO R s e p) (hr:∀u,R = .good u->R'=R) (hr2:∀e p,R = .bad e p->R'=R):fO R' s e p:=by
 cases hR:R with
 | good u=>rw[hr u hR];exact h
 | bad e p=>rw[hr2 e p hR];exact h
end
end Go.Proofs.YtlbjicjinnnboaaGreatDoor
namespace Go.Proofs.YtlbjicjinnnboaaGreatDoor
open Go.RowKit Go.Proofs.Tryz
open Pw
variable {w w':World}
structure kT (w:World) (nv fv tv sv uv zv:Value) (lvs pvs:List Value) (p:gB):Prop where
 tree:cZ 0 w nv fv lvs pvs p.ns p.fs
 types:Own w 3 1 tv p.types.length (ints p.types)
 slots:Own w 3 1 sv p.slots.length (eH p.slots)
 fn:Own w 3 1 uv p.fn.length (ints p.fn)
 sizes:Own w 3 1 zv p.sizes.length (ints p.sizes)
def aQv:Value:= .agg #[Un,Un,Un,Un,Un,Un]
def CheckAt (w:World) (en:Ending) (nv fv:Value) (lvs pvs:List Value):CkR gB->Prop
 | .bad e p=>en = .returned (.tuple #[aQv,.int .i64 (p:Nat),.int .i64 (e:Nat)])∧e≠0∧e<=99
 | .good p=>∃tv sv uv zv,en = .returned (.tuple #[.agg #[nv,fv,tv,sv,uv,zv],.int .i64 0,.int .i64 0])∧kT w nv fv tv sv uv zv lvs pvs p
theorem kT.no {nv fv tv sv uv zv:Value}{lvs pvs:List Value}{p:gB} (h:kT w nv fv tv sv uv zv lvs pvs p) (f:Fr nob w w'):kT w' nv fv tv sv uv zv lvs pvs p:=
 ⟨h.tree.no f,h.types.fr f (λ_ _ x=>x),h.slots.fr f (λ_ _ x=>x),h.fn.fr f (λ_ _ x=>x),h.sizes.fr f (λ_ _ x=>x)⟩
theorem CheckAt.no {en:Ending}{nv fv:Value}{lvs pvs:List Value}{r:CkR gB} (h:CheckAt w en nv fv lvs pvs r) (f:Fr nob w w'):CheckAt w' en nv fv lvs pvs r:=by
 cases r with
 | bad e p=>exact h
 | good p=>obtain⟨tv,sv,uv,zv,he,hp⟩:=h;exact⟨tv,sv,uv,zv,he,hp.no f⟩
section
variable {g:Nat}{nv fv:Value}{lvs pvs:List Value}{ns:List aF}{fs:List aG}
theorem cZ.aSo (h:cZ 0 w nv fv lvs pvs ns fs){t:TypeId}{cs:Array Value} (hb:Blk w g t cs) (h1:t≠50) (h2:t≠3) (h3:t≠48) (h4:t≠101) (f:Fr (bY g) w w'):cZ 0 w' nv fv lvs pvs ns fs:=by
 have own:∀{e size n:Nat} {v:Value} {xs:List Value},Own w e size v n xs->e≠t->∀b,blk v=some b->¬bY g b:=λho hne b hb' hm=>by
  have hm:b=g:=hm;subst hm;exact ho.aD hb hne hb'
 have below:∀{ns:List aF} {vs:List Value},bD w ns vs->bD w' ns vs:=by
  intro ns;induction ns with
  | nil=>intro vs hb;cases vs with
   | nil=>trivial
   | cons _ _=>exact hb.elim
  | cons n ns ih=>intro vs hb;cases vs with
   | nil=>exact hb.elim
   | cons u vs=>exact⟨hb.1.fr f (own hb.1 (λe=>h2 e.symm)),ih hb.2⟩
 exact⟨h.nodes.fr f (own h.nodes (λe=>h1 e.symm)),below h.below,h.same,h.fns.fr f (own h.fns (λe=>h3 e.symm)),h.pars.to f (λb cs' hc hm=>by
  have hm:b=g:=hm;subst hm;exact hc.ne hb (λe=>h4 e.symm) rfl),h.samef,h.newn,h.newf⟩
end
end Go.Proofs.YtlbjicjinnnboaaGreatDoor
namespace Go.Proofs.YtlbjicjinnnboaaGreatDoor
open Go.RowKit Go.Proofs.Tryz
open Pw
variable {f:aG}{j:Nat}
theorem nE (f:aG):∀(l:List aG) (seen:List (List UInt8)),dN seen (l++[f])=(dN seen l).or (if f.name∈seen++l.map (·.name) then some f.body else none)
 | [],seen=>by
  show (if f.name∈seen then some f.body else dN (seen++[f.name]) [])=_
  show (if f.name∈seen then some f.body else none)=_
  simp[dN]
 | a :: l,seen=>by
  show (if a.name∈seen then some a.body else dN (seen++[a.name]) (l++[f]))=((if a.name∈seen then some a.body else dN (seen++[a.name]) l)).or _
  by_cases h:a.name∈seen
  . rw[if_pos h,if_pos h];rfl
  . rw[if_neg h,if_neg h,nE f l]
    simp
def stE:Option Nat->Nat|none=>0|some _=>41
def stP:Option Nat->Nat|none=>0|some b=>b
theorem aQs (o:Option Nat) (x:Nat):(if stE o=0 then 41 else stE o)=stE (o.or (some x))∧(if stE o=0 then x else stP o)=stP (o.or (some x)):=by
 cases o<;>simp[stE,stP]
section
variable {w:World}{lvs pvs:List Value}{ns:List aF}{fs:List aG}
def qG (fs:List aG) (nm:List UInt8):Bool:=fs.any λg=>decide (g.name=nm)
theorem aHc (fs:List aG) (nm:List UInt8) (x:Nat):(if qG fs nm=true then some x else none)=(if nm∈fs.map (·.name) then some x else (none:Option Nat)):=by
 have:qG fs nm=true↔nm∈fs.map (·.name):=by
   unfold qG;rw[List.any_eq_true,List.mem_map];constructor
   . rintro⟨g,hg,h⟩;exact⟨g,hg,by simpa using h⟩
   . rintro⟨g,hg,h⟩;exact⟨g,hg,by simpa using h⟩
 by_cases h:qG fs nm=true
 . rw[if_pos h,if_pos (this.1 h)]
 . rw[if_neg h,if_neg (λh2=>h (this.2 h2))]
theorem aDn (hf:fs[j]?=some f) (nm:List UInt8):qG (fs.take (j+1)) nm=(qG (fs.take j) nm || decide (f.name=nm)):=by
 unfold qG;rw[List.take_add_one,hf,List.any_append];simp
theorem qD (hf:fs[j]?=some f):(fs.take (j+1)).any iM=((fs.take j).any iM || iM f):=by
 rw[List.take_add_one,hf,List.any_append];simp
theorem cZ.fn2 {B fb c:Nat}{w:World}{nv:Value} (h:cZ B w nv (fb,fs.length,c) lvs pvs ns fs) (hf:fs[j]?=some f):∃pv,Own w 101 2 pv f.params.length (aN f.params) ∧
  w.cell? (fb,j*5)=(bs f.name)∧w.cell? (fb,j*5+1)=f.line∧w.cell? (fb,j*5+2)=some pv∧w.cell? (fb,j*5+3)=f.ret∧w.cell? (fb,j*5+4)=f.body:=by
 have hlt:=(gK hf);obtain⟨fb',e,hcell⟩:=h.fns.some (by omega);injection e with e;injection e with e;subst e;obtain⟨pv,hpv⟩:∃pv,pvs[j]?=some pv:=⟨_,gE (by have:=h.samef;omega)⟩;have key:=dI hf hpv;exact⟨pv,h.pars.get hf hpv,hcell _ _ (key 0 _ rfl),hcell _ _ (key 1 _ rfl),hcell _ _ (key 2 _ rfl),hcell _ _ (key 3 _ rfl),hcell _ _ (key 4 _ rfl)⟩
end
end Go.Proofs.YtlbjicjinnnboaaGreatDoor
namespace Go.Proofs.YtlbjicjinnnboaaGreatDoor
open Go.RowKit Go.Proofs.Tryz
open Pw
variable {n c size t:Nat}{xs:List Value}
def jU (G:Geo) (zv vv:Value) (k size e p:Nat):Array Value:=
 #[G.nv,G.fv,(G.bt,G.ns.length,G.ct),(G.bs,G.ns.length,G.cs),(G.bf,G.ns.length,G.cf),zv,k,vv,size,e,p]
structure gN (G:Geo):Prop where
 hM:G.M<=1000
 hg:G.B<=G.g
 ht:G.B<=G.bt
 hs:G.B<=G.bs
 hf:G.B<=G.bf
 lg:G.g<G.Z
 lt:G.bt<G.Z
 ls:G.bs<G.Z
 lf:G.bf<G.Z
 ts:G.bt≠G.bs
 tf:G.bt≠G.bf
 sf:G.bs≠G.bf
 pos:0<G.ns.length
 few:G.ns.length<=300
 fewf:G.fs.length<=6
 fewp:∀f∈G.fs,f.params.length<=3
 fewk:∀nd∈G.ns,nd.l.length<=300
 ok:nA G.ns G.fs
structure Ck (G:Geo) (w:World) (s:CkS) (zs:List Nat) (k e p:Nat):Prop where
 geo:gN G
 tree:dJ G.B w G.nv G.fv G.lvs G.pvs G.ns G.fs
 ex:∃zv vv,Blk w G.g 99 (jU G zv vv k s.size e p) ∧
  Own w 3 1 zv zs.length (ints zs)∧(∀b,blk zv=some b->G.B<=b∧b≠G.bt∧b≠G.bs∧b≠G.bf∧b<G.Z) ∧
  Own w 62 3 vv s.vars.length (aH s.vars)∧(∀b,blk vv=some b->G.B<=b)
 types:Own w 3 1 (G.bt,G.ns.length,G.ct) G.ns.length (ints s.types)
 slots:Own w 3 1 (G.bs,G.ns.length,G.cs) G.ns.length (eH s.slots)
 fn:Own w 3 1 (G.bf,G.ns.length,G.cf) G.ns.length (ints s.fn)
 kk:k<G.fs.length
 size:s.size<=G.M
 fine:e=0->s.size<=24
 vars:s.vars.length<=s.size
 zs:zs.length<=1000
 zle:G.Z<=w.heap.size
theorem aQ {b:Nat} (hn:0<n) (hc:n<=c):blk (b,n,c)=some b:=by simp[blk];omega
section
variable {G:Geo}{w w1 w2 w':World}{s:CkS}{zs:List Nat}{k e p:Nat}
theorem Own.oH {w:World}{e m:Nat}{A:Option Addr} (h:Own w e size (.slice A n c) m xs):n<=c∧c<=maxLen∧n=m:=by
 obtain⟨A',c',hv,h1,h2⟩:=h.cap;injection hv with _ e2 e3;subst e2;subst e3;exact⟨h1,h2,rfl⟩
theorem Ck.vK (h:Ck G w s zs k e p):blk (G.bt,G.ns.length,G.ct)=some G.bt:=aQ h.geo.pos h.types.oH.1
theorem Ck.tF (h:Ck G w s zs k e p):blk (G.bs,G.ns.length,G.cs)=some G.bs:=aQ h.geo.pos h.slots.oH.1
theorem Ck.vL (h:Ck G w s zs k e p):blk (G.bf,G.ns.length,G.cf)=some G.bf:=aQ h.geo.pos h.fn.oH.1
theorem Ck.gne (h:Ck G w s zs k e p):G.g≠G.bt∧G.g≠G.bs∧G.g≠G.bf:=by
 obtain⟨zv,vv,hb,_⟩:=h.ex;refine⟨λe1=>?_,λe1=>?_,λe1=>?_⟩
 . exact h.types.aD hb (by decide) (by rw[h.vK,e1])
 . exact h.slots.aD hb (by decide) (by rw[h.tF,e1])
 . exact h.fn.aD hb (by decide) (by rw[h.vL,e1])
theorem Ck.jK (h:Ck G w s zs k e p):G.g<w.heap.size:=by
 obtain⟨zv,vv,hb,_⟩:=h.ex;exact hb.lt
theorem Ck.keep (h:Ck G w s zs k e p) (hs:w.heap.size<=w'.heap.size) (hk:∀b,b<w.heap.size->(b<G.B∨b=G.g∨b=G.bt∨b=G.bs∨b=G.bf∨(G.B<=b∧wW w b)∨(∃zv vv,w.cell? (G.g,5)=some zv∧blk zv=some b∧vv=zv))->w'.heap[b]?=w.heap[b]?):Ck G w' s zs k e p:=by
 obtain⟨zv,vv,hb,hz,hz2,hv,hv2⟩:=h.ex;have c5:w.cell? (G.g,5)=some zv:=by simpa[jU] using hb.cell 5
 refine⟨h.geo,h.tree.keep (λb hb=>hk b (Nat.lt_of_lt_of_le hb h.tree.le) (.inl hb)) hs,⟨zv,vv,?_,hz.keep (λb hb=>hk b (hz.aZ hb) (.inr (.inr (.inr (.inr (.inr (.inr ⟨zv,zv,c5,hb,rfl⟩))))))),hz2,hv.keep (λb hb=>hk b (hv.aZ hb) ?_),hv2⟩,h.types.keep (λb hb=>?_),h.slots.keep (λb hb=>?_),h.fn.keep (λb hb=>?_),h.kk,h.size,h.fine,h.vars,h.zs,Nat.le_trans h.zle hs⟩
 . unfold Blk at hb ⊢
   rw[hk _ (Array.getElem?_eq_some_iff.1 hb).1 (.inr (.inl rfl))];exact hb
 . obtain⟨cs,hc⟩:=hv.ty hb
   exact .inr (.inr (.inr (.inr (.inr (.inl ⟨hv2 b hb,cs,_,hc⟩)))))
 . have:=h.types.aZ hb
   rw[h.vK] at hb;injection hb with hb;subst hb;exact hk _ this (.inr (.inr (.inl rfl)))
 . have:=h.slots.aZ hb
   rw[h.tF] at hb;injection hb with hb;subst hb;exact hk _ this (.inr (.inr (.inr (.inl rfl))))
 . have:=h.fn.aZ hb
   rw[h.vL] at hb;injection hb with hb;subst hb;exact hk _ this (.inr (.inr (.inr (.inr (.inl rfl)))))
theorem aPk {v:Value} (ho:Own w t size v n xs) (ht:t≠62){b:Nat} (hb:blk v=some b):¬wW w b:=by
 rintro⟨cs,f,hc⟩;obtain⟨cs2,hc2⟩:=ho.ty hb;unfold Blk at hc2;rw[hc2] at hc;injection hc with hc;injection hc with _ h2;exact ht h2
theorem Ck.no (h:Ck G w s zs k e p) (f:Fr nob w w'):Ck G w' s zs k e p:=h.keep f.size λb hb _=>f.block b hb (λx=>x)
theorem Ck.other (h:Ck G w s zs k e p){M:Nat->Prop} (f:Fr M w w') (hM:∀b,M b->b<w.heap.size->G.Z<=b∧¬wW w b):Ck G w' s zs k e p:=by
 refine h.keep f.size λb hb hk=>f.block b hb λhm=>?_
 obtain⟨h1,h2⟩:=hM b hm hb;obtain⟨zv,vv,hbl,_,hz2,_⟩:=h.ex;have c5:w.cell? (G.g,5)=some zv:=by simpa[jU] using hbl.cell 5
 have g1:=h.geo.lg;have g2:=h.geo.lt;have g3:=h.geo.ls;have g4:=h.geo.lf;have g5:=h.geo.hg;rcases hk with x|x|x|x|x|⟨_,x⟩|⟨zv',vv',x,y,_⟩
 . omega
 . omega
 . omega
 . omega
 . omega
 . exact h2 x
 . rw[c5] at x;injection x with x;subst x
   have:=(hz2 b y).2.2.2.2;omega
theorem Ck.cells (h:Ck G w s zs k e p):∃zv vv,w.cell? (G.g,0)=some G.nv∧w.cell? (G.g,1)=some G.fv ∧
  w.cell? (G.g,2)=(G.bt,G.ns.length,G.ct)∧w.cell? (G.g,3)=(G.bs,G.ns.length,G.cs)∧w.cell? (G.g,4)=(G.bf,G.ns.length,G.cf) ∧
  w.cell? (G.g,5)=some zv∧w.cell? (G.g,6)=k∧w.cell? (G.g,7)=some vv∧w.cell? (G.g,8)=s.size∧w.cell? (G.g,9)=e∧w.cell? (G.g,10)=p ∧
  (∀i,w.frozen? ⟨G.g,i,none⟩=false)∧Own w 62 3 vv s.vars.length (aH s.vars)∧(∀b,blk vv=some b->G.B<=b):=by
 obtain⟨zv,vv,hb,hz,hz2,hv,hv2⟩:=h.ex;refine⟨zv,vv,?_,?_,?_,?_,?_,?_,?_,?_,?_,?_,?_,λi=>hb.frozen i,hv,hv2⟩<;>rw[hb.cell]<;>rfl
theorem Ck.aLs (h:Ck G w s zs k e p) (j:Nat) (u:Value){s':CkS}{k' e' p':Nat} (hc:∀zv vv,(jU G zv vv k s.size e p).setIfInBounds j u=jU G zv vv k' s'.size e' p') (h1:s'.types=s.types) (h2:s'.slots=s.slots) (h3:s'.fn=s.fn) (h4:s'.vars=s.vars)
  (hk:k'<G.fs.length) (hz:s'.size<=G.M) (hf:e'=0->s'.size<=24) (hv:s'.vars.length<=s'.size):Ck G (w.setCell (G.g,j) u) s' zs k' e' p'∧FrK G w (w.setCell (G.g,j) u):=by
 obtain⟨zv,vv,hb,hz0,hz2,hv0,hv2⟩:=h.ex;obtain⟨n1,n2,n3⟩:=h.gne;have hB:=h.geo.hg;refine⟨⟨h.geo,h.tree.keep (λb hb=>?_) (by simp),⟨zv,vv,by rw[<-hc];exact hb.setCell j u,hz0.far (p:=(G.g,j)) (hz0.aD hb (by decide)) u,hz2,by rw[h4];exact hv0.far (p:=(G.g,j)) (hv0.aD hb (by decide)) u,hv2⟩,
  by rw[h1];exact h.types.far (p:=(G.g,j)) (h.types.aD hb (by decide)) u,by rw[h2];exact h.slots.far (p:=(G.g,j)) (h.slots.aD hb (by decide)) u,by rw[h3];exact h.fn.far (p:=(G.g,j)) (h.fn.aD hb (by decide)) u,hk,hz,hf,hv,h.zs,by simpa using h.zle⟩,
  ((Fr.refl (bY G.g) w).setCell (G.g,j) _ (λ_=>rfl)).mono (λk _ e=> .inl e)⟩
 exact Below.heap_setCell w (G.g,j) u b (by show b≠G.g;omega)
theorem Ck.aSh (h:Ck G w s zs k e p) (j t:Nat):Ck G (w.setCell (G.bt,j) t) { s with types:=s.types.set j t } zs k e p∧FrK G w (w.setCell (G.bt,j) t):=by
 obtain⟨zv,vv,hb,hz0,hz2,hv0,hv2⟩:=h.ex;obtain⟨n1,n2,n3⟩:=h.gne;have hB:=h.geo.ht;refine⟨⟨h.geo,h.tree.keep (λb hb=>?_) (by simp),⟨zv,vv,hb.far (p:=(G.bt,j)) n1 _,hz0.far (p:=(G.bt,j)) (λe=>(hz2 _ e).2.1 rfl) _,hz2,hv0.far (p:=(G.bt,j)) (λe=>h.types.fV hv0 (by decide) e h.vK) _,hv2⟩,
  by have:=h.types.store h.vK j t;rw[show (ints s.types).set j t=ints (s.types.set j t) by unfold ints;rw[List.map_set]] at this;exact this,
  h.slots.far (p:=(G.bt,j)) (by rw[h.tF];intro e;injection e with e;exact h.geo.ts e.symm) _,h.fn.far (p:=(G.bt,j)) (by rw[h.vL];intro e;injection e with e;exact h.geo.tf e.symm) _,h.kk,h.size,h.fine,h.vars,h.zs,by simpa using h.zle⟩,
  ((Fr.refl (bY G.bt) w).setCell (G.bt,j) _ (λ_=>rfl)).mono (λk _ e=> .inr (.inl e))⟩
 exact Below.heap_setCell w (G.bt,j) _ b (by show b≠G.bt;omega)
theorem Ck.aQj (h:Ck G w s zs k e p) (j:Nat) (t:Int):Ck G (w.setCell (G.bs,j) t) { s with slots:=s.slots.set j t } zs k e p∧FrK G w (w.setCell (G.bs,j) t):=by
 obtain⟨zv,vv,hb,hz0,hz2,hv0,hv2⟩:=h.ex;obtain⟨n1,n2,n3⟩:=h.gne;have hB:=h.geo.hs;refine⟨⟨h.geo,h.tree.keep (λb hb=>?_) (by simp),⟨zv,vv,hb.far (p:=(G.bs,j)) n2 _,hz0.far (p:=(G.bs,j)) (λe=>(hz2 _ e).2.2.1 rfl) _,hz2,hv0.far (p:=(G.bs,j)) (λe=>h.slots.fV hv0 (by decide) e h.tF) _,hv2⟩,
  h.types.far (p:=(G.bs,j)) (by rw[h.vK];intro e;injection e with e;exact h.geo.ts e) _,
  by have:=h.slots.store h.tF j t;rw[show (eH s.slots).set j t=eH (s.slots.set j t) by unfold eH;rw[List.map_set]] at this;exact this,
  h.fn.far (p:=(G.bs,j)) (by rw[h.vL];intro e;injection e with e;exact h.geo.sf e.symm) _,h.kk,h.size,h.fine,h.vars,h.zs,by simpa using h.zle⟩,
  ((Fr.refl (bY G.bs) w).setCell (G.bs,j) _ (λ_=>rfl)).mono (λk _ e=> .inr (.inr (.inl e)))⟩
 exact Below.heap_setCell w (G.bs,j) _ b (by show b≠G.bs;omega)
theorem Ck.kI (h:Ck G w s zs k e p) (j t:Nat):Ck G (w.setCell (G.bf,j) t) { s with fn:=s.fn.set j t } zs k e p∧FrK G w (w.setCell (G.bf,j) t):=by
 obtain⟨zv,vv,hb,hz0,hz2,hv0,hv2⟩:=h.ex;obtain⟨n1,n2,n3⟩:=h.gne;have hB:=h.geo.hf;refine⟨⟨h.geo,h.tree.keep (λb hb=>?_) (by simp),⟨zv,vv,hb.far (p:=(G.bf,j)) n3 _,hz0.far (p:=(G.bf,j)) (λe=>(hz2 _ e).2.2.2.1 rfl) _,hz2,hv0.far (p:=(G.bf,j)) (λe=>h.fn.fV hv0 (by decide) e h.vL) _,hv2⟩,
  h.types.far (p:=(G.bf,j)) (by rw[h.vK];intro e;injection e with e;exact h.geo.tf e) _,
  h.slots.far (p:=(G.bf,j)) (by rw[h.tF];intro e;injection e with e;exact h.geo.sf e) _,
  by have:=h.fn.store h.vL j t;rw[show (ints s.fn).set j t=ints (s.fn.set j t) by unfold ints;rw[List.map_set]] at this;exact this,h.kk,h.size,h.fine,h.vars,h.zs,by simpa using h.zle⟩,
  ((Fr.refl (bY G.bf) w).setCell (G.bf,j) _ (λ_=>rfl)).mono (λk _ e=> .inr (.inr (.inr (.inl e))))⟩
 exact Below.heap_setCell w (G.bf,j) _ b (by show b≠G.bf;omega)
def Geo.more (G:Geo):Geo:={ G with M:=G.M+1 }
theorem gN.more (h:gN G) (hM:G.M<=999):gN G.more:=⟨by show G.M+1<=1000;omega,h.hg,h.ht,h.hs,h.hf,h.lg,h.lt,h.ls,h.lf,h.ts,h.tf,h.sf,h.pos,h.few,h.fewf,h.fewp,h.fewk,h.ok⟩
theorem Ck.more (h:Ck G w s zs k e p) (hM:G.M<=999):Ck G.more w s zs k e p:=⟨h.geo.more hM,h.tree,h.ex,h.types,h.slots,h.fn,h.kk,Nat.le_succ_of_le h.size,h.fine,h.vars,h.zs,h.zle⟩
theorem Ck.aRn (h:Ck G w s zs k e p){vv:Value} (hvv:w.cell? (G.g,7)=some vv){nm:List UInt8}{o:Obj}{A:Option Addr}
   (ho:Own w' 62 3 (.slice A (s.vars.length+1) c) (s.vars.length+1) (aH s.vars++[.string (bs nm),.int .i64 (t:Nat),.int .i64 (s.size:Nat)]))
   (hf:Fr (obl (blk vv)) (w.alloc o) w') (hv:blk (.slice A (s.vars.length+1) c)=blk vv∨blk (.slice A (s.vars.length+1) c)=some (w.alloc o).heap.size) (hM:G.M<=999) (hfine:e=0->s.size<=23):
   (w'.setCell ⟨G.g,7,none⟩ (.slice A (s.vars.length+1) c)).cell? ⟨G.g,8,none⟩=some (.int .i64 (s.size:Nat))∧(∀i,(w'.setCell ⟨G.g,7,none⟩ (.slice A (s.vars.length+1) c)).frozen? ⟨G.g,i,none⟩=false) ∧
   Ck G.more ((w'.setCell (G.g,U7) (.slice A (s.vars.length+1) c)).setCell (G.g,U8) ((s.size:Int)+1:Int)) { s with vars:=s.vars++[⟨nm,t,s.size⟩],size:=s.size+1 } zs k e p ∧
   FrK G w ((w'.setCell (G.g,U7) (.slice A (s.vars.length+1) c)).setCell (G.g,U8) ((s.size:Int)+1:Int)):=by
 obtain⟨zv,vv',hb,hz0,hz2,hv0,hv2⟩:=h.ex;have e7:w.cell? (G.g,7)=some vv':=by rw[hb.cell];rfl
 rw[e7] at hvv;injection hvv with hvv;subst hvv;have hBg:=h.geo.hg;have hBt:=h.geo.ht;have hBs:=h.geo.hs;have hBf:=h.geo.hf;have hle:G.B<=w.heap.size:=h.tree.le;have f0:Fr nob w (w.alloc o):=(fR w).alloc o;have far:∀{e' size n:Nat} {v:Value} {xs:List Value},Own w e' size v n xs->e'≠62->∀b,blk v=some b->¬obl (blk vv') b:=λho' hne b hb' hm=>by
   have h1:blk vv'=some b:=hm;exact ho'.fV hv0 hne h1 hb'
 have hb1:Blk w' G.g 99 (jU G zv vv' k s.size e p):=(hb.fr f0 (λx=>x)).fr hf (λhm=>hv0.aD hb (by decide) hm);have hb2:=hb1.setCell 7 (.slice A (s.vars.length+1) c);have hb3:=hb2.setCell 8 ((s.size:Int)+1:Int);have keep:∀b,b<G.B->((w'.setCell (G.g,U7) (.slice A (s.vars.length+1) c)).setCell (G.g,U8) ((s.size:Int)+1:Int)).heap[b]?=w.heap[b]?:=λb hb'=>by
   rw[Below.heap_setCell _ _ _ _ (by show b≠G.g;omega),Below.heap_setCell _ _ _ _ (by show b≠G.g;omega)];rw[hf.block b (by simp;omega) (λhm=>by have:=hv2 b hm;omega)];exact Below.heap_alloc _ _ _ (by omega)
 have own2:∀{e' n:Nat} {v:Value} {xs:List Value},Own w e' 1 v n xs->e'≠62->blk v≠some G.g->Own ((w'.setCell (G.g,U7) (.slice A (s.vars.length+1) c)).setCell (G.g,U8) ((s.size:Int)+1:Int)) e' 1 v n xs:=λho' hne hg=>
   (((ho'.fr f0 (λ_ _ x=>x)).fr hf (far ho' hne)).far (p:=(G.g,U7)) hg _).far (p:=(G.g,U8)) hg _
 have hov:Own ((w'.setCell (G.g,U7) (.slice A (s.vars.length+1) c)).setCell (G.g,U8) ((s.size:Int)+1:Int)) 62 3 (.slice A (s.vars.length+1) c) (s.vars.length+1) (aH (s.vars++[⟨nm,t,s.size⟩])):=by
   rw[fH];exact (ho.far (p:=(G.g,U7)) (ho.aD hb1 (by decide)) _).far (p:=(G.g,U8)) (ho.aD hb1 (by decide)) _
 refine⟨?_,λi=>hb2.frozen i,⟨h.geo.more hM,h.tree.keep keep ?_,⟨zv,.slice A (s.vars.length+1) c,?_,own2 hz0 (by decide) (hz0.aD hb (by decide)),hz2,?_,?_⟩,own2 h.types (by decide) (h.types.aD hb (by decide)),own2 h.slots (by decide) (h.slots.aD hb (by decide)),own2 h.fn (by decide) (h.fn.aD hb (by decide)),h.kk,?_,λh0=>?_,?_,h.zs,?_⟩,?_⟩
 . rw[hb2.cell];rfl
 . have:=hf.size;simp at this ⊢;omega
 . exact hb3
 . show Own _ _ _ _ (s.vars++[(⟨nm,t,s.size⟩:bT)]).length _
   rw[aA3];exact hov
 . intro b hb'
   rcases hv with h9|h9
   . exact hv2 b (h9 ▸ hb')
   . rw[hb'] at h9;injection h9 with h9;simp at h9;show G.B<=b;omega
 . show s.size+1<=G.M+1;have:=h.size;omega
 . show s.size+1<=24;have:=hfine h0;omega
 . show (s.vars++[(⟨nm,t,s.size⟩:bT)]).length<=s.size+1;rw[aA3];have:=h.vars;simp;exact this
 . have:=hf.size;have:=h.zle;simp at this ⊢;show G.Z<=_;simp at *;omega
 . refine FrK.trans (FrK.no f0) (FrK.trans (w1:=w') (Fr.mono hf λb hb' hm=>?_) ?_)
   . obtain⟨cs,hc⟩:=hv0.ty (k:=b) hm
     exact .inr (.inr (.inr (.inr ⟨hv2 b hm,cs,_,(hc.alloc o)⟩)))
   . exact (((Fr.refl (bY G.g) w').setCell (G.g,U7) _ (λ_=>rfl)).setCell (G.g,U8) _ (λ_=>rfl)).mono (λk _ e=> .inl e)
theorem FrK.own (f:FrK G w w'){v:Value} (ho:Own w t size v n xs) (h1:t≠62) (h2:∀b,blk v=some b->b≠G.g∧b≠G.bt∧b≠G.bs∧b≠G.bf):Own w' t size v n xs:=
 ho.keep λb hb=>f.block b (ho.aZ hb) (by
  obtain⟨a1,a2,a3,a4⟩:=h2 b hb;rintro (x|x|x|x|⟨_,cs,f',hc⟩)
  . exact a1 x
  . exact a2 x
  . exact a3 x
  . exact a4 x
  . obtain⟨cs2,hc2⟩:=ho.ty hb
    unfold Blk at hc2;rw[hc2] at hc;injection hc with hc;injection hc with _ ht;exact h1 ht)
end
def CkM (G:Geo) (w:World) (r:CkR CkS) (zs:List Nat) (k:Nat):Prop:=match r with
 | .good s=>Ck G w s zs k 0 0
 | .bad e p=>e≠0∧e<=99∧∃s,Ck G w s zs k e p
section
variable {G:Geo}{w w':World}{r:CkR CkS}{zs:List Nat}{k:Nat}
theorem CkM.open_ (h:CkM G w r zs k):∃s e p,Ck G w s zs k e p∧((e=0∧p=0∧r = .good s)∨(e≠0∧e<=99∧r = .bad e p)):=by
 cases r with
 | good s=>exact⟨s,0,0,h,.inl ⟨rfl,rfl,rfl⟩⟩
 | bad e p=>obtain⟨h1,h2,s,h3⟩:=h;exact⟨s,e,p,h3,.inr ⟨h1,h2,rfl⟩⟩
theorem CkM.no (h:CkM G w r zs k) (f:Fr nob w w'):CkM G w' r zs k:=by
 cases r with
 | good s=>exact Ck.no h f
 | bad e p=>obtain⟨h1,h2,s,h3⟩:=h;exact⟨h1,h2,s,h3.no f⟩
theorem CkM.other (h:CkM G w r zs k){M:Nat->Prop} (f:Fr M w w') (hM:∀b,M b->b<w.heap.size->G.Z<=b∧¬wW w b):CkM G w' r zs k:=by
 cases r with
 | good s=>exact Ck.other h f hM
 | bad e p=>obtain⟨h1,h2,s,h3⟩:=h;exact⟨h1,h2,s,h3.other f hM⟩
theorem CkM.geo (h:CkM G w r zs k):gN G:=by
 obtain⟨s,e,p,h,_⟩:=h.open_;exact h.geo
theorem CkM.tree (h:CkM G w r zs k):dJ G.B w G.nv G.fv G.lvs G.pvs G.ns G.fs:=by
 obtain⟨s,e,p,h,_⟩:=h.open_;exact h.tree
end
end Go.Proofs.YtlbjicjinnnboaaGreatDoor
namespace Go.Proofs.YtlbjicjinnnboaaGreatDoor
open Go.RowKit Go.Proofs.Tryz
open Pw
def jS (G:Geo) (zv vv:Value) (k size e p:Nat):Array Value:=
 #[e,p,G.nv,G.fv,(G.bt,G.ns.length,G.ct),(G.bs,G.ns.length,G.cs),(G.bf,G.ns.length,G.cf),zv,k,vv,size]
structure Kq (G:Geo) (w:World) (s:CkS) (zs:List Nat) (k e p:Nat):Prop where
 geo:gN G
 tree:dJ G.B w G.nv G.fv G.lvs G.pvs G.ns G.fs
 ex:∃zv vv,Blk w G.g 94 (jS G zv vv k s.size e p) ∧
  Own w 3 1 zv zs.length (ints zs)∧(∀b,blk zv=some b->G.B<=b∧b≠G.bt∧b≠G.bs∧b≠G.bf∧b<G.Z) ∧
  Own w 62 3 vv s.vars.length (aH s.vars)∧(∀b,blk vv=some b->G.B<=b)
 types:Own w 3 1 (G.bt,G.ns.length,G.ct) G.ns.length (ints s.types)
 slots:Own w 3 1 (G.bs,G.ns.length,G.cs) G.ns.length (eH s.slots)
 fn:Own w 3 1 (G.bf,G.ns.length,G.cf) G.ns.length (ints s.fn)
 kk:k<G.fs.length
 size:s.size<=G.M
 fine:e=0->s.size<=24
 vars:s.vars.length<=s.size
 zs:zs.length<=1000
 zle:G.Z<=w.heap.size
 low:G.L<=s.vars.length
section
variable {G:Geo}{w w1 w2 w':World}{s:CkS}{zs:List Nat}{k e p:Nat}
theorem Kq.vK (h:Kq G w s zs k e p):blk (G.bt,G.ns.length,G.ct)=some G.bt:=aQ h.geo.pos h.types.oH.1
theorem Kq.tF (h:Kq G w s zs k e p):blk (G.bs,G.ns.length,G.cs)=some G.bs:=aQ h.geo.pos h.slots.oH.1
theorem Kq.vL (h:Kq G w s zs k e p):blk (G.bf,G.ns.length,G.cf)=some G.bf:=aQ h.geo.pos h.fn.oH.1
theorem Kq.gne (h:Kq G w s zs k e p):G.g≠G.bt∧G.g≠G.bs∧G.g≠G.bf:=by
 obtain⟨zv,vv,hb,_⟩:=h.ex;refine⟨λe1=>?_,λe1=>?_,λe1=>?_⟩
 . exact h.types.aD hb (by decide) (by rw[h.vK,e1])
 . exact h.slots.aD hb (by decide) (by rw[h.tF,e1])
 . exact h.fn.aD hb (by decide) (by rw[h.vL,e1])
theorem Kq.jK (h:Kq G w s zs k e p):G.g<w.heap.size:=by
 obtain⟨zv,vv,hb,_⟩:=h.ex;exact hb.lt
theorem Kq.keep (h:Kq G w s zs k e p) (hs:w.heap.size<=w'.heap.size) (hk:∀b,b<w.heap.size->(b<G.B∨b=G.g∨b=G.bt∨b=G.bs∨b=G.bf∨(G.B<=b∧wW w b)∨(∃zv vv,w.cell? (G.g,7)=some zv∧blk zv=some b∧vv=zv))->w'.heap[b]?=w.heap[b]?):Kq G w' s zs k e p:=by
 obtain⟨zv,vv,hb,hz,hz2,hv,hv2⟩:=h.ex;have c5:w.cell? (G.g,7)=some zv:=by simpa[jS] using hb.cell 7
 refine⟨h.geo,h.tree.keep (λb hb=>hk b (Nat.lt_of_lt_of_le hb h.tree.le) (.inl hb)) hs,⟨zv,vv,?_,hz.keep (λb hb=>hk b (hz.aZ hb) (.inr (.inr (.inr (.inr (.inr (.inr ⟨zv,zv,c5,hb,rfl⟩))))))),hz2,hv.keep (λb hb=>hk b (hv.aZ hb) ?_),hv2⟩,h.types.keep (λb hb=>?_),h.slots.keep (λb hb=>?_),h.fn.keep (λb hb=>?_),h.kk,h.size,h.fine,h.vars,h.zs,Nat.le_trans h.zle hs,h.low⟩
 . unfold Blk at hb ⊢
   rw[hk _ (Array.getElem?_eq_some_iff.1 hb).1 (.inr (.inl rfl))];exact hb
 . obtain⟨cs,hc⟩:=hv.ty hb
   exact .inr (.inr (.inr (.inr (.inr (.inl ⟨hv2 b hb,cs,_,hc⟩)))))
 . have:=h.types.aZ hb
   rw[h.vK] at hb;injection hb with hb;subst hb;exact hk _ this (.inr (.inr (.inl rfl)))
 . have:=h.slots.aZ hb
   rw[h.tF] at hb;injection hb with hb;subst hb;exact hk _ this (.inr (.inr (.inr (.inl rfl))))
 . have:=h.fn.aZ hb
   rw[h.vL] at hb;injection hb with hb;subst hb;exact hk _ this (.inr (.inr (.inr (.inr (.inl rfl)))))
theorem Kq.no (h:Kq G w s zs k e p) (f:Fr nob w w'):Kq G w' s zs k e p:=h.keep f.size λb hb _=>f.block b hb (λx=>x)
theorem Kq.other (h:Kq G w s zs k e p){M:Nat->Prop} (f:Fr M w w') (hM:∀b,M b->b<w.heap.size->G.Z<=b∧¬wW w b):Kq G w' s zs k e p:=by
 refine h.keep f.size λb hb hk=>f.block b hb λhm=>?_
 obtain⟨h1,h2⟩:=hM b hm hb;obtain⟨zv,vv,hbl,_,hz2,_⟩:=h.ex;have c5:w.cell? (G.g,7)=some zv:=by simpa[jS] using hbl.cell 7
 have g1:=h.geo.lg;have g2:=h.geo.lt;have g3:=h.geo.ls;have g4:=h.geo.lf;have g5:=h.geo.hg;rcases hk with x|x|x|x|x|⟨_,x⟩|⟨zv',vv',x,y,_⟩
 . omega
 . omega
 . omega
 . omega
 . omega
 . exact h2 x
 . rw[c5] at x;injection x with x;subst x
   have:=(hz2 b y).2.2.2.2;omega
theorem Kq.cells (h:Kq G w s zs k e p):∃zv vv,w.cell? (G.g,2)=some G.nv∧w.cell? (G.g,3)=some G.fv ∧
  w.cell? (G.g,4)=(G.bt,G.ns.length,G.ct)∧w.cell? (G.g,5)=(G.bs,G.ns.length,G.cs)∧w.cell? (G.g,6)=(G.bf,G.ns.length,G.cf) ∧
  w.cell? (G.g,7)=some zv∧w.cell? (G.g,8)=k∧w.cell? (G.g,9)=some vv∧w.cell? (G.g,10)=s.size∧w.cell? (G.g,0)=e∧w.cell? (G.g,1)=p ∧
  (∀i,w.frozen? ⟨G.g,i,none⟩=false)∧Own w 62 3 vv s.vars.length (aH s.vars)∧(∀b,blk vv=some b->G.B<=b):=by
 obtain⟨zv,vv,hb,hz,hz2,hv,hv2⟩:=h.ex;refine⟨zv,vv,?_,?_,?_,?_,?_,?_,?_,?_,?_,?_,?_,λi=>hb.frozen i,hv,hv2⟩<;>rw[hb.cell]<;>rfl
theorem Kq.aLs (h:Kq G w s zs k e p) (j:Nat) (u:Value){s':CkS}{k' e' p':Nat} (hc:∀zv vv,(jS G zv vv k s.size e p).setIfInBounds j u=jS G zv vv k' s'.size e' p') (h1:s'.types=s.types) (h2:s'.slots=s.slots) (h3:s'.fn=s.fn) (h4:s'.vars=s.vars)
  (hk:k'<G.fs.length) (hz:s'.size<=G.M) (hf:e'=0->s'.size<=24) (hv:s'.vars.length<=s'.size):Kq G (w.setCell (G.g,j) u) s' zs k' e' p'∧FrK G w (w.setCell (G.g,j) u):=by
 obtain⟨zv,vv,hb,hz0,hz2,hv0,hv2⟩:=h.ex;obtain⟨n1,n2,n3⟩:=h.gne;have hB:=h.geo.hg;refine⟨⟨h.geo,h.tree.keep (λb hb=>?_) (by simp),⟨zv,vv,by rw[<-hc];exact hb.setCell j u,hz0.far (p:=(G.g,j)) (hz0.aD hb (by decide)) u,hz2,by rw[h4];exact hv0.far (p:=(G.g,j)) (hv0.aD hb (by decide)) u,hv2⟩,
  by rw[h1];exact h.types.far (p:=(G.g,j)) (h.types.aD hb (by decide)) u,by rw[h2];exact h.slots.far (p:=(G.g,j)) (h.slots.aD hb (by decide)) u,by rw[h3];exact h.fn.far (p:=(G.g,j)) (h.fn.aD hb (by decide)) u,hk,hz,hf,hv,h.zs,by simpa using h.zle,by rw[h4];exact h.low⟩,
  ((Fr.refl (bY G.g) w).setCell (G.g,j) _ (λ_=>rfl)).mono (λk _ e=> .inl e)⟩
 exact Below.heap_setCell w (G.g,j) u b (by show b≠G.g;omega)
theorem Kq.aSh (h:Kq G w s zs k e p) (j t:Nat):Kq G (w.setCell (G.bt,j) t) { s with types:=s.types.set j t } zs k e p∧FrK G w (w.setCell (G.bt,j) t):=by
 obtain⟨zv,vv,hb,hz0,hz2,hv0,hv2⟩:=h.ex;obtain⟨n1,n2,n3⟩:=h.gne;have hB:=h.geo.ht;refine⟨⟨h.geo,h.tree.keep (λb hb=>?_) (by simp),⟨zv,vv,hb.far (p:=(G.bt,j)) n1 _,hz0.far (p:=(G.bt,j)) (λe=>(hz2 _ e).2.1 rfl) _,hz2,hv0.far (p:=(G.bt,j)) (λe=>h.types.fV hv0 (by decide) e h.vK) _,hv2⟩,
  by have:=h.types.store h.vK j t;rw[show (ints s.types).set j t=ints (s.types.set j t) by unfold ints;rw[List.map_set]] at this;exact this,
  h.slots.far (p:=(G.bt,j)) (by rw[h.tF];intro e;injection e with e;exact h.geo.ts e.symm) _,h.fn.far (p:=(G.bt,j)) (by rw[h.vL];intro e;injection e with e;exact h.geo.tf e.symm) _,h.kk,h.size,h.fine,h.vars,h.zs,by simpa using h.zle,h.low⟩,
  ((Fr.refl (bY G.bt) w).setCell (G.bt,j) _ (λ_=>rfl)).mono (λk _ e=> .inr (.inl e))⟩
 exact Below.heap_setCell w (G.bt,j) _ b (by show b≠G.bt;omega)
theorem Kq.aQj (h:Kq G w s zs k e p) (j:Nat) (t:Int):Kq G (w.setCell (G.bs,j) t) { s with slots:=s.slots.set j t } zs k e p∧FrK G w (w.setCell (G.bs,j) t):=by
 obtain⟨zv,vv,hb,hz0,hz2,hv0,hv2⟩:=h.ex;obtain⟨n1,n2,n3⟩:=h.gne;have hB:=h.geo.hs;refine⟨⟨h.geo,h.tree.keep (λb hb=>?_) (by simp),⟨zv,vv,hb.far (p:=(G.bs,j)) n2 _,hz0.far (p:=(G.bs,j)) (λe=>(hz2 _ e).2.2.1 rfl) _,hz2,hv0.far (p:=(G.bs,j)) (λe=>h.slots.fV hv0 (by decide) e h.tF) _,hv2⟩,
  h.types.far (p:=(G.bs,j)) (by rw[h.vK];intro e;injection e with e;exact h.geo.ts e) _,
  by have:=h.slots.store h.tF j t;rw[show (eH s.slots).set j t=eH (s.slots.set j t) by unfold eH;rw[List.map_set]] at this;exact this,
  h.fn.far (p:=(G.bs,j)) (by rw[h.vL];intro e;injection e with e;exact h.geo.sf e.symm) _,h.kk,h.size,h.fine,h.vars,h.zs,by simpa using h.zle,h.low⟩,
  ((Fr.refl (bY G.bs) w).setCell (G.bs,j) _ (λ_=>rfl)).mono (λk _ e=> .inr (.inr (.inl e)))⟩
 exact Below.heap_setCell w (G.bs,j) _ b (by show b≠G.bs;omega)
theorem Kq.kI (h:Kq G w s zs k e p) (j t:Nat):Kq G (w.setCell (G.bf,j) t) { s with fn:=s.fn.set j t } zs k e p∧FrK G w (w.setCell (G.bf,j) t):=by
 obtain⟨zv,vv,hb,hz0,hz2,hv0,hv2⟩:=h.ex;obtain⟨n1,n2,n3⟩:=h.gne;have hB:=h.geo.hf;refine⟨⟨h.geo,h.tree.keep (λb hb=>?_) (by simp),⟨zv,vv,hb.far (p:=(G.bf,j)) n3 _,hz0.far (p:=(G.bf,j)) (λe=>(hz2 _ e).2.2.2.1 rfl) _,hz2,hv0.far (p:=(G.bf,j)) (λe=>h.fn.fV hv0 (by decide) e h.vL) _,hv2⟩,
  h.types.far (p:=(G.bf,j)) (by rw[h.vK];intro e;injection e with e;exact h.geo.tf e) _,
  h.slots.far (p:=(G.bf,j)) (by rw[h.tF];intro e;injection e with e;exact h.geo.sf e) _,
  by have:=h.fn.store h.vL j t;rw[show (ints s.fn).set j t=ints (s.fn.set j t) by unfold ints;rw[List.map_set]] at this;exact this,h.kk,h.size,h.fine,h.vars,h.zs,by simpa using h.zle,h.low⟩,
  ((Fr.refl (bY G.bf) w).setCell (G.bf,j) _ (λ_=>rfl)).mono (λk _ e=> .inr (.inr (.inr (.inl e))))⟩
 exact Below.heap_setCell w (G.bf,j) _ b (by show b≠G.bf;omega)
theorem Kq.more (h:Kq G w s zs k e p) (hM:G.M<=999):Kq G.more w s zs k e p:=⟨h.geo.more hM,h.tree,h.ex,h.types,h.slots,h.fn,h.kk,Nat.le_succ_of_le h.size,h.fine,h.vars,h.zs,h.zle,h.low⟩
theorem Kq.aRn (h:Kq G w s zs k e p){vv:Value} (hvv:w.cell? (G.g,9)=some vv){nm:List UInt8}{t:Nat}{o:Obj}{A:Option Addr}{c:Nat}
   (ho:Own w' 62 3 (.slice A (s.vars.length+1) c) (s.vars.length+1) (aH s.vars++[.string (bs nm),.int .i64 (t:Nat),.int .i64 (s.size:Nat)]))
   (hf:Fr (obl (blk vv)) (w.alloc o) w') (hv:blk (.slice A (s.vars.length+1) c)=blk vv∨blk (.slice A (s.vars.length+1) c)=some (w.alloc o).heap.size) (hM:G.M<=999) (hfine:e=0->s.size<=23):
   (w'.setCell ⟨G.g,9,none⟩ (.slice A (s.vars.length+1) c)).cell? ⟨G.g,10,none⟩=some (.int .i64 (s.size:Nat))∧(∀i,(w'.setCell ⟨G.g,9,none⟩ (.slice A (s.vars.length+1) c)).frozen? ⟨G.g,i,none⟩=false) ∧
   Kq G.more ((w'.setCell (G.g,U9) (.slice A (s.vars.length+1) c)).setCell (G.g,10) ((s.size:Int)+1:Int)) { s with vars:=s.vars++[⟨nm,t,s.size⟩],size:=s.size+1 } zs k e p ∧
   FrK G w ((w'.setCell (G.g,U9) (.slice A (s.vars.length+1) c)).setCell (G.g,10) ((s.size:Int)+1:Int)):=by
 obtain⟨zv,vv',hb,hz0,hz2,hv0,hv2⟩:=h.ex;have e7:w.cell? (G.g,9)=some vv':=by rw[hb.cell];rfl
 rw[e7] at hvv;injection hvv with hvv;subst hvv;have hBg:=h.geo.hg;have hBt:=h.geo.ht;have hBs:=h.geo.hs;have hBf:=h.geo.hf;have hle:G.B<=w.heap.size:=h.tree.le;have f0:Fr nob w (w.alloc o):=(fR w).alloc o;have far:∀{e' size n:Nat} {v:Value} {xs:List Value},Own w e' size v n xs->e'≠62->∀b,blk v=some b->¬obl (blk vv') b:=λho' hne b hb' hm=>by
   have h1:blk vv'=some b:=hm;exact ho'.fV hv0 hne h1 hb'
 have hb1:Blk w' G.g 94 (jS G zv vv' k s.size e p):=(hb.fr f0 (λx=>x)).fr hf (λhm=>hv0.aD hb (by decide) hm);have hb2:=hb1.setCell 9 (.slice A (s.vars.length+1) c);have hb3:=hb2.setCell 10 ((s.size:Int)+1:Int);have keep:∀b,b<G.B->((w'.setCell (G.g,U9) (.slice A (s.vars.length+1) c)).setCell (G.g,10) ((s.size:Int)+1:Int)).heap[b]?=w.heap[b]?:=λb hb'=>by
   rw[Below.heap_setCell _ _ _ _ (by show b≠G.g;omega),Below.heap_setCell _ _ _ _ (by show b≠G.g;omega)];rw[hf.block b (by simp;omega) (λhm=>by have:=hv2 b hm;omega)];exact Below.heap_alloc _ _ _ (by omega)
 have own2:∀{e' n:Nat} {v:Value} {xs:List Value},Own w e' 1 v n xs->e'≠62->blk v≠some G.g->Own ((w'.setCell (G.g,U9) (.slice A (s.vars.length+1) c)).setCell (G.g,10) ((s.size:Int)+1:Int)) e' 1 v n xs:=λho' hne hg=>
   (((ho'.fr f0 (λ_ _ x=>x)).fr hf (far ho' hne)).far (p:=(G.g,U9)) hg _).far (p:=(G.g,10)) hg _
 have hov:Own ((w'.setCell (G.g,U9) (.slice A (s.vars.length+1) c)).setCell (G.g,10) ((s.size:Int)+1:Int)) 62 3 (.slice A (s.vars.length+1) c) (s.vars.length+1) (aH (s.vars++[⟨nm,t,s.size⟩])):=by
   rw[fH];exact (ho.far (p:=(G.g,U9)) (ho.aD hb1 (by decide)) _).far (p:=(G.g,10)) (ho.aD hb1 (by decide)) _
 refine⟨?_,λi=>hb2.frozen i,⟨h.geo.more hM,h.tree.keep keep ?_,⟨zv,.slice A (s.vars.length+1) c,?_,own2 hz0 (by decide) (hz0.aD hb (by decide)),hz2,?_,?_⟩,own2 h.types (by decide) (h.types.aD hb (by decide)),own2 h.slots (by decide) (h.slots.aD hb (by decide)),own2 h.fn (by decide) (h.fn.aD hb (by decide)),h.kk,?_,λh0=>?_,?_,h.zs,?_,by show G.L<=(s.vars++[(⟨nm,t,s.size⟩:bT)]).length;rw[aA3];have:=h.low;omega⟩,?_⟩
 . rw[hb2.cell];rfl
 . have:=hf.size;simp at this ⊢;omega
 . exact hb3
 . show Own _ _ _ _ (s.vars++[(⟨nm,t,s.size⟩:bT)]).length _
   rw[aA3];exact hov
 . intro b hb'
   rcases hv with h9|h9
   . exact hv2 b (h9 ▸ hb')
   . rw[hb'] at h9;injection h9 with h9;simp at h9;show G.B<=b;omega
 . show s.size+1<=G.M+1;have:=h.size;omega
 . show s.size+1<=24;have:=hfine h0;omega
 . show (s.vars++[(⟨nm,t,s.size⟩:bT)]).length<=s.size+1;rw[aA3];have:=h.vars;simp;exact this
 . have:=hf.size;have:=h.zle;simp at this ⊢;show G.Z<=_;simp at *;omega
 . refine FrK.trans (FrK.no f0) (FrK.trans (w1:=w') (Fr.mono hf λb hb' hm=>?_) ?_)
   . obtain⟨cs,hc⟩:=hv0.ty (k:=b) hm
     exact .inr (.inr (.inr (.inr ⟨hv2 b hm,cs,_,(hc.alloc o)⟩)))
   . exact (((Fr.refl (bY G.g) w').setCell ⟨G.g,9,none⟩ _ (λ_=>rfl)).setCell ⟨G.g,10,none⟩ _ (λ_=>rfl)).mono (λk _ e=> .inl e)
end
def KqM (G:Geo) (w:World) (r:CkR CkS) (zs:List Nat) (k:Nat):Prop:=match r with
 | .good s=>Kq G w s zs k 0 0
 | .bad e p=>e≠0∧e<=99∧∃s,Kq G w s zs k e p
section
variable {G:Geo}{w w':World}{r:CkR CkS}{zs:List Nat}{k:Nat}
theorem KqM.open_ (h:KqM G w r zs k):∃s e p,Kq G w s zs k e p∧((e=0∧p=0∧r = .good s)∨(e≠0∧e<=99∧r = .bad e p)):=by
 cases r with
 | good s=>exact⟨s,0,0,h,.inl ⟨rfl,rfl,rfl⟩⟩
 | bad e p=>obtain⟨h1,h2,s,h3⟩:=h;exact⟨s,e,p,h3,.inr ⟨h1,h2,rfl⟩⟩
theorem KqM.no (h:KqM G w r zs k) (f:Fr nob w w'):KqM G w' r zs k:=by
 cases r with
 | good s=>exact Kq.no h f
 | bad e p=>obtain⟨h1,h2,s,h3⟩:=h;exact⟨h1,h2,s,h3.no f⟩
theorem KqM.other (h:KqM G w r zs k){M:Nat->Prop} (f:Fr M w w') (hM:∀b,M b->b<w.heap.size->G.Z<=b∧¬wW w b):KqM G w' r zs k:=by
 cases r with
 | good s=>exact Kq.other h f hM
 | bad e p=>obtain⟨h1,h2,s,h3⟩:=h;exact⟨h1,h2,s,h3.other f hM⟩
theorem KqM.geo (h:KqM G w r zs k):gN G:=by
 obtain⟨s,e,p,h,_⟩:=h.open_;exact h.geo
theorem KqM.tree (h:KqM G w r zs k):dJ G.B w G.nv G.fv G.lvs G.pvs G.ns G.fs:=by
 obtain⟨s,e,p,h,_⟩:=h.open_;exact h.tree
end
end Go.Proofs.YtlbjicjinnnboaaGreatDoor
namespace Go.Proofs.YtlbjicjinnnboaaGreatDoor
open Go.RowKit Go.Proofs.Tryz
open Pw
section
variable {G:Geo}{w w':World}{s:CkS}{r:CkR CkS}{zs:List Nat}{k e p:Nat}
theorem FrK.ofG (h:Fr (bY G.g) w w'):FrK G w w':=h.mono (λk _ e=> .inl e)
theorem lZ (h:Kq G w s zs k e p) (b:Bool) (e' x:Nat) (he':e'≠0):
  Calls prog 95 #[(G.g,()),b,e',x] w λen w'=>en = .returned (.tuple #[])∧Kq G w' s zs k (if b=false∧e=0 then e' else e) (if b=false∧e=0 then x else p)∧Fr (bY G.g) w w':=by
 obtain⟨zv,vv,c2,c3,c4,c5,c6,c7,c8,c9,c10,c0,c1,hfz,_⟩:=h.cells;have f0:=hfz 0;have f1:=hfz 1;have hg:=h.jK;have H:=hD h;cases b with
 | true=>
  rw[if_neg (by simp),if_neg (by simp)];clear h c2 c3 c4 c5 c6 c7 c8 c9 c10 hfz;go_enter func95,ntmps95;go_wp2
  exact fK rfl rfl ⟨rfl,H,Fr.refl _ _⟩
 | false=>
  by_cases he:e=0
  . have heb:((e:Int)==0)=true:=by rw[he];rfl
    rw[if_pos ⟨rfl,he⟩,if_pos ⟨rfl,he⟩];have S1:=hD (h.aLs 0 e' (s':=s) (k':=k) (e':=e') (p':=p) (λ_ _=>rfl) rfl rfl rfl rfl h.kk h.size (λx=>absurd x he') h.vars);have S2:=hD (S1.o.1.aLs 1 x (s':=s) (k':=k) (e':=e') (p':=x) (λ_ _=>rfl) rfl rfl rfl rfl S1.o.1.kk S1.o.1.size (λx=>absurd x he') S1.o.1.vars);clear h he c2 c3 c4 c5 c6 c7 c8 c9 c10 hfz;go_enter func95,ntmps95;go_wp2
    exact fK rfl rfl ⟨rfl,S2.o.1,((Fr.refl (bY G.g) w).setCell (G.g,()) _ (λ_=>rfl)).setCell (G.g,U1) _ (λ_=>rfl)⟩
  . have heb:((e:Int)==0)=false:=bN.2 (by omega)
    rw[if_neg (λx=>he x.2),if_neg (λx=>he x.2)];clear h he c2 c3 c4 c5 c6 c7 c8 c9 c10 hfz;go_enter func95,ntmps95;go_wp2
    exact fK rfl rfl ⟨rfl,H,Fr.refl _ _⟩
theorem KqM.ask (h:KqM G w r zs k) (b:Bool) (e' x:Nat) (he':e'≠0) (h99:e'<=99):
   Calls prog 95 #[(G.g,()),b,e',x] w λen w'=>en = .returned (.tuple #[])∧KqM G w' (r.bind λs=>if b=true then .good s else .bad e' x) zs k∧Fr (bY G.g) w w':=by
 obtain⟨s,e,p,h,hm⟩:=h.open_;refine (lZ h b e' x he').mono λen w' ⟨h1,h2,h3⟩=>⟨h1,?_,h3⟩
 rcases hm with ⟨rfl,rfl,rfl⟩|⟨h0,h9,rfl⟩
 . cases b with
   | true=>rw[if_neg (by simp),if_neg (by simp)] at h2;exact h2
   | false=>rw[if_pos ⟨rfl,rfl⟩,if_pos ⟨rfl,rfl⟩] at h2;exact⟨he',h99,s,h2⟩
 . rw[if_neg (λx=>h0 x.2),if_neg (λx=>h0 x.2)] at h2
   exact⟨h0,h9,s,h2⟩
theorem nU (h:Kq G w s zs k e p){x:Nat}{nd:aF} (hx:G.ns[x]?=some nd):
  Calls prog 144 #[(G.g,()),x] w λen w'=>(∃A c,en = .returned (.agg #[nd.kind,nd.line,nd.n,bs nd.name,.slice A nd.l.length c])∧Own w' 3 1 (.slice A nd.l.length c) nd.l.length (ints nd.l)∧(∀b,blk (.slice A nd.l.length c)=some b->b<G.B))∧Fr nob w w':=by
 obtain⟨zv,vv,c2,c3,c4,c5,c6,c7,c8,c9,c10,c0,c1,hfz,_⟩:=h.cells;have hg:=h.jK;have TL:=h.tree;have hlt:=(gK hx);obtain⟨lv,hlv⟩:∃lv,G.lvs[x]?=some lv:=⟨_,gE (by have:=TL.tree.same;omega)⟩;have hlow:=TL.hl lv (List.mem_of_getElem? hlv);obtain⟨NA,NC,hnv,-,-⟩:=TL.tree.nodes.cap;have hnodes:=TL.tree.nodes;rw[hnv] at hnodes;obtain⟨nb,e1,-⟩:=hnodes.some (by omega);subst e1;clear hnodes;have TL2:cZ 0 w (nb,G.ns.length,NC) G.fv G.lvs G.pvs G.ns G.fs:=hnv ▸ TL.tree;obtain⟨hk,n0,n1,n2,n3,n4⟩:=TL2.node3 hx hlv;obtain⟨A,c,rfl,_,_⟩:=hk.cap;rw[hnv] at c2;have hx2:(x:Int)<(G.ns.length:Int):=by omega
 have hn3:(G.ns.length:Int)<=300:=by have:=h.geo.few;omega
 have HK:=hD hk;have HL:=hD hlow;have nlt:nb<w.heap.size:=World.block_lt_of_cell? w (nb,x*5) n0;have r1:¬nb=w.heap.size:=by omega
 have r2:¬G.g=w.heap.size:=by omega
 generalize nd.l.length=ll at *;clear h TL TL2 hx hlv hk hlow hnv hlt c0 c1 c3 c4 c5 c6 c7 c8 c9 c10 hfz;go_enter func144,ntmps144;go_wp2
 refine bodyPost_ret (v:= .agg #[nd.kind,nd.line,nd.n,bs nd.name,.slice A ll c]) (by simp[results,results144,go_sem]) rfl ⟨⟨A,c,rfl,HK.o.alloc _,HL⟩,(fR w).alloc _⟩
theorem aCf (h:Kq G w s zs k e p) (hM:G.M<=999) (hfine:e=0->s.size<=23) (nm:List UInt8) (t:Nat):
  Calls prog 97 #[(G.g,()),bs nm,t] w λen w'=>en = .returned (.tuple #[])∧Kq G.more w' { s with vars:=s.vars++[⟨nm,t,s.size⟩],size:=s.size+1 } zs k e p∧FrK G w w':=by
 have hn3:s.size<=999:=by have:=h.size;omega
 have hv3:=h.vars;obtain⟨zv,vv,hbl,-,-,hvo,-⟩:=h.ex;obtain⟨VA,VC,rfl,-,-⟩:=hvo.cap;have c9:w.cell? (G.g,9)=some (.slice VA s.vars.length VC):=by rw[hbl.cell];rfl
 have c10:w.cell? (G.g,10)=s.size:=by rw[hbl.cell];rfl
 have HV:=hD ((hvo.alloc (.cells #[bs nm,t,s.size] 62)).fr ((fR _).drew) (λ_ _ x=>x));have HR:=hD (Rd.eZ (n:=1) (size:=3) (cs:=[bs nm,t,s.size]) ((Blk.new w 62 [.string (bs nm),.int .i64 (t:Nat),.int .i64 (s.size:Nat)].toArray).fr ((fR _).drew) (λx=>x)) rfl (by decide));have HB:=hD ((hbl.alloc (.cells #[bs nm,t,s.size] 62)).fr ((fR _).drew) (λx=>x));have HAV:=hD (λ(A6:Option Addr) (c6:Nat) (w6:World) (ho6:Own w6 62 3 (.slice A6 (s.vars.length+1) c6) (s.vars.length+1) (aH s.vars++[.string (bs nm),.int .i64 (t:Nat),.int .i64 (s.size:Nat)])) (hf6:Fr (obl (blk (.slice VA s.vars.length VC))) ((w.alloc (.cells #[bs nm,t,s.size] 62)).drew) w6) (hv6:blk (.slice A6 (s.vars.length+1) c6)=blk (.slice VA s.vars.length VC)∨blk (.slice A6 (s.vars.length+1) c6)=some ((w.alloc (.cells #[bs nm,t,s.size] 62)).drew).heap.size)=>h.aRn (o:=(.cells #[bs nm,t,s.size] 62)) c9 ho6 (Fr.trans (M1:=nob) ((fR _).drew) hf6 (λ_ _ x=>x.elim) (λ_ _ x=>x)) (by simpa using hv6) hM hfine);have glt:=hbl.lt;have gn:¬G.g=w.heap.size:=by omega
 have hsi:(s.size:Int)<=999:=by omega
 generalize hvl:s.vars.length=vl at *;have hvl3:vl<=999:=by omega
 clear hbl hvo h hM hfine;go_enter func97,ntmps97;go_wp2_with fail
 go_region_law (first|(refine step_append (v:= .slice VA vl VC) (n:=vl) (m:=1) (xs:=aH s.vars) (news:=[bs nm,t,s.size]) (by rfl) _ _ (by rfl) qJ (by rfl) (by rfl) HV HR (by simp[Value.oneCell']) (by omega) (by unfold maxLen;omega) ?_;intro A6 c6 w6 ho6 hf6 hv6;go_loud (have AV:=hD (HAV A6 c6 w6 ho6 hf6 hv6));go_loud (have HB6:=hD (HB.o.fr hf6 (λhm=>HV.o.aD HB (by decide) hm)));go_loud (have f9:=HB6.o.frozen 9);go_loud (have c9':w6.cell? (G.g,9)=some (.slice VA vl VC):=by rw[HB6.o.cell];rfl);go_loud (have gl6:=HB6.o.lt);clear ho6 hf6 hv6))
 all_goals
  have c10:=AV.o.1;have f10:=AV.o.2.1 10;have gl:=World.block_lt_of_cell? _ _ c10;have N:=hD AV.o.2.2.1;have FF:=hD AV.o.2.2.2;clear AV HB6 f9 c9' gl6 glt gn c9 HAV HV HR HB;generalize w6.setCell (G.g,U9) (.slice A6 (vl+1) c6)=w10 at *;go_wp2
  exact fK rfl rfl ⟨rfl,by first|exact N.o|exact N.o.no ((fR _).drew),by first|exact FF.o|exact FF.o.trans (FrK.no ((fR _).drew))⟩
end
end Go.Proofs.YtlbjicjinnnboaaGreatDoor
namespace Go.Proofs.YtlbjicjinnnboaaGreatDoor
open Go.RowKit Go.Proofs.Tryz
open Pw
variable {nm:List UInt8}
def aSb (o:Option Nat):Int:=match o with|some j=>(j:Int)|none=> -1
theorem mZ (a:List UInt8):(bs a).toList=a:=by rw[ByteArray.toList_eq];rfl
theorem aKj (a b:List UInt8):((bs a).toList==(bs b).toList)=decide (a=b):=by rw[mZ,mZ];by_cases h:a=b<;>simp[h]
theorem aEd {w:World}{T:Nat} (hb:Blk w T 9 #[bs nm]) (v:bT):
  Calls prog 143 #[.agg #[bs v.name,v.ty,v.slot],(T,())] w λen w2=>en = .returned (.bool (decide (v.name=nm)))∧Fr nob w w2:=by
 have n3:w.cell? (T,0)=(bs nm):=(hb.cell 0).trans rfl;have tlt:=hb.lt;have tn:¬T=w.heap.size:=by omega
 obtain⟨z,hz⟩:∃z,decide (v.name=nm)=z:=⟨_,rfl⟩;have e1:((bs v.name).toList==(bs nm).toList)=z:=by rw[aKj,hz]
 rw[hz];clear hb hz;go_enter func143,ntmps143;go_wp2
 go_ret;exact⟨rfl,(fR w).alloc _⟩
theorem aEw {T:Nat}{w:World}{A:Option Addr}{c:Nat}{vs:List bT} (hb:Blk w T 9 #[bs nm]) (ho:Own w 62 3 (.slice A vs.length c) vs.length (aH vs)):
  Calls prog 142 #[.slice A vs.length c,.func (.func 143) #[] #[(T,())]] w λe w'=>e = .returned (.int .i64 (aSb (vs.findIdx? λv=>decide (v.name=nm))))∧Fr nob w w':=by
 have O:=hD ho;have HB:=hD hb;obtain⟨A2,c2,hv,hc1,hc2⟩:=ho.cap;simp only[Value.slice.injEq,true_and] at hv;obtain⟨hv1,hv2⟩:=hv;subst hv1;subst hv2;have hml:(vs.length:Int)<=9223372036854775807:=by unfold maxLen at hc2;omega
 generalize hm:vs.length=m at *;have HMM:=hD hm;obtain⟨Z,hZ⟩:∃Z,aSb (vs.findIdx? λv=>decide (v.name=nm))=Z:=⟨_,rfl⟩;rw[hZ];have HZ:=hD hZ;clear ho hm hc1 hc2 hb hZ;go_enter func142,ntmps142;go_wp2
 go_loopw [8] (λi wr=>∃j:Nat,j<=m∧i = .int .i64 j∧Hd (∀g∈vs.take j,g.name≠nm)∧Hd (Fr nob w wr)) (λi _=>m - (intOf i).toNat)
 case atStart=>exact⟨0,aA4 _,rfl,hD (by simp),hD (Fr.refl _ _)⟩
 case round=>
  obtain⟨j,hj,rfl,HA,F⟩:=hrel;by_cases hlt:j<m
  . have hlt2:(j:Int)<(m:Int):=by omega
    obtain⟨f,hf⟩:∃f,vs[j]?=some f:=⟨_,gE (by rw[HMM.o];exact hlt)⟩;have ho:=O.o.fr F (λ_ _ x=>x);obtain⟨fb,rfl,hcell⟩:=ho.some (by omega);obtain⟨g0,g1,g2⟩:=gF hf;have e0:=hcell _ _ g0;have e1:=hcell _ _ g1;have e2:=hcell _ _ g2;have HC:=hD (aEd (HB.o.fr F (λx=>x)) f);have HF:=hD hf;obtain⟨z,hz⟩:∃z,decide (f.name=nm)=z:=⟨_,rfl⟩;rw[hz] at HC;have HQ:=hD hz;clear hf hcell ho hz g0 g1 g2;cases z with
    | true=>
     go_wp2_with fail
     refine HC.o.mono ?_;rintro e w2 ⟨rfl,hf2⟩;have F2:=hD (F.o.tr hf2);clear hf2;go_wp2
     go_ret;refine⟨?_,F2⟩;have h1:vs.findIdx? (λv=>decide (v.name=nm))=some j:=by
      obtain⟨hlt,hfe⟩:=List.getElem?_eq_some_iff.1 HF.o;rw[List.findIdx?_eq_some_iff_getElem];refine⟨hlt,by rw[hfe];exact HQ,λi hi=>?_⟩;have:=HA.o vs[i] (by rw[List.mem_take_iff_getElem];exact⟨i,by omega,rfl⟩);simpa using this
     rw[<-HZ.o,h1];rfl
    | false=>
     have HA2:=hD (show ∀g∈vs.take (j+1),g.name≠nm from λg hg=>by
      rw[List.take_add_one,HF.o] at hg;rcases List.mem_append.1 hg with hg|hg
      . exact HA g hg
      . simp at hg;subst hg;simpa using HQ.o)
     go_wp2_with fail
     refine HC.o.mono ?_;rintro e w2 ⟨rfl,hf2⟩;have F2:=hD (F.o.tr hf2);clear hf2 e0 e1 e2 HC HA;go_wp2
     go_roundw
     case rel=>exact⟨j+1,by omega,by go_num,HA2,F2⟩
     case measure=>simp[intOf];omega
  . have hlt2:¬(j:Int)<(m:Int):=by omega
    have hj2:j=m:=by omega
    subst hj2;clear hj hlt;go_wp2
    go_ret;refine⟨?_,F⟩;have h1:vs.findIdx? (λv=>decide (v.name=nm))=none:=by
     rw[List.findIdx?_eq_none_iff];intro g hg;have:=HA.o g (by rw[aA5 (by have:=HMM.o;omega)];exact hg);simpa using this
    rw[<-HZ.o,h1];rfl
theorem aJq {vs:List bT}:(dV vs nm=none∧vs.findIdx? (λv=>decide (v.name=nm))=none)∨∃j v,dV vs nm=some v∧vs.findIdx? (λv=>decide (v.name=nm))=some j∧vs[j]?=some v:=by
 unfold dV;cases h:vs.findIdx? (λv=>decide (v.name=nm)) with
 | none=>exact .inl ⟨by rw[List.find?_eq_none];rw[List.findIdx?_eq_none_iff] at h;intro x hx;simpa using h x hx,rfl⟩
 | some j=>
  obtain⟨hlt,h1,h2⟩:=List.findIdx?_eq_some_iff_getElem.1 h;refine .inr ⟨j,vs[j],?_,rfl,gE hlt⟩;rw[List.find?_eq_some_iff_getElem];exact⟨h1,j,hlt,rfl,λi hi=>by simpa using h2 i hi⟩
def aAu (o:Option bT):Value:=match o with
 | none=> .tuple #[.agg #[.string ⟨#[]⟩,U0,U0],false]
 | some v=> .tuple #[.agg #[bs v.name,v.ty,v.slot],true]
section
variable {G:Geo}{w w':World}{s:CkS}{r:CkR CkS}{zs:List Nat}{k e p:Nat}
theorem rM (h:Kq G w s zs k e p) (nm:List UInt8):
   Calls prog 96 #[(G.g,()),bs nm] w λen w'=>en = .returned (aAu (dV s.vars nm))∧Fr nob w w':=by
 obtain⟨zv,vv,hbl,-,-,hvo,-⟩:=h.ex;obtain⟨VA,VC,rfl,-,-⟩:=hvo.cap;have c9:w.cell? (G.g,9)=some (.slice VA s.vars.length VC):=by rw[hbl.cell];rfl
 have glt:=hbl.lt;have gn:¬G.g=w.heap.size:=by omega
 have FA:Hd (Fr nob w ((w.alloc (.cells #[bs nm] 9)).alloc (.cells #[.string ⟨#[]⟩,U0,U0] 62))):=((fR w).alloc _).alloc _;have BT:=hD ((Blk.new w 9 #[bs nm]).alloc (.cells #[.string ⟨#[]⟩,U0,U0] 62));have hbr:=Blk.new (w.alloc (.cells #[bs nm] 9)) 62 #[.string ⟨#[]⟩,U0,U0];rw[World.size_alloc] at hbr;have BR:=hD hbr;have HV:=hD (hvo.fr FA (λ_ _ x=>x));have HG:=hD (hbl.fr FA (λx=>x));have HIX:=hD (aEw (nm:=nm) BT HV);have hvn:s.vars.length<=1000:=by have:=h.vars;have:=h.size;have:=h.geo.hM;omega
 have HFV:=hD (aJq (vs:=s.vars) (nm:=nm));obtain⟨R,hR⟩:∃R,aAu (dV s.vars nm)=R:=⟨_,rfl⟩;rw[hR];have HR:=hD hR;clear hbl hvo h hbr hR;go_enter func96,ntmps96;go_wp2_with fail
 refine HIX.o.mono ?_;rintro en w2 ⟨rfl,hf⟩;have F2:=hD (FA.o.tr hf);have BR2:=hD (BR.o.fr hf (λx=>x));have HV2:=hD (HV.o.fr hf (λ_ _ x=>x));have HG2:=hD (HG.o.fr hf (λx=>x));clear hf HIX FA BT BR HV HG c9 glt gn;have b0:w2.cell? (w.heap.size+1,0)=some (.string ⟨#[]⟩):=(BR2.o.cell 0).trans rfl;have b1:w2.cell? (w.heap.size+1,1)=U0:=(BR2.o.cell 1).trans rfl;have b2:w2.cell? (w.heap.size+1,2)=U0:=(BR2.o.cell 2).trans rfl;have z0:=BR2.o.frozen 0;have z1:=BR2.o.frozen 1;have z2:=BR2.o.frozen 2;have rlt:=BR2.o.lt;have FS:=hD (λ(a b c:Value)=>show Fr nob w (((w2.setCell (w.heap.size+1,()) a).setCell (w.heap.size+1,U1) b).setCell (w.heap.size+1,U2) c) from ((F2.o.setCell (w.heap.size+1,()) a (λh=>by have h:w.heap.size+1<w.heap.size:=h;omega)).setCell (w.heap.size+1,U1) b (λh=>by have h:w.heap.size+1<w.heap.size:=h;omega)).setCell (w.heap.size+1,U2) c (λh=>by have h:w.heap.size+1<w.heap.size:=h;omega));have YS:=hD (λ(a b c:Value)=>((BR2.o.setCell 0 a).setCell 1 b).setCell 2 c);rcases HFV.o with ⟨h1,h2⟩|⟨j,v,h1,h2,h3⟩
 . rw[h2]
   unfold aSb;have hr:=HR.o;rw[h1] at hr;clear h1 h2 HFV HV2 HG2 HR;subst hr;go_wp2_with fail
   have BY:=YS.o (.string ⟨#[]⟩) U0 U0;have FY:=FS.o (.string ⟨#[]⟩) U0 U0;have q0:=(BY.cell 0).trans rfl;have q1:=(BY.cell 1).trans rfl;have q2:=(BY.cell 2).trans rfl;clear BY YS FS b0 b1 b2 z0 z1 z2 rlt;generalize ((w2.setCell (w.heap.size+1,()) (.string ⟨#[]⟩)).setCell (w.heap.size+1,U1) U0).setCell (w.heap.size+1,U2) U0=wz at *;exact bodyPost_ret (v:=aAu none) (by simp[results,results96,go_sem,q0,q1,q2,aAu]) rfl ⟨rfl,FY⟩
 . rw[h2]
   unfold aSb;have hr:=HR.o;rw[h1] at hr;subst hr;clear HR;have hjl:=(gK h3);obtain⟨vb,rfl,hcell⟩:=HV2.o.some (by omega);obtain⟨g0,g1,g2⟩:=gF h3;have y0:=hcell _ _ g0;have y1:=hcell _ _ g1;have y2:=hcell _ _ g2;have c9:w2.cell? (G.g,9)=(vb,s.vars.length,VC):=by rw[HG2.o.cell];rfl
   have hjl2:(j:Int)<(s.vars.length:Int):=by omega
   have hj0:¬(j:Int)<0:=by omega
   generalize s.vars.length=vl at *;clear h1 h2 h3 HFV HV2 HG2 hcell g0 g1 g2 hjl;go_wp2_with fail
   have BY:=YS.o (bs v.name) v.ty v.slot;have FY:=FS.o (bs v.name) v.ty v.slot;have q0:=(BY.cell 0).trans rfl;have q1:=(BY.cell 1).trans rfl;have q2:=(BY.cell 2).trans rfl;clear BY YS FS b0 b1 b2 z0 z1 z2 rlt;generalize ((w2.setCell (w.heap.size+1,()) (bs v.name)).setCell (w.heap.size+1,U1) v.ty).setCell (w.heap.size+1,U2) v.slot=wz at *;exact bodyPost_ret (v:=aAu (some v)) (by simp[results,results96,go_sem,q0,q1,q2,aAu]) rfl ⟨rfl,FY⟩
end
end Go.Proofs.YtlbjicjinnnboaaGreatDoor
namespace Go.Proofs.YtlbjicjinnnboaaGreatDoor
open Go.RowKit Go.Proofs.Tryz
open Pw
section
variable {G:Geo}{w w':World}{s:CkS}{r:CkR CkS}{zs:List Nat}{k e p:Nat}
def aIx (o:Option bT):Nat:=match o with|none=>0|some v=>v.ty
def aIy (o:Option bT):Nat:=match o with|none=>0|some v=>v.slot
theorem wQ (o:Option bT):∃nm:List UInt8,aAu o = .tuple #[.agg #[bs nm,aIx o,aIy o],o.isSome]:=by
 cases o with
 | none=>exact⟨[],rfl⟩
 | some v=>exact⟨v.name,rfl⟩
theorem aEb (h:Kq G w s zs k e p){x:Nat}{nd:aF} (hx:G.ns[x]?=some nd):
  Calls prog 169 #[(G.g,()),x] w λen w'=>en = .returned (aIx (dV s.vars nd.name))∧Kq G w' { s with slots:=s.slots.set x (aIy (dV s.vars nd.name):Nat) } zs k (if (dV s.vars nd.name).isSome=false∧e=0 then 40 else e) (if (dV s.vars nd.name).isSome=false∧e=0 then x else p)∧FrK G w w':=by
 have S0:=hD h;have HN:=hD (nU h hx);have hxl:=(gK hx);have hx2:(x:Int)<(G.ns.length:Int):=by omega
 have hx3:(G.ns.length:Int)<=300:=by have:=h.geo.few;omega
 obtain⟨nm,hR⟩:=wQ (dV s.vars nd.name);have HR:=hD hR;have ff:=λ(a b c d e:Value) (w:World)=>show (Instr.field 50 (.agg #[a,b,c,d,e]) 3).run prog w = .ok d w from by kernel_rfl
 obtain⟨T,hT⟩:∃T,aIx (dV s.vars nd.name)=T:=⟨_,rfl⟩;obtain⟨L,hL⟩:∃L,aIy (dV s.vars nd.name)=L:=⟨_,rfl⟩;obtain⟨B,hB⟩:∃B,(dV s.vars nd.name).isSome=B:=⟨_,rfl⟩;rw[hT,hL,hB];rw[hT,hL,hB] at HR;obtain⟨EE,hE⟩:∃EE,(if B=false∧e=0 then 40 else e)=EE:=⟨_,rfl⟩;obtain⟨PP,hP⟩:∃PP,(if B=false∧e=0 then x else p)=PP:=⟨_,rfl⟩;rw[hE,hP];have HE:=hD hE;have HP:=hD hP;clear h hx hxl hR hT hL hB hE hP;go_enter func169,ntmps169;go_wp2_with fail
 refine HN.o.mono ?_;rintro en w1 ⟨⟨A,c,rfl,-,-⟩,hf⟩;have S1:=hD (S0.o.no hf);have F1:Hd (FrK G w w1):=FrK.no hf;clear hf HN S0;go_wp2_with fail
 refine (rM S1 nd.name).mono ?_;rintro en w2 ⟨rfl,hf⟩;rw[HR.o];have fa:=hf.alloc (.cells #[bs nm,T,L] 62);have S2:=hD (S1.o.no fa);have F2:=hD (F1.o.trans (FrK.no fa));have B2:=hD (Blk.new w2 62 #[bs nm,T,L]);have HVB:Hd (G.g<w2.heap.size):=Nat.lt_of_lt_of_le S1.o.jK hf.size;clear hf S1 F1 HR fa ff;go_upto_region 2 with fail;generalize w2.alloc (.cells #[bs nm,T,L] 62)=w3 at *;generalize w2.heap.size=VB at *;go_wp2_with fail
 refine dU (lZ S2 B 40 x (by decide)) λw4 S4 f4=>?_;rw[HE.o,HP.o] at S4;have B4:=hD (B2.o.fr f4 (λe=>by
  have e:VB=G.g:=e;have h1:=S2.o.jK;have h2:=HVB.o;omega));have F4:=hD (F2.o.trans (FrK.ofG f4));clear f4 S2 F2 B2;obtain⟨zv,vv,c2,c3,c4,c5,c6,c7,c8,c9,c10,c0,c1,hfz,-⟩:=S4.o.cells;have d1:=(B4.o.cell 1).trans rfl;have d2:=(B4.o.cell 2).trans rfl;have SS:=hD (S4.o.no (fR w4).drew);have FS:=hD (F4.o.trans (FrK.no (fR w4).drew));have BS:=hD (B4.o.fr (fR w4).drew (λx=>x));go_wp2_with fail
 go_still_tail 9,(by kernel_rfl)
 change wpList _ _ _ _ _ w4.drew;clear c2 c3 c4 c5 c6 c7 c8 c9 c10 c0 c1 hfz d1 d2 S4 F4 B4;generalize w4.drew=w5 at *;obtain⟨cs,hsb⟩:=SS.o.slots.ty SS.o.tF;have hz:=hsb.frozen x;have hsl:=hsb.lt;obtain⟨old,hold⟩:∃old,w5.cell? (G.bs,x)=some old:=by
  obtain⟨b,e1,hc⟩:=SS.o.slots.some (by omega);injection e1 with e1;injection e1 with e1;subst e1;have hl:=SS.o.slots.len;exact⟨_,hc x _ (gE (by omega))⟩
 have N:=hD (SS.o.aQj x (L:Int));have d1:(w5.setCell (G.bs,x) L).cell? (VB,1)=T:=((BS.o.far (p:=(G.bs,x)) (λe=>by
  have e:VB=G.bs:=e;have:=SS.o.slots.aD BS (by decide);exact this (by rw[SS.o.tF,e])) L).cell 1).trans rfl
 go_wp2
 go_ret;exact⟨rfl,N.o.1,FS.o.trans N.o.2⟩
end
end Go.Proofs.YtlbjicjinnnboaaGreatDoor
