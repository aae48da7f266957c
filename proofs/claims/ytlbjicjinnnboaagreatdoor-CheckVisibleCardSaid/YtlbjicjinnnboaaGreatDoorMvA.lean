/- MvA: laws and walks for CheckVisible. -/
import Derived.WalkKit
import Derived.WalkSpells
import Derived.WalkLawsBesides
import Derived.Deep.AppendLies
import Derived.Deep.QuietTactic
import Derived.BigQuiet
import Derived.Deep.RegionHeld3
import Derived.Deep.RegionLaw
import Derived.Deep.DeepCutAuto
import Derived.MapFrom
import Derived.Carry
import Derived.Lib.Bytealg
import Derived.Lib.Strings
import Derived.Lib.ParseIntB
import Derived.Lib.SlicesS
import Derived.Test.YtlbjicjinnnboaaGreatDoorProg
import Derived.WalkMore
set_option maxHeartbeats 8000000
set_option maxRecDepth 100000
set_option linter.unusedVariables false
set_option linter.unusedSimpArgs false
namespace Go.Proofs.YtlbjicjinnnboaaGreatDoor
open Go.RowKit Go.Proofs.Tryz
abbrev aA0:=@Option.some.injEq
abbrev aA1:=@Nat.le_refl
abbrev aA2:=@World.cell?_setCell_other
abbrev aA3:=@List.length_append
abbrev aA4:=@Nat.zero_le
abbrev aA5:=@List.take_of_length_le
instance:Coe Nat Value:=⟨λn=>.int .i64 n⟩
instance:Coe Int Value:=⟨λn=>.int .i64 n⟩
instance:Coe ByteArray Value:=⟨.string⟩
instance:Coe Bool Value:=⟨.bool⟩
instance (a i:Nat):CoeDep (Nat×Nat) (a,i) Addr:=⟨⟨a,i,none⟩⟩
instance (a i:Nat):CoeDep (Nat×Nat) (a,i) (Option Addr):=⟨some ⟨a,i,none⟩⟩
instance (a n c:Nat):CoeDep (Nat×Nat×Nat) (a,n,c) Value:=⟨.slice (some ⟨a,0,none⟩) n c⟩
instance (a n c:Nat):CoeDep (Nat×Nat×Nat) (a,n,c) (Option Value):=⟨some (.slice (some ⟨a,0,none⟩) n c)⟩
instance (a:Nat):CoeDep (Nat×Unit) (a,()) Value:=⟨.pointer (some ⟨a,0,none⟩)⟩
instance (a:Nat):CoeDep (Nat×Unit) (a,()) (Option Value):=⟨some (.pointer (some ⟨a,0,none⟩))⟩
instance (a:Nat):CoeDep (Nat×Unit) (a,()) Addr:=⟨⟨a,0,none⟩⟩
instance (a:Nat):CoeDep (Nat×Unit) (a,()) (Option Addr):=⟨some ⟨a,0,none⟩⟩
def Un:Fin 1:=0
instance:CoeDep (Fin 1) Un Value:=⟨.slice none 0 0⟩
instance:CoeDep (Fin 1) Un (Option Value):=⟨some (.slice none 0 0)⟩
def U0:Fin 1:=0
instance:CoeDep (Fin 1) U0 Value:=⟨.int .i64 0⟩
instance:CoeDep (Fin 1) U0 (Option Value):=⟨some (.int .i64 0)⟩
def U1:Fin 1:=0
instance:CoeDep (Fin 1) U1 Value:=⟨.int .i64 1⟩
instance:CoeDep (Fin 1) U1 (Option Value):=⟨some (.int .i64 1)⟩
instance (a:Nat):CoeDep (Nat×Fin 1) (a,U1) Addr:=⟨⟨a,1,none⟩⟩
def U2:Fin 1:=0
instance:CoeDep (Fin 1) U2 Value:=⟨.int .i64 2⟩
instance:CoeDep (Fin 1) U2 (Option Value):=⟨some (.int .i64 2)⟩
instance (a:Nat):CoeDep (Nat×Fin 1) (a,U2) Addr:=⟨⟨a,2,none⟩⟩
def U3:Fin 1:=0
instance:CoeDep (Fin 1) U3 Value:=⟨.int .i64 3⟩
instance:CoeDep (Fin 1) U3 (Option Value):=⟨some (.int .i64 3)⟩
instance (a:Nat):CoeDep (Nat×Fin 1) (a,U3) Addr:=⟨⟨a,3,none⟩⟩
def U4:Fin 1:=0
instance:CoeDep (Fin 1) U4 Value:=⟨.int .i64 4⟩
instance:CoeDep (Fin 1) U4 (Option Value):=⟨some (.int .i64 4)⟩
instance (a:Nat):CoeDep (Nat×Fin 1) (a,U4) Addr:=⟨⟨a,4,none⟩⟩
def U5:Fin 1:=0
instance:CoeDep (Fin 1) U5 Value:=⟨.int .i64 5⟩
instance:CoeDep (Fin 1) U5 (Option Value):=⟨some (.int .i64 5)⟩
instance (a:Nat):CoeDep (Nat×Fin 1) (a,U5) Addr:=⟨⟨a,5,none⟩⟩
def U6:Fin 1:=0
instance:CoeDep (Fin 1) U6 Value:=⟨.int .i64 6⟩
instance:CoeDep (Fin 1) U6 (Option Value):=⟨some (.int .i64 6)⟩
instance (a:Nat):CoeDep (Nat×Fin 1) (a,U6) Addr:=⟨⟨a,6,none⟩⟩
def U7:Fin 1:=0
instance:CoeDep (Fin 1) U7 Value:=⟨.int .i64 7⟩
instance:CoeDep (Fin 1) U7 (Option Value):=⟨some (.int .i64 7)⟩
instance (a:Nat):CoeDep (Nat×Fin 1) (a,U7) Addr:=⟨⟨a,7,none⟩⟩
def U8:Fin 1:=0
instance:CoeDep (Fin 1) U8 Value:=⟨.int .i64 8⟩
instance:CoeDep (Fin 1) U8 (Option Value):=⟨some (.int .i64 8)⟩
instance (a:Nat):CoeDep (Nat×Fin 1) (a,U8) Addr:=⟨⟨a,8,none⟩⟩
def U9:Fin 1:=0
instance:CoeDep (Fin 1) U9 Value:=⟨.int .i64 9⟩
instance:CoeDep (Fin 1) U9 (Option Value):=⟨some (.int .i64 9)⟩
instance (a:Nat):CoeDep (Nat×Fin 1) (a,U9) Addr:=⟨⟨a,9,none⟩⟩
variable {P:Program}{f:FuncId}{a:Array Value}{w0:World}{Q:Ending->World->Prop}{g:Nat}{p:Addr}
def Hd (p:Prop):Prop:=p
theorem hD {p:Prop} (h:p):Hd p:=h
theorem Hd.o {p:Prop} (h:Hd p):p:=h
structure Fr (M:Nat->Prop) (w w':World):Prop where
 os:w'.os=w.os
 tape:w'.tape=w.tape
 output:w'.output=w.output
 size:w.heap.size<=w'.heap.size
 block:∀k,k<w.heap.size->¬M k->w'.heap[k]?=w.heap[k]?
def nob:Nat->Prop:=λ_=>False
def bY (g:Nat):Nat->Prop:=λk=>k=g
def obl (o:Option Nat):Nat->Prop:=λk=>o=some k
section
variable {M M1 M2:Nat->Prop}{w w1 w2 w':World}
theorem Fr.refl (M:Nat->Prop) (w:World):Fr M w w:=⟨rfl,rfl,rfl,aA1 _,λ_ _ _=>rfl⟩
theorem fK {fn:Func}{R:Ending->World->Prop}{a:Act}{w:World} (hr:fn.results=#[]) (hd:a.defers=[]) (hR:R (.returned (.tuple #[])) w):bodyPost P fn R .normal a w:=bodyPost_end (results_none hr _ _ _) hd hR
theorem aPz {fn:Func}{R:Ending->World->Prop}{a:Act}{w:World} (hr:fn.results=#[]) (hd:a.defers=[]) (hR:R (.returned (.tuple #[])) w):bodyPost P fn R .ret a w:=bodyPost_ret (results_none hr _ _ _) hd hR
theorem stepM {A:Ending->World->Prop}{r:World->Ending} (c:Calls P f a w0 λe w=>e=r w∧A e w) (k:∀w,Hd (A (r w) w)->Q (r w) w):Calls P f a w0 Q:=c.mono λe w ⟨h,x⟩=>h ▸ k w (h ▸ x)
theorem dU {A B:Ending->World->Prop}{r:World->Ending} (c:Calls P f a w0 λe w=>e=r w∧A e w∧B e w) (k:∀w,Hd (A (r w) w)->Hd (B (r w) w)->Q (r w) w):Calls P f a w0 Q:=c.mono λe w ⟨h,x,y⟩=>h ▸ k w (h ▸ x) (h ▸ y)
theorem eF {α:Type}{A B:α->Ending->World->Prop}{r:α->World->Ending} (c:Calls P f a w0 λe w=>∃i,e=r i w∧A i e w∧B i e w) (k:∀i w,Hd (A i (r i w) w)->Hd (B i (r i w) w)->Q (r i w) w):Calls P f a w0 Q:=c.mono λe w ⟨i,h,x,y⟩=>h ▸ k i w (h ▸ x) (h ▸ y)
theorem mR {w1:World}{r:Ending} (c:Calls P f a w0 λe w=>e=r∧w=w1) (k:Q r w1):Calls P f a w0 Q:=c.mono λe w ⟨h,x⟩=>h ▸ x ▸ k
theorem bE {w1:World}{r:Ending} (c:Calls P f a w0 λe w=>e=r∧w1=w) (k:Q r w1):Calls P f a w0 Q:=c.mono λe w ⟨h,x⟩=>h ▸ x ▸ k
theorem fR (w:World):Fr nob w w:=Fr.refl nob w
theorem gE{α:Type}{l:List α}{i:Nat}(h:i<l.length):l[i]?=some l[i]:=List.getElem?_eq_getElem h
theorem gK{α:Type}{l:List α}{i:Nat}{a:α}(h:l[i]?=some a):i<l.length:=(List.getElem?_eq_some_iff.1 h).1
theorem bN{α:Type}[BEq α][LawfulBEq α]{a b:α}:(a==b)=false↔a≠b:=beq_eq_false_iff_ne
theorem mS{α β:Type}{b:β}{x:Option α}{f:α->β}:x.map f=some b↔∃a,x=some a∧f a=b:=Option.map_eq_some_iff
theorem bS{α β:Type}{b:β}{x:Option α}{f:α->Option β}:x.bind f=some b↔∃a,x=some a∧f a=some b:=Option.bind_eq_some_iff
theorem Fr.trans (h1:Fr M1 w w1) (h2:Fr M2 w1 w2) (a:∀k,k<w.heap.size->M1 k->M k) (b:∀k,k<w.heap.size->M2 k->M k):Fr M w w2:=
 ⟨h2.os.trans h1.os,h2.tape.trans h1.tape,h2.output.trans h1.output,Nat.le_trans h1.size h2.size,λk hk hM=>
  (h2.block k (Nat.lt_of_lt_of_le hk h1.size) (λh=>hM (b k hk h))).trans (h1.block k hk (λh=>hM (a k hk h)))⟩
theorem Fr.tr (h1:Fr M w w1) (h2:Fr M w1 w2):Fr M w w2:=h1.trans h2 (λ_ _ h=>h) (λ_ _ h=>h)
theorem Fr.mono (h:Fr M1 w w') (a:∀k,k<w.heap.size->M1 k->M k):Fr M w w':=
 ⟨h.os,h.tape,h.output,h.size,λk hk hM=>h.block k hk (λx=>hM (a k hk x))⟩
theorem Fr.aGf (h:Fr nob w w'):Fr M w w':=h.mono λ_ _ x=>x.elim
theorem Fr.drewN (h:Fr M w w') (n:Nat):Fr M w (w'.drewN n):=⟨h.os,h.tape,h.output,h.size,h.block⟩
theorem Fr.drew (h:Fr M w w'):Fr M w w'.drew:=⟨h.os,h.tape,h.output,h.size,h.block⟩
theorem Fr.alloc (h:Fr M w w') (o:Obj):Fr M w (w'.alloc o):=
 h.trans (M2:=nob) ⟨rfl,rfl,rfl,by simp,λk hk _=>Below.heap_alloc _ _ _ hk⟩ (λ_ _ h=>h) (λ_ _ h=>h.elim)
theorem Fr.setCell (h:Fr M w w') (a:Addr) (u:Value) (ha:a.block<w.heap.size->M a.block):Fr M w (w'.setCell a u):=
 h.trans (M2:=λk=>k=a.block) ⟨rfl,rfl,rfl,by simp[World.setCell],λk _ hM=>Below.heap_setCell _ _ _ _ hM⟩ (λ_ _ h=>h) (λk hk e=>by subst e;exact ha hk)
theorem Fr.below (h:Fr nob w w'):Below w.heap.size w w':=⟨h.os,h.tape,h.output,h.size,λk hk=>h.block k hk (λx=>x)⟩
theorem Fr.cell (h:Fr M w w') (hp:p.block<w.heap.size) (hM:¬M p.block):w'.cell? p=w.cell? p:=World.cell?_of_block (w:=w) (h.block _ hp hM)
theorem Fr.frozen (h:Fr M w w') (hp:p.block<w.heap.size) (hM:¬M p.block):w'.frozen? p=w.frozen? p:=World.frozen?_of_block (w:=w) (h.block _ hp hM)
end
def Blk (w:World) (g:Nat) (t:TypeId) (cs:Array Value):Prop:=w.heap[g]?=some (.cells cs t (0,0))
section
variable {M:Nat->Prop}{w w':World}{g:Nat}{t:TypeId}{cs:Array Value}
theorem Blk.lt (h:Blk w g t cs):g<w.heap.size:=(Array.getElem?_eq_some_iff.1 h).1
theorem Blk.cell (h:Blk w g t cs) (i:Nat):w.cell? (g,i)=cs[i]?:=cell_of_row w g i cs t (0,0) h
theorem Blk.frozen (h:Blk w g t cs) (i:Nat):w.frozen? (g,i)=false:=frozen_of_row w g i cs t h
theorem Blk.new (w:World) (t:TypeId) (cs:Array Value):Blk (w.alloc (.cells cs t)) w.heap.size t cs:=heap_alloc_new w _
theorem Blk.fr (h:Blk w g t cs) (f:Fr M w w') (hM:¬M g):Blk w' g t cs:=(f.block g h.lt hM).trans h
theorem Blk.alloc (h:Blk w g t cs) (o:Obj):Blk (w.alloc o) g t cs:=h.fr ((fR w).alloc o) (λx=>x)
theorem Blk.drewN (h:Blk w g t cs) (n:Nat):Blk (w.drewN n) g t cs:=h
theorem Blk.setCell (h:Blk w g t cs) (i:Nat) (u:Value):Blk (w.setCell (g,i) u) g t (cs.setIfInBounds i u):=by
 unfold Blk at h ⊢;simp[World.setCell,Array.getElem?_modify,h]
theorem Blk.far (h:Blk w g t cs) (hp:g≠p.block) (u:Value):Blk (w.setCell p u) g t cs:=(Below.heap_setCell w p u g hp).trans h
theorem Blk.ne {g':Nat}{t':TypeId}{cs':Array Value} (h:Blk w g t cs) (h':Blk w g' t' cs') (hne:t≠t'):g≠g':=by
 rintro rfl;unfold Blk at h h';rw[h] at h';injection h' with h';injection h' with _ ht;exact hne ht
end
def blk:Value->Option Nat
 | .slice (some a) _ c=>if c=0 then none else some a.block
 | _=>none
def Rd (w:World) (size:Nat) (v:Value) (n:Nat) (xs:List Value):Prop:=
 xs.length=n*size∧∃A c,v = .slice A n c∧n<=c∧c<=maxLen∧(0<n->∃ad:Addr,A=some ad∧ad.spot=none∧∀j u,xs[j]?=some u->w.cell? (ad.block,ad.off+j)=some u)
def Own (w:World) (e size:Nat) (v:Value) (n:Nat) (xs:List Value):Prop:=
 xs.length=n*size∧∃A c,v = .slice A n c∧((c=0∧n=0) ∨
  ∃g cur,A=(g,())∧0<c∧Blk w g e cur∧n<=c∧c<=maxLen∧cur.size=c*size∧cur.toList.take (n*size)=xs)
theorem aKq (g o n:Nat):((g,o):Addr).add n=(g,o+n):=by unfold Addr.add;split<;>simp_all
theorem aRp (a:Addr) (h:a.spot=none) (n:Nat):a.add n=(a.block,a.off+n):=by
 obtain⟨b,o,s⟩:=a;simp at h;subst h;exact aKq _ _ _
section
variable {M:Nat->Prop}{w w':World}{e size n m:Nat}{v:Value}{xs ys:List Value}
theorem Own.nil (w:World) (e size:Nat):Own w e size Un 0 []:=⟨by simp,none,0,rfl,.inl ⟨rfl,rfl⟩⟩
theorem Own.empty (w:World) (e size:Nat) (A:Option Addr):Own w e size (.slice A 0 0) 0 []:=⟨by simp,A,0,rfl,.inl ⟨rfl,rfl⟩⟩
theorem Own.len (h:Own w e size v n xs):xs.length=n*size:=h.1
theorem Own.fr (h:Own w e size v n xs) (f:Fr M w w') (hM:∀g,blk v=some g->¬M g):Own w' e size v n xs:=by
 obtain⟨hl,A,c,rfl,h|⟨g,cur,rfl,h0,hb,r⟩⟩:=h
 . exact⟨hl,A,c,rfl,.inl h⟩
 . exact⟨hl,_,c,rfl,.inr ⟨g,cur,rfl,h0,hb.fr f (hM g (by simp[blk];omega)),r⟩⟩
theorem Own.aZ (h:Own w e size v n xs) (hg:blk v=some g):g<w.heap.size:=by
 obtain⟨hl,A,c,rfl,⟨rfl,_⟩|⟨g',cur,rfl,h0,hb,r⟩⟩:=h
 . cases A<;>simp[blk] at hg
 . simp[blk] at hg;have:=hb.lt;omega
theorem Own.aD (h:Own w e size v n xs){t:Nat}{cs:Array Value} (hb:Blk w g t cs) (hne:e≠t):blk v≠some g:=by
 obtain⟨hl,A,c,rfl,⟨rfl,_⟩|⟨g',cur,rfl,h0,hb',r⟩⟩:=h
 . cases A<;>simp[blk]
 . intro hg
   have:g'=g:=by simp[blk] at hg;omega
   subst this;exact hb'.ne hb hne rfl
theorem Own.fV {v':Value}{e' size' n':Nat}{xs':List Value} (h:Own w e size v n xs) (h':Own w e' size' v' n' xs') (hne:e≠e') (hg:blk v'=some g):blk v≠some g:=by
 obtain⟨hl,A,c,rfl,⟨rfl,_⟩|⟨g',cur,rfl,h0,hb',r⟩⟩:=h'
 . cases A<;>simp[blk] at hg
 . have:g'=g:=by simp[blk] at hg;omega
   subst this;exact h.aD hb' hne
theorem Own.rd (h:Own w e size v n xs):Rd w size v n xs:=by
 obtain⟨hl,A,c,rfl,⟨rfl,rfl⟩|⟨g,cur,rfl,h0,hb,hnc,hcm,hsz,ht⟩⟩:=h
 . exact⟨hl,A,0,rfl,aA1 _,aA4 _,λh=>absurd h (by omega)⟩
 . refine⟨hl,_,c,rfl,hnc,hcm,λ_=>⟨_,rfl,rfl,λj u hu=>?_⟩⟩
   rw[hb.cell,Nat.zero_add];rw[<-ht,List.getElem?_take] at hu;split at hu
   . simpa using hu
   . cases hu
theorem Own.cap (h:Own w e size v n xs):∃A c,v = .slice A n c∧n<=c∧c<=maxLen:=by
 obtain⟨_,A,c,hv,h1,h2,_⟩:=h.rd;exact⟨A,c,hv,h1,h2⟩
theorem Rd.slice (h:Rd w size v n xs):∃A c,v = .slice A n c∧n<=c∧c<=maxLen:=by
 obtain⟨_,A,c,hv,h1,h2,_⟩:=h;exact⟨A,c,hv,h1,h2⟩
theorem Rd.fr (h:Rd w size v n xs) (hs:0<size) (f:Fr M w w') (hM:∀A c,v = .slice (some A) n c->0<n->¬M A.block):Rd w' size v n xs:=by
 obtain⟨hl,A,c,rfl,h1,h2,h3⟩:=h;refine⟨hl,A,c,rfl,h1,h2,λhn=>?_⟩;obtain⟨ad,rfl,hsp,hc⟩:=h3 hn;refine⟨ad,rfl,hsp,λj u hu=>?_⟩;have hcell:=hc j u hu;rw[f.cell (World.block_lt_of_cell? _ _ hcell) (hM ad _ rfl hn)];exact hcell
theorem Rd.no (h:Rd w size v n xs) (hs:0<size) (f:Fr nob w w'):Rd w' size v n xs:=h.fr hs f (λ_ _ _ _ x=>x)
theorem Rd.nil (w:World) (size:Nat) (A:Option Addr):Rd w size (.slice A 0 0) 0 []:=⟨by simp,A,0,rfl,aA1 _,aA4 _,λh=>absurd h (by omega)⟩
theorem Own.store (h:Own w e size v n xs) (hg:blk v=some g) (j:Nat) (u:Value):Own (w.setCell (g,j) u) e size v n (xs.set j u):=by
 obtain⟨hl,A,c,rfl,⟨rfl,_⟩|⟨g',cur,rfl,h0,hb,hnc,hcm,hsz,ht⟩⟩:=h
 . cases A<;>simp[blk] at hg
 . have:g'=g:=by simp[blk] at hg;omega
   subst this;refine⟨by simpa using hl,_,c,rfl,.inr ⟨g',_,rfl,h0,hb.setCell j u,hnc,hcm,by simpa using hsz,?_⟩⟩;rw[<-ht,Array.toList_setIfInBounds,List.take_set]
theorem Own.far (h:Own w e size v n xs) (hg:blk v≠some p.block) (u:Value):Own (w.setCell p u) e size v n xs:=
 h.fr ((Fr.refl (bY p.block) w).setCell p u (λ_=>rfl)) (λg hg' hM=>hg (by rw[hg',hM]))
theorem Own.alloc (h:Own w e size v n xs) (o:Obj):Own (w.alloc o) e size v n xs:=h.fr ((fR w).alloc o) (λ_ _ x=>x)
theorem Own.drewN (h:Own w e size v n xs) (k:Nat):Own (w.drewN k) e size v n xs:=h
theorem Own.row {base:Nat} (h:w.ownsRow base e size v n xs) (hn:0<n∨v = Un):Own w e size v n xs:=by
 obtain⟨hl,⟨rfl,rfl⟩|⟨g,cap,cur,rfl,hb,hg,h1,h2,h3,h4⟩⟩:=h
 . exact⟨hl,none,0,rfl,.inl ⟨rfl,rfl⟩⟩
 . rcases hn with hn|hn
   . exact⟨hl,_,cap,rfl,.inr ⟨g,cur,rfl,by omega,hg,h1,h2,h3,h4⟩⟩
   . cases hn
end
structure wY (P:Program) (t e size bytes:Nat) (z:Value):Prop where
 ht:P.underlying t=some (.slice e)
 hi:∃i,P.info? e=some i∧i.zero=some z∧i.size=size∧i.bytes=bytes
 hz:z.cells.size=size
 pos:0<size
theorem wY.mk' {t e size bytes:Nat}{z:Value} (ht:P.underlying t=some (.slice e)) (h:(P.info? e).map (λi=>(i.zero,i.size,i.bytes))=some (some z,size,bytes))
  (hz:z.cells.size=size) (pos:0<size):wY P t e size bytes z:=by
 obtain⟨i,hi,h0,h1,h2⟩:=info_parts h;exact⟨ht,⟨i,hi,h0,h1,h2⟩,hz,pos⟩
section
variable {P:Program}{w:World}{t ty e size bytes n m:Nat}{z v src:Value}{xs news:List Value}
theorem aIr (W:World) (hl:(xs++news).length=(n+m)*size) (hz:z.cells.size=size) (cap:Nat) (hc:n+m<=cap) (hcm:cap<=maxLen) (h0:0<n+m):
   Own (W.alloc (.cells (xs.toArray++news.toArray++Builtin.zeroCells z.cells (cap - (n+m))) e)) e size (W.heap.size,n+m,cap) (n+m) (xs++news):=by
 refine⟨hl,_,cap,rfl,.inr ⟨W.heap.size,_,rfl,by omega,heap_alloc_new W _,hc,hcm,?_,?_⟩⟩
 . rw[Array.size_append,Array.size_append,size_zeroCells,hz]
   simp only[List.size_toArray];rw[<-aA3,hl,<-Nat.add_mul];congr 1;omega
 . rw[Array.toList_append,Array.toList_append,<-hl]
   exact List.take_left
theorem aDp (T:wY P t e size bytes z) (ho:Own w e size v n xs) (hs:Rd w size src m news) (h1:∀u∈news,u.oneCell'=true) (hb:(n+m)*bytes<=140737488355328) (hm:n+m<=maxLen):
   ∃v' w',(Builtin.append_ #[t,t] ty #[v,src]).run P w = .ok v' w'∧Own w' e size v' (n+m) (xs++news)∧Fr (obl (blk v)) w w'∧(blk v'=blk v∨blk v'=some w.heap.size):=by
 obtain⟨i,hi,hz0,hz1,hz2⟩:=T.hi;subst hz1;subst hz2;obtain⟨hsl,A,c,rfl,hmc,hcm,hcells⟩:=hs;have hlen:(xs++news).length=(n+m)*i.size:=by rw[aA3,ho.1,hsl,Nat.add_mul]
 rcases Nat.eq_zero_or_pos m with rfl|hmp
 . have hn:news=[]:=List.eq_nil_of_length_eq_zero (by simpa using hsl)
   subst hn;refine⟨v,w,?_,by simpa using ho,Fr.refl _ w,.inl rfl⟩;obtain⟨_,A',c',rfl,⟨rfl,rfl⟩|⟨g,cur,rfl,h0,hbk,hnc,_⟩⟩:=ho
   . cases A<;>cases A'<;>simp[Builtin.append_,run_underlying T.ht,sizeOf,typeInfo,hi,Builtin.lenOf,Builtin.firstCells,loadCells,loadCellsFrom,storeCells]
   . cases A<;>simp[Builtin.append_,run_underlying T.ht,sizeOf,typeInfo,hi,Builtin.lenOf,Builtin.firstCells,hnc,loadCells,loadCellsFrom,storeCells]
 . obtain⟨ad,rfl,hsp,hc⟩:=hcells hmp
   have hnews:∀j u,news[j]?=some u->w.cell? (ad.add j)=some u:=λj u hu=>by rw[aRp ad hsp];exact hc j u hu
   have fin:∀(old:Nat) (row:Option Nat),
       Own (w.drew.alloc (.cells (xs.toArray++news.toArray++Builtin.zeroCells z.cells (grownCap w (n+m) old e - (n+m))) e)) e i.size
         (w.heap.size,n+m,grownCap w (n+m) old e) (n+m) (xs++news) ∧
       Fr (obl row) w (w.drew.alloc (.cells (xs.toArray++news.toArray++Builtin.zeroCells z.cells (grownCap w (n+m) old e - (n+m))) e)) ∧
       blk (w.heap.size,n+m,grownCap w (n+m) old e)=some w.heap.size:=λold row=>by
     have hge:=grownCap_ge w (n+m) old e;refine⟨aIr w.drew hlen T.hz _ hge (grownCap_le_maxLen w (n+m) old e hm) (by omega),((Fr.refl _ w).drew.alloc _),?_⟩;simp only[blk];rw[if_neg (by omega)]
   have hm63:((n+m:Nat):Int)<=9223372036854775807:=by unfold maxLen at hm;omega
   obtain⟨hl,A',c',rfl,⟨rfl,rfl⟩|⟨g,cur,rfl,h0,hbk,hnc,hc2,hcur,ht⟩⟩:=ho
   . have hx:xs=[]:=List.eq_nil_of_length_eq_zero (by simpa using hl)
     subst hx;cases A' with
     | none=>
       have hr:=run_append_nil (P:=P) w t ty e i z T.ht hi hz0 ad m c news hsl hnews hmp (by omega) (by have hb':=hb;simp only[Nat.zero_add] at hb';omega);obtain⟨f1,f2,f3⟩:=fin 0 (blk Un);simp only[Nat.zero_add,Array.empty_append,List.nil_append] at f1 f2 f3 hr ⊢;exact⟨_,_,hr,f1,f2,.inr f3⟩
     | some b=>
       have hr:=run_append_grow (P:=P) w t ty e i z T.ht hi hz0 b 0 0 [] (by simp) (by simp) ad m c news hsl hnews (by omega) (by omega) (growslice_fits (by omega) hb);obtain⟨f1,f2,f3⟩:=fin 0 (blk (.slice (some b) 0 0));exact⟨_,_,hr,f1,f2,.inr f3⟩
   . by_cases hroom:n+m<=c'
     . have hfit:n*i.size+news.length<=cur.size:=by rw[hsl,hcur,<-Nat.add_mul];exact Nat.mul_le_mul_right _ hroom
       have hr:=run_append_room (P:=P) w t ty e i T.ht hi g n c' cur hbk ad m c news hsl hnews h1 hroom hfit;refine⟨_,_,hr,⟨hlen,_,c',rfl,.inr ⟨g,_,rfl,h0,setRow_heap w g cur _ e _ hbk,hroom,hc2,?_,?_⟩⟩,⟨rfl,rfl,rfl,by simp,λk _ hk=>setRow_other w g k _ (λe=>hk ?_)⟩,.inl ?_⟩
       . simp only[List.size_toArray,aA3,List.length_take,List.length_drop,Array.length_toList]
         omega
       . rw[ht,<-hlen]
         exact List.take_left
       . simp only[obl,blk];rw[if_neg (by omega),e]
       . simp only[blk]
     . have holds:∀j u,xs[j]?=some u->w.cell? (((g,()):Addr).add j)=some u:=λj u hu=>by
         rw[aKq,hbk.cell,Nat.zero_add];rw[<-ht,List.getElem?_take] at hu;split at hu
         . simpa using hu
         . cases hu
       have hr:=run_append_grow (P:=P) w t ty e i z T.ht hi hz0 (g,()) n c' xs hl holds ad m c news hsl hnews (by omega) (by omega) (growslice_fits (by omega) hb);obtain⟨f1,f2,f3⟩:=fin c' (blk (g,n,c'));exact⟨_,_,hr,f1,f2,.inr f3⟩
theorem Rd.eZ {cs:List Value} (h:Blk w g t cs.toArray) (hs:cs.length=n*size) (hm:n<=maxLen):Rd w size (g,n,n) n cs:=
 ⟨hs,_,n,rfl,aA1 _,hm,λ_=>⟨_,rfl,rfl,λj u hu=>by rw[h.cell,Nat.zero_add];simpa using hu⟩⟩
variable {o:Oper}{a:Act}{K:Act->World->Prop}{Q:Exit->Act->World->Prop}{ops:Array Oper}{rest:List Oper}{E:Prop}
theorem xB (s x:Operand) (ho:o.op = .call { callee:= .builtin .append,args:=#[s,x],argTypes:=#[t,t] }) (T:wY P t e size bytes z)
  (hs:a.eval s=v) (hx:a.eval x=src) (hown:Own w e size v n xs) (hrd:Rd w size src m news) (h1:∀u∈news,u.oneCell'=true) (hb:(n+m)*bytes<=140737488355328) (hm:n+m<=maxLen)
  (h:∀A' c' w',Own w' e size (.slice A' (n+m) c') (n+m) (xs++news)->Fr (obl (blk v)) w w'->(blk (.slice A' (n+m) c')=blk v∨blk (.slice A' (n+m) c')=some w.heap.size)->K (a.put o.dst (.slice A' (n+m) c')) w'):o.wp P a w K Q:=by
 obtain⟨v',w',hr,h2,h3,h4⟩:=aDp (P:=P) (ty:=o.type) T hown hrd h1 hb hm;unfold Oper.wp execOp;simp only[ho,resolve,invoke,builtin,Sem.run_bind,Sem.run_pure,Result.andThen_ok,List.map_toArray,List.map_cons,List.map_nil,hs,hx,hr];obtain⟨A',c',rfl,_,_⟩:=h2.cap;exact h A' c' w' h2 h3 h4
theorem aL (hgd:o.guard=none) (s x:Operand) (ho:o.op = .call { callee:= .builtin .append,args:=#[s,x],argTypes:=#[t,t] }) (T:wY P t e size bytes z)
  (hs:a.eval s=v) (hx:a.eval x=src) (hown:Own w e size v n xs) (hrd:Rd w size src m news) (h1:∀u∈news,u.oneCell'=true) (hb:(n+m)*bytes<=140737488355328) (hm:n+m<=maxLen)
  (h:∀A' c' w',Own w' e size (.slice A' (n+m) c') (n+m) (xs++news)->Fr (obl (blk v)) w w'->(blk (.slice A' (n+m) c')=blk v∨blk (.slice A' (n+m) c')=some w.heap.size)->wpList P ops Q rest (a.put o.dst (.slice A' (n+m) c')) w'):wpList P ops Q (o :: rest) a w:=
 wpList_plain hgd λ_ hK=>xB s x ho T hs hx hown hrd h1 hb hm λA' c' w' h2 h3 h4=>hK _ _ (h A' c' w' h2 h3 h4)
theorem step_append (hgd:o.guard=none) (s x:Operand) (ho:o.op = .call { callee:= .builtin .append,args:=#[s,x],argTypes:=#[t,t] }) (T:wY P t e size bytes z)
  (hs:a.eval s=v) (hx:a.eval x=src) (hown:Own w e size v n xs) (hrd:Rd w size src m news) (h1:∀u∈news,u.oneCell'=true) (hb:(n+m)*bytes<=140737488355328) (hm:n+m<=maxLen)
  (h:∀A' c' w',Own w' e size (.slice A' (n+m) c') (n+m) (xs++news)->Fr (obl (blk v)) w w'->(blk (.slice A' (n+m) c')=blk v∨blk (.slice A' (n+m) c')=some w.heap.size)->K (a.put o.dst (.slice A' (n+m) c')) w'):
  if Region.wanted o (yielded ops a.tmps)=true then Oper.wp P o a w K Q else E:=by
 have hw:Region.wanted o (yielded ops a.tmps)=true:=by simp[Region.wanted,hgd]
 rw[if_pos hw];exact xB s x ho T hs hx hown hrd h1 hb hm h
end
end Go.Proofs.YtlbjicjinnnboaaGreatDoor
namespace Go.Proofs.YtlbjicjinnnboaaGreatDoor
open Go.RowKit Go.Proofs.Tryz Go.MapKept
section
variable {P:Program}{w:World}{mty kt et:TypeId}{d:TypeDesc}{r clock:Nat}{es:Array MapEntry}{key value z:Value}
def wJ (w:World) (r:Nat) (es:Array MapEntry) (c:Nat):World:={ w with heap:=w.heap.setIfInBounds r (.map es c) }
theorem pF (hb:w.heap[r]?=some (.map es clock)) (es':Array MapEntry) (c:Nat):(wJ w r es' c).heap[r]?=some (.map es' c):=(heap_set hb).1
theorem wI (w:World) (r:Nat) (es:Array MapEntry) (c:Nat):Fr (bY r) w (wJ w r es c):=
 ⟨rfl,rfl,rfl,by simp[wJ],λk hk hm=>by
  unfold wJ;simp only[Array.getElem?_setIfInBounds];rw[if_neg (λe=>hm e.symm)]⟩
theorem mX (hm:P.underlying mty=some (.map kt et)) (hd:P.underlying kt=some d) (hb:w.heap[r]?=some (.map es clock)) (hk:IsKey d key) (hf:Instr.findNow d key es.toList 0=some none):
  (Instr.mapUpdate mty (.map (some r)) key value).run P w = .ok () (wJ w r (es.push ⟨key,value,clock⟩) (clock+1)):=by
 simp[Instr.mapUpdate,run_underlying hm,Go.MapKept.run_getObj_map hb,run_checkKey hd hk,run_findKey hd hf,Go.MapKept.run_setObj_map _ hb,Result.andThen,wJ]
theorem eX (hm:P.underlying mty=some (.map kt et)) (hd:P.underlying kt=some d) (hb:w.heap[r]?=some (.map es clock)) (hk:IsKey d key){j:Nat} (hf:Instr.findNow d key es.toList 0=some (some (j,value))):
  (Instr.lookup mty (.map (some r)) key false).run P w = .ok value w:=by
 simp[Instr.lookup,run_underlying hm,Go.MapKept.run_getObj_map hb,run_checkKey hd hk,run_findKey hd hf,Result.andThen]
end
end Go.Proofs.YtlbjicjinnnboaaGreatDoor
namespace Go.Proofs.YtlbjicjinnnboaaGreatDoor
open Go.RowKit Go.Proofs.Tryz
variable {w:World}{base n e:Nat}{l:List UInt8}{v:Value}
def bC (c:Int):Bool:=decide (48<=c) && decide (c<=57)
def fU (c:Int):Bool:=(decide (97<=c) && decide (c<=122)) || (decide (65<=c) && decide (c<=90))
def bA (c:Int):Bool:=fU c || bC c || (c==95)
def dD (c:Int):Bool:=decide (32<=c) && decide (c<=126) && (c != 34)
def bW (c:Int):Bool:=c != 10
def runN (p:Int->Bool) (l:List UInt8):Nat:=(l.takeWhile λb=>p b.toNat).length
def aY (l:List UInt8) (k:Nat):Int:=((l.getD k 0).toNat:Int)
theorem jQ (p:Int->Bool) (l:List UInt8):runN p l<=l.length:=by
 unfold runN;induction l with
 | nil=>simp
 | cons a l ih=>rw[List.takeWhile_cons];split<;>simp_all
theorem fP (p:Int->Bool) (l:List UInt8) (k:Nat) (hk:k<l.length):
  runN p (l.drop k)=if p (aY l k) then 1+runN p (l.drop (k+1)) else 0:=by
 rw[List.drop_eq_getElem_cons hk];have:aY l k=((l[k]).toNat:Int):=by simp[aY,List.getD,hk]
 rw[this];unfold runN;rw[List.takeWhile_cons];split<;>simp_all<;>omega
theorem bX (s:ByteArray) (k:Nat) (h:k<s.size):aY s.data.toList k=((s[k]'h).toNat:Int):=by
 have h':k<s.data.toList.length:=by simpa using h
 unfold aY;rw[List.getD,gE h'];rfl
inductive One where
 | ok (kind off len n:Nat)
 | err (e:Nat)
def iW (k:Nat) (t:ByteArray) (p:Nat):Value:= .agg #[k,t,p]
def kR (s:ByteArray):One->Value
 | .ok k o m n=> .tuple #[iW k (s.extract o (m+o)) 0,.int .i64 n,.int .i64 0]
 | .err e=> .tuple #[iW 0 ByteArray.empty 0,.int .i64 0,.int .i64 e]
def aO (a:Nat) (l:List UInt8):Nat:=l.foldl (λa c=>a*10+(c.toNat - 48)) a
def dK (l:List UInt8):Prop:=∀c∈l,48<=c.toNat∧c.toNat<=57
def nJ (d:List UInt8):Bool:=decide (d.length<=19) && decide (aO 0 d<=9223372036854775807)
def jE (l:List UInt8):One:=if nJ (l.take (runN bC l)) then .ok 1 0 (runN bC l) (runN bC l) else .err 12
theorem qC (a:Nat) (l:List UInt8):a<=aO a l:=by
 induction l generalizing a with
 | nil=>exact aA1 _
 | cons c l ih=>
  show a<=aO (a*10+(c.toNat - 48)) l
  have:=ih (a*10+(c.toNat - 48));omega
theorem eB (a:Nat) (c:UInt8) (l:List UInt8):aO a (c :: l)=aO (a*10+(c.toNat - 48)) l:=by unfold aO;rw[List.foldl_cons]
theorem aLl (p:Int->Bool) (l:List UInt8):l.take (runN p l)=l.takeWhile λb=>p b.toNat:=by
 unfold runN;induction l with
 | nil=>rfl
 | cons a l ih=>rw[List.takeWhile_cons];split<;>simp_all
theorem oM (l:List UInt8):dK (l.take (runN bC l)):=by
 rw[aLl];intro c hc;induction l with
 | nil=>simp at hc
 | cons a l ih=>
  rw[List.takeWhile_cons] at hc;split at hc
  . rename_i hd
    rcases List.mem_cons.1 hc with rfl|hc
    . simp[bC] at hd;omega
    . exact ih hc
  . simp at hc
theorem mJ (s:ByteArray) (n:Nat):(s.extract 0 n).data.toList=s.data.toList.take n:=by
 rw[Lib.extract_data];simp
theorem Fr.wU {w2:World}{o:Obj} (f:Fr nob (w.alloc o) w2) (x y z:Value):
   Fr nob w (((w2.setCell (w.heap.size,()) x).setCell (w.heap.size,U1) y).setCell (w.heap.size,U2) z):=
 ((((fR w).alloc o).tr f).setCell _ _ (λh=>absurd h (Nat.lt_irrefl _)) |>.setCell _ _ (λh=>absurd h (Nat.lt_irrefl _))).setCell _ _ (λh=>absurd h (Nat.lt_irrefl _))
def iP:List ByteArray:=[⟨#[102,110]⟩,⟨#[108,101,116]⟩,⟨#[105,102]⟩,⟨#[101,108,115,101]⟩,⟨#[119,104,105,108,101]⟩,⟨#[114,101,116,117,114,110]⟩,⟨#[112,114,105,110,116]⟩,⟨#[105,110,112,117,116]⟩,⟨#[110,101,119]⟩,⟨#[108,101,110]⟩,⟨#[116,114,117,101]⟩,⟨#[102,97,108,115,101]⟩,⟨#[105,110,116]⟩,⟨#[98,111,111,108]⟩,⟨#[116,101,120,116]⟩,⟨#[108,105,115,116]⟩]
def kG:List ByteArray:=[⟨#[124,124]⟩,⟨#[38,38]⟩,⟨#[60,61]⟩,⟨#[61,61]⟩,⟨#[33,61]⟩]
def aIs:ByteArray:=⟨#[40,41,123,125,91,93,44,59,61,60,43,45,42,47,37,33]⟩
def isIn (ss:List ByteArray) (l:List UInt8):Bool:=decide (l∈ss.map λb=>b.data.toList)
def qF (l:List UInt8):Bool:=isIn iP l
def aQq (l:List UInt8):Bool:=isIn kG l
theorem sM (ss:List ByteArray) (x:ByteArray):isIn ss x.data.toList=Lib.containsS ss x:=by
 unfold isIn;have h:x.data.toList∈(ss.map λb=>b.data.toList)↔x∈ss:=by
   rw[List.mem_map];constructor
   . rintro⟨a,ha,he⟩
     have:a=x:=by
      obtain⟨⟨a⟩⟩:=a;obtain⟨⟨x⟩⟩:=x;simp at he;subst he;rfl
     exact this ▸ ha
   . intro h;exact⟨x,h,rfl⟩
 by_cases hx:x∈ss
 . rw[decide_eq_true (h.2 hx),(Lib.containsS_iff ss x).2 hx]
 . rw[decide_eq_false (λe=>hx (h.1 e))]
   cases hc:Lib.containsS ss x
   . rfl
   . exact absurd ((Lib.containsS_iff ss x).1 hc) hx
def sJ (l:List UInt8):One:=if qF (l.take (runN bA l)) then .ok 4 0 (runN bA l) (runN bA l) else if 8<runN bA l then .err 13 else .ok 3 0 (runN bA l) (runN bA l)
def nG (l:List UInt8):One:=
 if l.length<=runN dD (l.drop 1)+1∨aY l (runN dD (l.drop 1)+1)≠34 then .err 11
 else if 12<runN dD (l.drop 1) then .err 4 else .ok 2 1 (runN dD (l.drop 1)) (runN dD (l.drop 1)+2)
def aOg (c:Int):Bool:=decide (0<=Lib.indexByte aIs.data.toList c.toNat.toUInt8)
def kH (l:List UInt8):One:=if 1<l.length∧aQq (l.take 2)=true then .ok 5 0 2 2 else if aOg (aY l 0) then .ok 5 0 1 1 else .err 10
theorem nX (s:ByteArray) (o:One):∃(k:Nat) (t:ByteArray) (n er:Nat),kR s o = .tuple #[.agg #[k,t,U0],n,er]:=by
 cases o with
 | ok k o m n=>exact⟨k,_,n,0,rfl⟩
 | err e=>exact⟨0,_,0,e,rfl⟩
def firstM (l:List UInt8):One:=if bC (aY l 0) then jE l else if fU (aY l 0) then sJ l else if aY l 0==34 then nG l else kH l
structure Tok where
 kind:Nat
 text:List UInt8
 place:Nat
 deriving DecidableEq
variable {K:List Tok}
inductive aGe where
 | good (ts:List Tok)
 | bad (p e:Nat)
def aGe.pre (K:List Tok):aGe->aGe
 | .good ts=> .good (K++ts)
 | .bad p e=> .bad p e
def fB (c:Int):Bool:=decide (0<=Lib.indexByte [32,9,13,10] c.toNat.toUInt8)
def dH (l:List UInt8):Bool:=Lib.hasPrefix l [47,47]
def lexFrom (l:List UInt8) (p:Nat):aGe:=
 match l with
 | []=> .good [⟨0,[],p⟩]
 | c :: r=>
  if fB (aY (c :: r) 0) then lexFrom r (p+1)
  else if dH (c :: r) then lexFrom (r.drop (runN bW (c :: r) - 1)) (p+runN bW (c :: r))
  else match firstM (c :: r) with
   | .err e=> .bad p e
   | .ok k o m n=>(lexFrom (r.drop (n - 1)) (p+n)).pre [⟨k,((c :: r).drop o).take m,p⟩]
termination_by l.length
decreasing_by
 all_goals simp
 all_goals omega
def wM (l:List UInt8):aGe:=if 600<l.length then .bad 0 4 else lexFrom l 0
theorem aIg (K J:List Tok) (r:aGe):(r.pre J).pre K=r.pre (K++J):=by
 cases r<;>simp[aGe.pre]
theorem pre_nil (r:aGe):r.pre []=r:=by cases r<;>simp[aGe.pre]
theorem kJ (q:Int->Bool) (l:List UInt8) (h:0<l.length) (hq:q (aY l 0)=true):1<=runN q l:=by
 have:=fP q l 0 h;rw[List.drop_zero,if_pos hq] at this;omega
theorem jH {k o m:Nat} (h0:0<l.length) (h:firstM l = .ok k o m n):1<=n∧n<=l.length∧o+m<=l.length:=by
 unfold firstM at h;split at h
 . rename_i hd
   unfold jE at h;split at h
   . injection h with h1 h2 h3 h4
     have:=kJ bC l h0 hd;have:=jQ bC l;omega
   . cases h
 . split at h
   . rename_i hd
     have hw:bA (aY l 0)=true:=by unfold bA;rw[hd];rfl
     have:=kJ bA l h0 hw;have:=jQ bA l;unfold sJ at h;split at h
     . injection h with h1 h2 h3 h4;omega
     . split at h
       . cases h
       . injection h with h1 h2 h3 h4;omega
   . split at h
     . unfold nG at h
       split at h
       . cases h
       . rename_i hn
         split at h
         . cases h
         . injection h with h1 h2 h3 h4;omega
     . unfold kH at h
       split at h
       . injection h with h1 h2 h3 h4;omega
       . split at h
         . injection h with h1 h2 h3 h4;omega
         . cases h
section
variable {l:List UInt8}{p:Nat}
theorem lex_nil:lexFrom [] p = .good [⟨0,[],p⟩]:=by rw[lexFrom]
theorem lI (h0:0<l.length) (h:fB (aY l 0)=true):lexFrom l p=lexFrom (l.drop 1) (p+1):=by
 cases l with
 | nil=>simp at h0
 | cons c r=>rw[lexFrom,if_pos h];rfl
theorem jW (h0:0<l.length) (h:fB (aY l 0)=false) (h2:dH l=true):lexFrom l p=lexFrom (l.drop (runN bW l)) (p+runN bW l):=by
 cases l with
 | nil=>simp at h0
 | cons c r=>
  have hl:bW (aY (c :: r) 0)=true:=by
   unfold dH Lib.hasPrefix at h2;simp at h2
   simp[bW,aY,<-h2.1]
  have hp:=kJ bW (c :: r) (by simp) hl;rw[lexFrom,if_neg (by rw[h];simp),if_pos h2];conv=>rhs;rw[show runN bW (c :: r)=(runN bW (c :: r) - 1)+1 by omega]
  rw[List.drop_succ_cons];congr 1
  omega
theorem sN (h0:0<l.length) (h:fB (aY l 0)=false) (h2:dH l=false) (h3:firstM l = .err e):lexFrom l p = .bad p e:=by
 cases l with
 | nil=>simp at h0
 | cons c r=>rw[lexFrom,if_neg (by rw[h];simp),if_neg (by rw[h2];simp),h3]
theorem yI (h0:0<l.length) (h:fB (aY l 0)=false) (h2:dH l=false){k o m:Nat} (h3:firstM l = .ok k o m n):
  lexFrom l p=(lexFrom (l.drop n) (p+n)).pre [⟨k,(l.drop o).take m,p⟩]:=by
 have hn:=jH h0 h3;cases l with
 | nil=>simp at h0
 | cons c r=>
  rw[lexFrom,if_neg (by rw[h];simp),if_neg (by rw[h2];simp),h3];simp only;congr 2
  conv=>rhs;rw[show n=(n - 1)+1 by omega]
  rw[List.drop_succ_cons]
end
def bs (l:List UInt8):ByteArray:=⟨l.toArray⟩
theorem pR (s:ByteArray):bs s.data.toList=s:=rfl
def dP (K:List Tok):List Value:=K.flatMap λt=>[t.kind,bs t.text,t.place]
theorem Blk.new2 (w:World) (o:Obj) (t:TypeId) (cs:Array Value):Blk ((w.alloc o).alloc (.cells cs t)) (w.heap.size+1) t cs:=by
 have:=Blk.new (w.alloc o) t cs;rwa [World.size_alloc] at this
theorem pJ (h:firstM l = .err e):1<=e:=by
 unfold firstM jE sJ nG kH at h;repeat' split at h
 all_goals first|(cases h;done)|(injection h with h;omega)
theorem xH:∀{i:Nat}{t:Tok},K[i]?=some t->(dP K)[i*3]?=t.kind∧(dP K)[i*3+1]?=(bs t.text)∧(dP K)[i*3+2]?=t.place:=by
 induction K with
 | nil=>intro i t h;simp at h
 | cons a K ih=>
  intro i t h;cases i with
  | zero=>simp at h;subst h;exact⟨rfl,rfl,rfl⟩
  | succ i=>
   simp at h
   have h3:=ih h;have e:dP (a :: K)=[.int .i64 a.kind,.string (bs a.text),.int .i64 a.place]++dP K:=rfl;rw[e,show (i+1)*3=i*3+3 by omega];refine⟨?_,?_,?_⟩
   . rw[List.getElem?_append_right (by simp)];exact h3.1
   . rw[List.getElem?_append_right (by simp)];exact h3.2.1
   . rw[List.getElem?_append_right (by simp)];exact h3.2.2
theorem aAs (l:List UInt8) (c:UInt8):0<=Lib.indexByte l c↔c∈l:=by
 induction l with
 | nil=>simp[Lib.indexByte]
 | cons b l ih=>
  have hg:=Lib.indexByte_ge l c;rw[Lib.indexByte,List.mem_cons];by_cases h:b=c
  . subst h;simp
  . rw[if_neg (by simpa using h)]
    by_cases h1:Lib.indexByte l c = -1
    . rw[if_pos (by simpa using h1)]
      have:¬c∈l:=λe=>by have:=ih.2 e;omega
      simp[this];exact λe=>h e.symm
    . rw[if_neg (by simpa using h1)]
      have:c∈l:=ih.1 (by omega);simp[this];omega
theorem aCn (c:UInt8):fB c.toNat=decide (c∈[32,9,13,10]):=by
 unfold fB;rw[show ((c.toNat:Int)).toNat.toUInt8=c by simp];exact decide_eq_decide.2 (aAs _ _)
theorem aRl (l:List UInt8):(bs l).size=l.length:=by show l.toArray.size=l.length;simp
def iU (l:List UInt8) (a:Int):Nat:=1+(l.take a.toNat).count 10
theorem wK (l:List UInt8) (a:Int) (h:a<=0):iU l a=1:=by
 unfold iU;rw[Int.toNat_of_nonpos h];rfl
theorem yG (l:List UInt8) (a:Int) (h:(l.length:Int)<=a):iU l a=1+l.count 10:=by
 unfold iU;rw[aA5 (by omega)]
theorem aJa (l:List UInt8) (k:Nat) (c:UInt8) (h:l[k]?=some c):iU l ((k:Int)+1)=iU l k+(if c=10 then 1 else 0):=by
 unfold iU;rw[show ((k:Int)+1).toNat=k+1 by omega,Int.toNat_natCast,List.take_add_one,h,List.count_append];by_cases e:c=10
 . subst e;rfl
 . rw[if_neg e]
   have:List.count 10 (some c).toList=0:=by simp[List.count_cons,e]
   omega
theorem aJb (l:List UInt8) (a:Int):1<=iU l a∧iU l a<=1+l.length:=by
 unfold iU;have h1:=List.count_le_length (a:=(10:UInt8)) (l:=l.take a.toNat);have h2:(l.take a.toNat).length<=l.length:=by rw[List.length_take];omega
 omega
theorem aDb (l:List UInt8) (a:Int):l.take (min (max a 0) (l.length:Int)).toNat=l.take a.toNat:=by
 by_cases h1:a<=0
 . rw[show (min (max a 0) (l.length:Int)).toNat=0 by omega,show a.toNat=0 by omega]
 . by_cases h2:a<=(l.length:Int)
   . rw[show (min (max a 0) (l.length:Int)).toNat=a.toNat by omega]
   . rw[show (min (max a 0) (l.length:Int)).toNat=l.length by omega,List.take_length,aA5 (by omega)]
theorem qQ {Mo:List UInt8->Nat->Prop} (l:List UInt8) (p:Nat)
  (hnil:l=[]->Mo [] p)
  (hblank:0<l.length->fB (aY l 0)=true->Mo l p)
  (hremark:0<l.length->fB (aY l 0)=false->dH l=true->1<=runN bW l->Mo l p)
  (herr:∀e,0<l.length->fB (aY l 0)=false->dH l=false->firstM l = .err e->Mo l p)
  (hok:∀k o m n,0<l.length->fB (aY l 0)=false->dH l=false->firstM l = .ok k o m n->Mo l p):Mo l p:=by
 cases l with
 | nil=>exact hnil rfl
 | cons c r=>
  by_cases hb:fB (aY (c :: r) 0)=true
  . exact hblank (by simp) hb
  . have hb':fB (aY (c :: r) 0)=false:=by simpa using hb
    by_cases hr:dH (c :: r)=true
    . refine hremark (by simp) hb' hr ?_
      refine kJ bW _ (by simp) ?_;unfold dH Lib.hasPrefix at hr;simp at hr
      simp[bW,aY,<-hr.1]
    . have hr':dH (c :: r)=false:=by simpa using hr
      cases hf:firstM (c :: r) with
      | err e=>exact herr e (by simp) hb' hr' hf
      | ok k o m n=>exact hok k o m n (by simp) hb' hr' hf
def Tok.up (d:Nat) (t:Tok):Tok:=⟨t.kind,t.text,t.place+d⟩
def aGe.up (d:Nat):aGe->aGe
 | .good ts=> .good (ts.map (Tok.up d))
 | .bad p e=> .bad (p+d) e
theorem aAq:∀(n:Nat) (l:List UInt8) (p:Nat),l.length<=n->∀i e,lexFrom l p = .bad i e->1<=e:=by
 intro n;induction n with
 | zero=>
  intro l p h i e hb;have:l=[]:=List.eq_nil_of_length_eq_zero (by omega);subst this;rw[lex_nil] at hb;cases hb
 | succ n ih=>
  intro l p h i e;refine qQ (Mo:=λl p=>l.length<=n+1->lexFrom l p = .bad i e->1<=e) l p ?_ ?_ ?_ ?_ ?_ h
  . intro _ _ hl;rw[lex_nil] at hl;cases hl
  . intro h0 hb h hl
    rw[lI h0 hb] at hl;exact ih _ _ (by rw[List.length_drop];omega) _ _ hl
  . intro h0 hb hr h1 h hl
    rw[jW h0 hb hr] at hl;exact ih _ _ (by rw[List.length_drop];omega) _ _ hl
  . intro e' h0 hb hr hf h hl
    rw[sN h0 hb hr hf] at hl;injection hl with h1 h2;subst h2;exact pJ hf
  . intro k o m n' h0 hb hr hf h hl
    have hn1:=(jH h0 hf).1;rw[yI h0 hb hr hf] at hl;cases hx:lexFrom (l.drop n') (p+n') with
    | good K=>rw[hx] at hl;cases hl
    | bad i' e'=>
     rw[hx] at hl;injection hl with e1 e2;subst e2;exact ih _ _ (by rw[List.length_drop];omega) _ _ hx
theorem wL {i:Nat} (h:wM l = .bad i e):1<=e:=by
 unfold wM at h;split at h
 . injection h with _ h;omega
 . exact aAq _ _ _ (aA1 _) _ _ h
theorem aNv:wY prog 75 115 3 32 (.agg #[U0,.string ⟨#[]⟩,U0]):=wY.mk' (by kernel_rfl) (by kernel_rfl) rfl (by decide)
structure zF (base:Nat) (w:World) (v:Value) (K:List Tok):Prop where
 own:Own w 115 3 v K.length (dP K)
 new:∀g,blk v=some g->base<=g
theorem zF.fr {M:Nat->Prop}{w':World} (h:zF base w v K) (f:Fr M w w') (hM:∀k,M k->k<base):zF base w' v K:=
 ⟨h.own.fr f (λg hg hm=>by have:=h.new g hg;have:=hM g hm;omega),h.new⟩
theorem zF.no {w':World} (h:zF base w v K) (f:Fr nob w w'):zF base w' v K:=h.fr f (λ_ x=>x.elim)
def aRt (base:Nat) (w:World) (e:Ending):aGe->Prop
 | .good ts=>∃v,e = .returned (.tuple #[v,.int .i64 0,.int .i64 0])∧zF base w v ts
 | .bad p er=>e = .returned (.tuple #[.slice none 0 0,.int .i64 p,.int .i64 er])
theorem zF.some {A:Option Addr}{c:Nat} (h:zF base w (.slice A n c) K) (hK:0<K.length):
   ∃g,A=(g,())∧base<=g∧g<w.heap.size∧∀(i:Nat) (t:Tok),K[i]?=some t->w.cell? (g,i*3)=t.kind∧w.cell? (g,i*3+1)=(bs t.text)∧w.cell? (g,i*3+2)=t.place:=by
 obtain⟨hl,A',c',hv,⟨h1,h2⟩|⟨g,cur,rfl,h0,hb,hnc,hcm,hsz,ht⟩⟩:=h.own
 . omega
 . injection hv with hA hn hc
   subst hA;subst hn;subst hc;refine⟨g,rfl,h.new g (by simp[blk];omega),hb.lt,λi t hi=>?_⟩;obtain⟨a1,a2,a3⟩:=xH hi;have hi':=(gK hi);rw[<-ht] at a1 a2 a3;rw[List.getElem?_take] at a1 a2 a3;refine⟨?_,?_,?_⟩
   . rw[hb.cell];split at a1
     . simpa using a1
     . cases a1
   . rw[hb.cell];split at a2
     . simpa using a2
     . cases a2
   . rw[hb.cell];split at a3
     . simpa using a3
     . cases a3
theorem zF.slice (h:zF base w v K):∃A c,v = .slice A K.length c∧K.length<=c∧c<=maxLen:=h.own.cap
end Go.Proofs.YtlbjicjinnnboaaGreatDoor
namespace Go.Proofs.YtlbjicjinnnboaaGreatDoor
open Go.RowKit Go.Proofs.Tryz Go.MapKept
variable {w:World}{h:Nat}{seen:List (List UInt8)}
theorem aLf:prog.underlying 130=some (.map 9 4):=by kernel_rfl
theorem aLg:prog.underlying 9=some .string:=by kernel_rfl
def aMk (ks:List (List UInt8×Nat)):List MapEntry:=ks.map λk=>⟨bs k.1,true,k.2⟩
theorem aRm {a b:List UInt8}:(bs a==bs b)=decide (a=b):=by
 have e:∀x y:ByteArray,(x==y)=decide (x=y):=λx y=>by
   rw[Bool.eq_iff_iff,bytes_beq,decide_eq_true_eq]
 rw[e];by_cases h:a=b
 . subst h;simp
 . rw[decide_eq_false h]
   apply decide_eq_false
   intro e;apply h
   have:=congrArg (λx:ByteArray=>x.data.toList) e;simpa[bs] using this
theorem aAo (nm:List UInt8):∀(ks:List (List UInt8×Nat)) (i:Nat),(nm∉ks.map (·.1)∧Instr.findNow .string (bs nm) (aMk ks) i=some none)∨(∃j c,nm∈ks.map (·.1)∧ks[j]?=some (nm,c)∧Instr.findNow .string (bs nm) (aMk ks) i=some (some (i+j,.bool true)))
 | [],i=> .inl ⟨by simp,rfl⟩
 | (a,c) :: ks,i=>by
   have e:Instr.findNow .string (bs nm) (aMk ((a,c) :: ks)) i=if nm=a then some (some (i,.bool true)) else Instr.findNow .string (bs nm) (aMk ks) (i+1):=by
     show (match (some (bs nm==bs a):Option Bool) with|some true=>_|some false=>_|none=>_)=_
     rw[aRm];by_cases h:nm=a
     . rw[decide_eq_true h,if_pos h]
     . rw[decide_eq_false h,if_neg h];rfl
   rw[e];by_cases h:nm=a
   . subst h
     exact .inr ⟨0,c,by simp,rfl,by rw[if_pos rfl];rfl⟩
   . rw[if_neg h]
     rcases aAo nm ks (i+1) with ⟨h1,h2⟩|⟨j,c',h1,h2,h3⟩
     . exact .inl ⟨by simp only[List.map_cons,List.mem_cons,not_or];exact⟨h,h1⟩,h2⟩
     . exact .inr ⟨j+1,c',by simp only[List.map_cons,List.mem_cons];exact .inr h1,by simpa using h2,by rw[h3,show i+1+j=i+(j+1) by omega]⟩
def aBm (w:World) (h:Nat) (seen:List (List UInt8)):Prop:=∃es clock ks,w.heap[h]?=some (.map es clock)∧es.toList=aMk ks∧∀nm,nm∈ks.map (·.1)↔nm∈seen
theorem aBm.new (w:World):aBm (w.alloc (.map #[] 0)) w.heap.size []:=⟨#[],0,[],(heap_alloc w _).1,rfl,λnm=>Iff.rfl⟩
theorem aBm.lt (hn:aBm w h seen):h<w.heap.size:=by
 obtain⟨es,c,ks,hm,_⟩:=hn;exact (Array.getElem?_eq_some_iff.1 hm).1
theorem aBm.fr {w':World}{M:Nat->Prop} (hn:aBm w h seen) (f:Fr M w w') (hM:¬M h):aBm w' h seen:=by
 obtain⟨es,c,ks,hm,h1,h2⟩:=hn;exact⟨es,c,ks,(f.block h (Array.getElem?_eq_some_iff.1 hm).1 hM).trans hm,h1,h2⟩
theorem rG {P:Program}{mty kt et:TypeId}{d:TypeDesc}{r clock:Nat}{es:Array MapEntry}{key z:Value} (hm:P.underlying mty=some (.map kt et)) (hd:P.underlying kt=some d) (hb:w.heap[r]?=some (.map es clock)) (hk:IsKey d key) (hf:Instr.findNow d key es.toList 0=some none) (hz:(zeroValue et).run P w = .ok z w):
  (Instr.lookup mty (.map (some r)) key false).run P w = .ok z w:=by
 simp[Instr.lookup,run_underlying hm,Go.MapKept.run_getObj_map hb,run_checkKey hd hk,run_findKey hd hf,Result.andThen,hz]
theorem aGi (w:World):(zeroValue 4).run prog w = .ok false w:=by kernel_rfl
theorem aBm.look (hn:aBm w h seen) (nm:List UInt8):(Instr.lookup 130 (.map (some h)) (bs nm) false).run prog w = .ok (decide (nm∈seen)) w:=by
 obtain⟨es,c,ks,hm,h1,h2⟩:=hn;rcases aAo nm ks 0 with ⟨h3,h4⟩|⟨j,c',h3,_,h4⟩
 . rw[decide_eq_false (λx=>h3 ((h2 nm).2 x))]
   exact rG aLf aLg hm (key:= .string (bs nm)) trivial (by rw[h1];exact h4) (aGi w)
 . rw[decide_eq_true ((h2 nm).1 h3)]
   exact eX aLf aLg hm (key:= .string (bs nm)) trivial (by rw[h1];exact h4)
theorem tQ {P:Program}{mty kt et:TypeId}{d:TypeDesc}{r clock j:Nat}{es:Array MapEntry}{key value old:Value}{e:MapEntry} (hm:P.underlying mty=some (.map kt et)) (hd:P.underlying kt=some d) (hb:w.heap[r]?=some (.map es clock)) (hk:IsKey d key) (hf:Instr.findNow d key es.toList 0=some (some (j,old))) (he:es[j]?=some e) (hek:e.key=key):
  (Instr.mapUpdate mty (.map (some r)) key value).run P w = .ok () (wJ w r (es.modify j λe=>{ e with key,val:=value }) clock):=by
 simp[Instr.mapUpdate,run_underlying hm,Go.MapKept.run_getObj_map hb,run_checkKey hd hk,run_findKey hd hf,he,hek,run_keyThatStays hk,Go.MapKept.run_setObj_map _ hb,Result.andThen,wJ]
theorem aBm.upd (hn:aBm w h seen) (nm:List UInt8):∃w',(Instr.mapUpdate 130 (.map (some h)) (bs nm) true).run prog w = .ok () w'∧aBm w' h (seen++[nm])∧Fr (bY h) w w':=by
 obtain⟨es,c,ks,hm,h1,h2⟩:=hn;rcases aAo nm ks 0 with ⟨h3,h4⟩|⟨j,c',h3,h5,h4⟩
 . refine⟨_,mX aLf aLg hm (key:= .string (bs nm)) trivial (by rw[h1];exact h4),⟨_,_,ks++[(nm,c)],pF hm _ _,by rw[Array.toList_push,h1];simp[aMk],λy=>?_⟩,wI _ _ _ _⟩
   rw[List.map_append,List.mem_append,List.mem_append,h2 y];simp
 . rw[Nat.zero_add] at h4
   have he:es[j]?=some ⟨bs nm,true,c'⟩:=by rw[<-Array.getElem?_toList,h1];unfold aMk;rw[List.getElem?_map,h5];rfl
   refine⟨_,tQ aLf aLg hm (key:= .string (bs nm)) trivial (by rw[h1];exact h4) he rfl,⟨_,_,ks,pF hm _ _,?_,λy=>?_⟩,wI _ _ _ _⟩
   . rw[Array.toList_modify,h1]
     apply List.ext_getElem?
     intro i;rw[List.getElem?_modify];by_cases hi:j=i
     . subst hi
       have:(aMk ks)[j]?=some ⟨bs nm,true,c'⟩:=by unfold aMk;rw[List.getElem?_map,h5];rfl
       rw[this];simp
     . simp[hi]
   . rw[h2 y,List.mem_append]
     constructor
     . exact λx=> .inl x
     . rintro (x|x)
       . exact x
       . rw[List.mem_singleton.1 x];exact (h2 nm).1 h3
end Go.Proofs.YtlbjicjinnnboaaGreatDoor
namespace Go.Proofs.YtlbjicjinnnboaaGreatDoor
open Go.RowKit Go.Proofs.Tryz
variable {s:ByteArray}{k:Nat}{c:UInt8}
theorem iX (c:Int) (w:World):Calls prog 127 #[.int .u8 c] w λe w'=>e = .returned (bC c)∧w=w':=by
 unfold bC;go_enter func127,ntmps127;go_wp2
 all_goals (go_ret;simp_all;try omega)
theorem kK (c:Int) (w:World):Calls prog 129 #[.int .u8 c] w λe w'=>e = .returned (fU c)∧w=w':=by
 unfold fU;go_enter func129,ntmps129;go_wp2
 all_goals (go_ret;simp_all;try omega)
theorem aHn (s:ByteArray) (hs:s.size<=281474976710656) (a:Int) (w:World):
  Calls prog 133 #[s,a] w λe w'=>e = .returned (iU s.data.toList a)∧w=w':=by
 have hl:s.data.toList.length=s.size:=by simp
 have HL:=hD hl;clear hl;go_enter func133,ntmps133;go_wp2
 go_loopw [5,6] (λn i w'=>∃k:Nat,k<=s.size∧n = .int .i64 (iU s.data.toList k)∧i = .int .i64 k∧(0<k->(k:Int)<=a)∧w=w') (λ_ i _=>s.size - (intOf i).toNat)
 case atStart=>exact⟨0,aA4 _,by rw[wK _ _ (by omega)];rfl,rfl,λh=>absurd h (by omega),rfl⟩
 case round=>
  obtain⟨k,hk,rfl,rfl,hka,rfl⟩:=hrel;have hle:=(aJb s.data.toList (k:Int)).2;rw[HL.o] at hle;by_cases hlt:k<s.size∧(k:Int)<a
  . obtain⟨h1,h2⟩:=hlt
    have h1':(k:Int)<(s.size:Int):=by omega
    obtain⟨c,hc⟩:∃c,s[k]'h1=c:=⟨_,rfl⟩;have hlk:=aJa s.data.toList k c (by rw[gE (by rw[HL.o];exact h1)];exact congrArg some hc);have HK:=hD hlk;clear hlk;generalize iU s.data.toList (k:Int)=n at *;by_cases h10:c=10
    . have hcb:((c.toNat:Int)==10)=true:=by rw[h10];rfl
      have hn:(n:Int)<=281474976710657:=by omega
      clear hka;go_wp2
      go_roundw
      case rel=>exact⟨k+1,by omega,by (have:=HK.o);rw[if_pos h10] at this;rw[show ((k+1:Nat):Int)=(k:Int)+1 by omega,this];go_num,by go_num,λ_=>by omega,trivial⟩
      case measure=>simp[intOf];omega
    . have hcb:((c.toNat:Int)==10)=false:=bN.2 (λe=>h10 (UInt8.toNat_inj.1 (by (have:(10:UInt8).toNat=10:=rfl);omega)))
      clear hka;go_wp2
      go_roundw
      case rel=>exact⟨k+1,by omega,by (have:=HK.o);rw[if_neg h10] at this;rw[show ((k+1:Nat):Int)=(k:Int)+1 by omega,this];rfl,by go_num,λ_=>by omega,trivial⟩
      case measure=>simp[intOf];omega
  . have he:iU s.data.toList (k:Int)=iU s.data.toList a:=by
      rcases (by omega:k=s.size∨(k:Int)>=a) with h|h
      . rw[yG _ _ (by rw[HL.o];omega)]
        by_cases h2:(s.size:Int)<=a
        . rw[yG _ _ (by rw[HL.o];omega)]
        . rcases Nat.eq_zero_or_pos k with h0|h0
          . have:s.data.toList=[]:=List.eq_nil_of_length_eq_zero (by rw[HL.o];omega)
            rw[this];unfold iU;simp
          . exact absurd (hka h0) (by omega)
      . rcases Nat.eq_zero_or_pos k with h0|h0
        . subst h0
          rw[wK _ _ (by omega),wK _ _ (by omega)]
        . rw[show (k:Int)=a by have:=hka h0;omega]
    have HE:=hD he;clear he;generalize iU s.data.toList (k:Int)=n at *;rcases (by omega:s.size<=k∨(k<s.size∧a<=(k:Int))) with h|⟨h,h2⟩
    . have h':(s.size:Int)<=(k:Int):=by omega
      clear hlt hka;go_wp2
      go_ret;exact⟨by rw[HE.o];rfl,rfl⟩
    . have h':(k:Int)<(s.size:Int):=by omega
      clear hlt hka;go_wp2
      go_ret;exact⟨by rw[HE.o];rfl,rfl⟩
theorem aLd {l:List UInt8} (h:∀x∈iP,x.data.toList≠l):qF l=false:=by
 unfold qF isIn;apply decide_eq_false
 intro hm;obtain⟨x,hx,he⟩:=List.mem_map.1 hm;exact h x hx he
theorem aLc (h:s∈iP):qF s.data.toList=true:=by
 unfold qF isIn;exact decide_eq_true (List.mem_map.2 ⟨s,h,rfl⟩)
theorem aLb (k:Nat) (h:k<16):∃x,iP[k]?=some x∧(iP.map Value.string).toArray[k]?=x:=by
 have:k<iP.length:=h;exact⟨iP[k],gE this,by simp[gE this]⟩
theorem aHd (s:ByteArray) (w:World):Calls prog 130 #[s] w λe w'=>e = .returned (qF s.data.toList)∧Fr nob w w':=by
 go_enter func130,ntmps130;go_wp2
 go_loopw [4] (λi w'=>∃k:Nat,k<=16∧i = .int .i64 k∧Hd (∀j x,j<k->iP[j]?=some x->x≠s)∧w'=w.alloc (.cells (iP.map Value.string).toArray 9)) (λi _=>16 - (intOf i).toNat)
 case atStart=>exact⟨0,aA4 _,rfl,hD (λj x hj=>absurd hj (Nat.not_lt_zero _)),rfl⟩
 case round=>
  obtain⟨k,hk,rfl,HN,rfl⟩:=hrel;have BL:=hD (Blk.new w 9 (iP.map Value.string).toArray);have FR:=hD ((fR w).alloc (.cells (iP.map Value.string).toArray 9));generalize w.alloc (.cells (iP.map Value.string).toArray 9)=w2 at *;by_cases hlt:k<16
  . have hlt2:(k:Int)<16:=by omega
    obtain⟨x,hx,hx2⟩:=aLb k hlt;have c0:=(BL.o.cell k).trans hx2;clear hx2;by_cases he:x=s
    . subst he
      have W:=hD (aLc (List.mem_of_getElem? hx));clear hx;go_wp2
      go_ret;exact⟨by rw[W.o];first|done|rfl,FR⟩
    . have heb:(x.toList==s.toList)=false:=by rw[ByteArray.toList_eq,ByteArray.toList_eq];exact bN.2 (λe=>he (ByteArray.ext (Array.toList_inj.1 e)))
      have HN2:=hD (show ∀j y,j<k+1->iP[j]?=some y->y≠s from λj y hj hy=>by
       by_cases e:j=k
       . subst e
         rw[hx] at hy;injection hy with hy;subst hy;exact he
       . exact HN j y (by omega) hy)
      clear hx;go_wp2
      go_roundw
      case rel=>exact⟨k+1,by omega,by go_num,HN2,trivial⟩
      case measure=>simp[intOf];omega
  . have hlt2:(16:Int)<=(k:Int):=by omega
    have W:=hD (aLd (l:=s.data.toList) (λx hx e=>by
      obtain⟨j,hj,hjx⟩:=List.getElem_of_mem hx;have:j<16:=hj;exact HN j x (by omega) (by rw[gE hj,hjx]) (ByteArray.ext (Array.toList_inj.1 e))))
    go_wp2
    go_ret;exact⟨by rw[W.o];first|done|rfl,FR⟩
theorem jT (l:List UInt8) (a:Nat):aO a l=a*10 ^ l.length+aO 0 l:=by
 induction l generalizing a with
 | nil=>simp[aO]
 | cons c l ih=>
  rw[eB,ih,eB,ih (0*10+(c.toNat - 48)),List.length_cons,Nat.pow_succ];simp only[Nat.add_mul,Nat.zero_mul,Nat.zero_add,Nat.mul_assoc,Nat.mul_comm 10,Nat.add_assoc]
theorem lU (l:List UInt8) (h:dK l):aO 0 l<10 ^ l.length:=by
 induction l with
 | nil=>simp[aO]
 | cons c l ih=>
  have hc:=h c (by simp);have:=ih (λx hx=>h x (by simp[hx]));rw[eB,jT,List.length_cons,Nat.pow_succ];have h2:=Nat.mul_le_mul_right (10 ^ l.length) (show 0*10+(c.toNat - 48)<=9 by omega);omega
theorem aMq:∀(a b:List UInt8),dK a->dK b->a.length=b.length->(Op.bytesLess a b || a==b)=decide (aO 0 a<=aO 0 b):=by
 intro a;induction a with
 | nil=>
  intro b _ _ hl;cases b with
  | nil=>rfl
  | cons y b=>simp at hl
 | cons x a ih=>
  intro b ha hb hl;cases b with
  | nil=>simp at hl
  | cons y b=>
   have hl':a.length=b.length:=by simpa using hl
   have ha':dK a:=λc hc=>ha c (by simp[hc])
   have hb':dK b:=λc hc=>hb c (by simp[hc])
   have hi:=ih b ha' hb' hl';have hx:=ha x (by simp);have hy:=hb y (by simp);have va:=lU a ha';have vb:=lU b hb';rw[eB,eB,jT a,jT b,hl'];rw[hl'] at va;by_cases hlt:x<y
   . have hn:x.toNat<y.toNat:=UInt8.lt_iff_toNat_lt.1 hlt
     have h2:=Nat.mul_le_mul_right (10 ^ b.length) (show 0*10+(x.toNat - 48)+1<=0*10+(y.toNat - 48) by omega);rw[Nat.add_mul,Nat.one_mul] at h2;rw[decide_eq_true (by omega)];simp[Op.bytesLess,hlt]
   . by_cases he:x=y
     . subst he
       have e1:(Op.bytesLess (x :: a) (x :: b) || (x :: a)==(x :: b))=(Op.bytesLess a b || a==b):=by simp[Op.bytesLess]
       rw[e1,hi];exact decide_eq_decide.2 (by omega)
     . have hn:y.toNat<x.toNat:=by
        have h1:¬x.toNat<y.toNat:=λh=>hlt (UInt8.lt_iff_toNat_lt.2 h)
        have h2:x.toNat≠y.toNat:=λh=>he (UInt8.toNat_inj.1 h)
        omega
       have h2:=Nat.mul_le_mul_right (10 ^ b.length) (show 0*10+(y.toNat - 48)+1<=0*10+(x.toNat - 48) by omega);rw[Nat.add_mul,Nat.one_mul] at h2;rw[decide_eq_false (by omega)];have:(x :: a==y :: b)=false:=bN.2 (λe=>he (by injection e));rw[this];simp[Op.bytesLess,hlt,he]
theorem rJ (s:ByteArray) (hd:dK s.data.toList) (hs:s.size<=281474976710656) (w:World):
   Calls prog 128 #[s] w λe w'=>e = .returned (nJ s.data.toList)∧w=w':=by
 have hl:s.data.toList.length=s.size:=by simp
 have hlt:=lU _ hd;rcases (by omega:s.size<19∨s.size=19∨19<s.size) with h|h|h
 . have hn:nJ s.data.toList=true:=by
    unfold nJ;rw[hl] at hlt ⊢;have:10 ^ s.size<=10 ^ 18:=Nat.pow_le_pow_right (by decide) (by omega);rw[decide_eq_true (by omega),decide_eq_true (by omega)];rfl
   rw[hn];have h2:(s.size:Int)<19:=by omega
   clear hn hlt hl hd;go_enter func128,ntmps128;go_wp2
   go_ret;exact⟨rfl,rfl⟩
 . have hn:(Op.bytesLess s.toList [57,50,50,51,51,55,50,48,51,54,56,53,52,55,55,53,56,48,55] || s.toList==[57,50,50,51,51,55,50,48,51,54,56,53,52,55,55,53,56,48,55])=nJ s.data.toList:=by
    rw[ByteArray.toList_eq,aMq _ _ hd (by unfold dK;decide) (by rw[hl,h];rfl)];unfold nJ;rw[hl,show decide (s.size<=19)=true from decide_eq_true (by omega),Bool.true_and];rw[show aO 0 [57,50,50,51,51,55,50,48,51,54,56,53,52,55,55,53,56,48,55]=9223372036854775807 by kernel_rfl]
   have h2:(s.size:Int)=19:=by omega
   generalize nJ s.data.toList=b at *;have HN:=hD hn;clear hlt hl hd h hn;go_enter func128,ntmps128;go_wp2
   go_ret;exact⟨congrArg (λx=>Ending.returned (Value.bool x)) HN,rfl⟩
 . have hn:nJ s.data.toList=false:=by
    unfold nJ;rw[hl,decide_eq_false (by omega)];rfl
   rw[hn];have h2:(19:Int)<(s.size:Int):=by omega
   have h3:((s.size:Int)==19)=false:=bN.2 (by omega);have H4:Hd (decide ((s.size:Int)<19)=false):=decide_eq_false (by omega);clear hn hlt hl hd;go_enter func128,ntmps128;go_wp2
   go_ret;exact⟨by first|rfl|exact congrArg (λx=>Ending.returned (Value.bool x)) H4,rfl⟩
def rF (l:List UInt8):List UInt8:=match kH l with
 | .ok _ _ m _=>l.take m
 | .err _=>[]
def aBl (s:ByteArray) (k:Nat):Prop:=∀j x,j<k->kG[j]?=some x->2<=s.size->s.extract 0 2≠x
def aKw (c:UInt8) (k:Nat):Prop:=∀j x,j<k->aIs.data.toList[j]?=some x->c≠x
theorem aOt (k:Nat) (h:k<5):∃x,kG[k]?=some x∧(kG.map Value.string).toArray[k]?=x:=by
 have:k<kG.length:=h;exact⟨kG[k],gE this,by simp[gE this]⟩
theorem aBl.next {x:ByteArray} (h:aBl s k) (hx:kG[k]?=some x) (he:2<=s.size->s.extract 0 2≠x):aBl s (k+1):=λj y hj hy=>by
 by_cases e:j=k
 . subst e
   rw[hx] at hy;injection hy with hy;subst hy;exact he
 . exact h j y (by omega) hy
theorem aKw.next {x:UInt8} (h:aKw c k) (hx:aIs.data.toList[k]?=some x) (he:c≠x):aKw c (k+1):=λj y hj hy=>by
 by_cases e:j=k
 . subst e
   rw[hx] at hy;injection hy with hy;subst hy;exact he
 . exact h j y (by omega) hy
theorem aGn {x:ByteArray} (hx:kG[k]?=some x) (h2:2<=s.size) (he:s.extract 0 2=x):bs (rF s.data.toList)=x:=by
 have hl:s.data.toList.length=s.size:=by simp
 have ht:s.data.toList.take 2=x.data.toList:=by rw[<-he,mJ]
 have:kH s.data.toList = .ok 5 0 2 2:=by
  unfold kH;refine if_pos ⟨by omega,?_⟩;unfold aQq isIn;exact decide_eq_true (List.mem_map.2 ⟨x,List.mem_of_getElem? hx,ht.symm⟩)
 unfold rF;rw[this]
 show bs (s.data.toList.take 2)=x
 rw[ht,pR]
theorem aBr (h:aBl s 5):kH s.data.toList=if aOg (aY s.data.toList 0) then .ok 5 0 1 1 else .err 10:=by
 have hl:s.data.toList.length=s.size:=by simp
 unfold kH;rw[if_neg];rintro⟨h1,h2⟩;unfold aQq isIn at h2;obtain⟨x,hx,he⟩:=List.mem_map.1 (of_decide_eq_true h2);obtain⟨j,hj,hjx⟩:=List.getElem_of_mem hx;have hj5:j<5:=hj;refine h j x hj5 (by rw[gE hj,hjx]) (by omega) ?_;apply ByteArray.ext
 apply Array.toList_inj.1
 rw[mJ];exact he.symm
theorem aIt (h0:0<s.size) (hc:s[0]'h0=c) (h:aBl s 5) (hm:c∈aIs.data.toList):rF s.data.toList=[c]:=by
 have hb:=bX s 0 h0;rw[hc] at hb;unfold rF;rw[aBr h,hb];have:aOg (c.toNat:Int)=true:=by
  unfold aOg;rw[show ((c.toNat:Int)).toNat.toUInt8=c by simp];exact decide_eq_true ((aAs _ _).2 hm)
 rw[if_pos this]
 show s.data.toList.take 1=[c]
 have h1:s.data.toList[0]?=some c:=by rw[gE (by simpa using h0)];exact congrArg some hc
 rw[List.take_add_one,h1];rfl
theorem aMj (h0:0<s.size) (hc:s[0]'h0=c) (h:aBl s 5) (hn:aKw c 16):rF s.data.toList=[]:=by
 have hb:=bX s 0 h0;rw[hc] at hb;unfold rF;rw[aBr h,hb];have:aOg (c.toNat:Int)=false:=by
  unfold aOg;rw[show ((c.toNat:Int)).toNat.toUInt8=c by simp];apply decide_eq_false
  rw[aAs];intro hm;obtain⟨j,hj,hjx⟩:=List.getElem_of_mem hm;have hj16:j<16:=hj;exact hn j c hj16 (by rw[gE hj,hjx]) rfl
 rw[if_neg (by rw[this];simp)]
theorem aPj (k : Nat) (h : k < 16) : ∃ c, ∃ (h' : k < (⟨#[40, 41, 123, 125, 91, 93, 44, 59, 61, 60, 43, 45, 42, 47, 37, 33]⟩ : ByteArray).size), (⟨#[40, 41, 123, 125, 91, 93, 44, 59, 61, 60, 43, 45, 42, 47, 37, 33]⟩ : ByteArray)[k]'h' = c ∧ aIs.data.toList[k]? = some c ∧
  (⟨#[40,41,123,125,91,93,44,59,61,60,43,45,42,47,37,33]⟩:ByteArray).extract k (k+1)=bs [c]:=by
 rcases (by omega:k=0∨k=1∨k=2∨k=3∨k=4∨k=5∨k=6∨k=7∨k=8∨k=9∨k=10∨k=11∨k=12∨k=13∨k=14∨k=15) with rfl|rfl|rfl|rfl|rfl|rfl|rfl|rfl|rfl|rfl|rfl|rfl|rfl|rfl|rfl|rfl
 all_goals exact⟨_,by decide,rfl,rfl,rfl⟩
theorem aHj (s:ByteArray) (h0:0<s.size) (w:World):Calls prog 132 #[s] w λe w'=>e = .returned (bs (rF s.data.toList))∧Fr nob w w':=by
 have h0i:(0:Int)<(s.size:Int):=by omega
 obtain⟨c0,hc0⟩:∃c,s[0]'h0=c:=⟨_,rfl⟩;have HC0:=hD hc0;go_enter func132,ntmps132;go_wp2
 have BL:=hD (Blk.new w 9 (kG.map Value.string).toArray);have FR:=hD ((fR w).alloc (.cells (kG.map Value.string).toArray 9));have e2:w.alloc (.cells (kG.map Value.string).toArray 9)=w.alloc (.cells #[.string ⟨#[124,124]⟩,.string ⟨#[38,38]⟩,.string ⟨#[60,61]⟩,.string ⟨#[61,61]⟩,.string ⟨#[33,61]⟩] 9):=rfl;rw[e2] at BL FR;clear e2;generalize hw2:w.alloc (.cells #[.string ⟨#[124,124]⟩,.string ⟨#[38,38]⟩,.string ⟨#[60,61]⟩,.string ⟨#[61,61]⟩,.string ⟨#[33,61]⟩] 9)=w2 at *;clear hw2;go_loopw [4] (λi w'=>∃k:Nat,k<=5∧i = .int .i64 k∧Hd (aBl s k)∧Hd (Fr nob w2 w')) (λi _=>5 - (intOf i).toNat)
 case atStart=>exact⟨0,aA4 _,rfl,hD (λj x hj=>absurd hj (Nat.not_lt_zero _)),hD (Fr.refl _ _)⟩
 case round=>
  obtain⟨k,hk,rfl,HN,F2⟩:=hrel;by_cases hlt:k<5
  . have hlt2:(k:Int)<5:=by omega
    obtain⟨x,hx,hx2⟩:=aOt k hlt;have HX:=hD hx;have c0:=((BL.o.fr F2 (λx=>x)).cell k).trans hx2;have cK:=(F2.o.cell (p:=(w.heap.size,k)) BL.o.lt (λx=>x)).symm;clear hx2 hx cK;by_cases hs2:2<=s.size
    . have hs3:(2:Int)<=(s.size:Int):=by omega
      have hsd:decide ((2:Int)<=(s.size:Int))=true:=decide_eq_true hs3;obtain⟨s2,hs2'⟩:∃s2,s.extract 0 2=s2:=⟨_,rfl⟩;by_cases he:s2=x
      . have RS:=hD (aGn HX hs2 (hs2'.trans he))
        subst he;clear hs2;go_wp2
        go_quiet (fail)
        go_wp2
        go_ret;exact⟨by rw[RS.o];first|done|rfl,(FR.o.tr F2).drewN _⟩
      . have heb:(s2.toList==x.toList)=false:=by rw[ByteArray.toList_eq,ByteArray.toList_eq];exact bN.2 (λe=>he (ByteArray.ext (Array.toList_inj.1 e)))
        have HN2:=hD (HN.o.next HX (λ_=>by rw[hs2'];exact he));clear hs2 he;go_wp2
        go_quiet (fail)
        go_wp2
        go_roundw
        case rel=>exact⟨k+1,by omega,by go_num,HN2,hD (F2.o.drewN _)⟩
        case measure=>simp[intOf];omega
    . have hs3:(s.size:Int)<2:=by omega
      have hsd:decide ((2:Int)<=(s.size:Int))=false:=decide_eq_false (by omega);have HN2:=hD (HN.o.next HX (λh=>absurd h hs2));clear hs2;go_wp2
      go_quiet (fail)
      go_wp2
      go_roundw
      case rel=>exact⟨k+1,by omega,by go_num,HN2,hD (F2.o.drewN _)⟩
      case measure=>simp[intOf];omega
  . have hk5:k=5:=by omega
    subst hk5;clear hlt hk;go_wp2
    go_loopw [6] (λi w'=>∃k:Nat,k<=16∧i = .int .i64 k∧Hd (aKw c0 k)∧Hd (Fr nob w2 w')) (λi _=>16 - (intOf i).toNat)
    case atStart=>exact⟨0,aA4 _,rfl,hD (λj x hj=>absurd hj (Nat.not_lt_zero _)),F2⟩
    case round=>
      obtain⟨k,hk,rfl,HO,F3⟩:=hrel;by_cases hlt:k<16
      . have hlt2:(k:Int)<16:=by omega
        obtain⟨c,hcs,hc,hcl,hce⟩:=aPj k hlt;have HCL:=hD hcl;have HCE:=hD hce;clear hcl hce;by_cases he:c0=c
        . have RS:=hD (aIt h0 HC0 HN (he ▸ List.mem_of_getElem? HCL))
          have heb:((c0.toNat:Int)==(c.toNat:Int))=true:=by rw[he];simp
          go_wp2
          go_quiet (fail)
          go_wp2
          go_ret;exact⟨by rw[RS.o,he,<-HCE.o];first|done|rfl,(FR.o.tr F3).drewN _⟩
        . have heb:((c0.toNat:Int)==(c.toNat:Int))=false:=bN.2 (λe=>he (UInt8.toNat_inj.1 (by omega)))
          have HN2:=hD (HO.o.next HCL he);clear he;go_wp2
          go_quiet (fail)
          go_wp2
          go_roundw
          case rel=>exact⟨k+1,by omega,by go_num,HN2,hD (F3.o.drewN _)⟩
          case measure=>simp[intOf];omega
      . have hk16:k=16:=by omega
        subst hk16;have RS:=hD (aMj h0 HC0 HN HO);clear hlt hk;go_wp2
        go_ret;exact⟨by rw[RS.o];first|done|rfl,FR.o.tr F3⟩
end Go.Proofs.YtlbjicjinnnboaaGreatDoor
