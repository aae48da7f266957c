/- MkA: Mem, MapLit, LP, LT, KqHm, RA, RB, RC, RD. -/
import Derived.WalkKit
import Derived.WalkSpells
import Derived.WalkLawsBesides
import Derived.Deep.AppendLies
import Derived.Deep.QuietTactic
import Derived.BigQuiet
import Derived.Deep.RegionHeld3
import Derived.Deep.RegionLaw
import Derived.Deep.DeepCutAuto
import Derived.MapFrom
import Derived.Carry
import Derived.Lib.Bytealg
import Derived.Lib.Strings
import Derived.Lib.ParseIntB
import Derived.Lib.SlicesS
import Derived.Test.YtlbjicjinnnboaaGreatDoorProg
import Derived.WalkMore
set_option linter.unusedVariables false
set_option linter.unusedSimpArgs false
/- A library of this claim's own: frames between worlds, rows of cells that are read, rows that are owned, and append and make on them. No program is named here. -/
namespace Go.Proofs.YtlbjicjinnnboaaGreatDoor
open Go.RowKit
theorem hid {p:Prop} (h:p):Hid p:=h
structure Fr (M:Nat→Prop) (w w':World):Prop where
 os:w'.os=w.os
 tape:w'.tape=w.tape
 output:w'.output=w.output
 size:w.heap.size≤w'.heap.size
 block:∀k,k<w.heap.size→¬M k→w'.heap[k]?=w.heap[k]?
def nob:Nat→Prop:=fun _=>False
def oneb (g:Nat):Nat→Prop:=fun k=>k=g
def obl (o:Option Nat):Nat→Prop:=fun k=>o=some k
section
variable {M M1 M2:Nat→Prop}{w w1 w2 w':World}
theorem Fr.refl (M:Nat→Prop) (w:World):Fr M w w:=⟨rfl,rfl,rfl,Nat.le_refl _,fun _ _ _=>rfl⟩
theorem Fr.trans (h1:Fr M1 w w1) (h2:Fr M2 w1 w2) (a:∀k,k<w.heap.size→M1 k→M k) (b:∀k,k<w.heap.size→M2 k→M k):Fr M w w2:=
 ⟨h2.os.trans h1.os,h2.tape.trans h1.tape,h2.output.trans h1.output,Nat.le_trans h1.size h2.size,fun k hk hM=>
  (h2.block k (Nat.lt_of_lt_of_le hk h1.size) (fun h=>hM (b k hk h))).trans (h1.block k hk (fun h=>hM (a k hk h)))⟩
theorem Fr.tr (h1:Fr M w w1) (h2:Fr M w1 w2):Fr M w w2:=h1.trans h2 (fun _ _ h=>h) (fun _ _ h=>h)
theorem Fr.mono (h:Fr M1 w w') (a:∀k,k<w.heap.size→M1 k→M k):Fr M w w':=
 ⟨h.os,h.tape,h.output,h.size,fun k hk hM=>h.block k hk (fun x=>hM (a k hk x))⟩
theorem Fr.ofNo (h:Fr nob w w'):Fr M w w':=h.mono fun _ _ x=>x.elim
theorem Fr.drewN (h:Fr M w w') (n:Nat):Fr M w (w'.drewN n):=⟨h.os,h.tape,h.output,h.size,h.block⟩
theorem Fr.drew (h:Fr M w w'):Fr M w w'.drew:=⟨h.os,h.tape,h.output,h.size,h.block⟩
theorem Fr.alloc (h:Fr M w w') (o:Obj):Fr M w (w'.alloc o):=
 h.trans (M2:=nob) ⟨rfl,rfl,rfl,by simp,fun k hk _=>Below.heap_alloc _ _ _ hk⟩ (fun _ _ h=>h) (fun _ _ h=>h.elim)
theorem Fr.setCell (h:Fr M w w') (a:Addr) (u:Value) (ha:a.block<w.heap.size→M a.block):Fr M w (w'.setCell a u):=
 h.trans (M2:=fun k=>k=a.block) ⟨rfl,rfl,rfl,by simp[World.setCell],fun k _ hM=>Below.heap_setCell _ _ _ _ hM⟩ (fun _ _ h=>h) (fun k hk e=>by subst e;exact ha hk)
theorem Fr.below (h:Fr nob w w'):Below w.heap.size w w':=⟨h.os,h.tape,h.output,h.size,fun k hk=>h.block k hk (fun x=>x)⟩
theorem Fr.cell (h:Fr M w w'){p:Addr} (hp:p.block<w.heap.size) (hM:¬M p.block):w'.cell? p=w.cell? p:=World.cell?_of_block (w:=w) (h.block _ hp hM)
theorem Fr.frozen (h:Fr M w w'){p:Addr} (hp:p.block<w.heap.size) (hM:¬M p.block):w'.frozen? p=w.frozen? p:=World.frozen?_of_block (w:=w) (h.block _ hp hM)
end
def Blk (w:World) (g:Nat) (t:TypeId) (cs:Array Value):Prop:=w.heap[g]?=some (.cells cs t (0,0))
section
variable {M:Nat→Prop}{w w':World}{g:Nat}{t:TypeId}{cs:Array Value}
theorem Blk.lt (h:Blk w g t cs):g<w.heap.size:=(Array.getElem?_eq_some_iff.1 h).1
theorem Blk.cell (h:Blk w g t cs) (i:Nat):w.cell? ⟨g,i,none⟩=cs[i]?:=cell_of_row w g i cs t (0,0) h
theorem Blk.frozen (h:Blk w g t cs) (i:Nat):w.frozen? ⟨g,i,none⟩=false:=frozen_of_row w g i cs t h
theorem Blk.new (w:World) (t:TypeId) (cs:Array Value):Blk (w.alloc (.cells cs t)) w.heap.size t cs:=heap_alloc_new w _
theorem Blk.fr (h:Blk w g t cs) (f:Fr M w w') (hM:¬M g):Blk w' g t cs:=(f.block g h.lt hM).trans h
theorem Blk.alloc (h:Blk w g t cs) (o:Obj):Blk (w.alloc o) g t cs:=h.fr ((Fr.refl nob w).alloc o) (fun x=>x)
theorem Blk.drewN (h:Blk w g t cs) (n:Nat):Blk (w.drewN n) g t cs:=h
theorem Blk.setCell (h:Blk w g t cs) (i:Nat) (u:Value):Blk (w.setCell ⟨g,i,none⟩ u) g t (cs.setIfInBounds i u):=by
 unfold Blk at h ⊢;simp[World.setCell,Array.getElem?_modify,h]
theorem Blk.far (h:Blk w g t cs){p:Addr} (hp:g≠p.block) (u:Value):Blk (w.setCell p u) g t cs:=(Below.heap_setCell w p u g hp).trans h
theorem Blk.ne {g':Nat}{t':TypeId}{cs':Array Value} (h:Blk w g t cs) (h':Blk w g' t' cs') (hne:t≠t'):g≠g':=by
 rintro rfl;unfold Blk at h h';rw[h] at h';injection h' with h';injection h' with _ ht;exact hne ht
end
def blk:Value→Option Nat
 | .slice (some a) _ c=>if c=0 then none else some a.block
 | _=>none
def Rd (w:World) (size:Nat) (v:Value) (n:Nat) (xs:List Value):Prop:=
 xs.length=n*size∧∃A c,v = .slice A n c∧n≤c∧c≤maxLen∧(0<n→∃ad:Addr,A=some ad∧ad.spot=none∧∀j u,xs[j]?=some u→w.cell? ⟨ad.block,ad.off+j,none⟩=some u)
def Own (w:World) (e size:Nat) (v:Value) (n:Nat) (xs:List Value):Prop:=
 xs.length=n*size∧∃A c,v = .slice A n c∧((c=0∧n=0) ∨
  ∃g cur,A=some ⟨g,0,none⟩∧0<c∧Blk w g e cur∧n≤c∧c≤maxLen∧cur.size=c*size∧cur.toList.take (n*size)=xs)
theorem add_mk (g o n:Nat):(⟨g,o,none⟩:Addr).add n=⟨g,o+n,none⟩:=by unfold Addr.add;split<;>simp_all
theorem add_of (a:Addr) (h:a.spot=none) (n:Nat):a.add n=⟨a.block,a.off+n,none⟩:=by
 obtain⟨b,o,s⟩:=a;simp at h;subst h;exact add_mk _ _ _
section
variable {M:Nat→Prop}{w w':World}{e size n m:Nat}{v:Value}{xs ys:List Value}
theorem Own.nil (w:World) (e size:Nat):Own w e size (.slice none 0 0) 0 []:=⟨by simp,none,0,rfl,.inl ⟨rfl,rfl⟩⟩
theorem Own.empty (w:World) (e size:Nat) (A:Option Addr):Own w e size (.slice A 0 0) 0 []:=⟨by simp,A,0,rfl,.inl ⟨rfl,rfl⟩⟩
theorem Own.len (h:Own w e size v n xs):xs.length=n*size:=h.1
theorem Own.fr (h:Own w e size v n xs) (f:Fr M w w') (hM:∀g,blk v=some g→¬M g):Own w' e size v n xs:=by
 obtain⟨hl,A,c,rfl,h|⟨g,cur,rfl,h0,hb,r⟩⟩:=h
 · exact⟨hl,A,c,rfl,.inl h⟩
 · exact⟨hl,_,c,rfl,.inr ⟨g,cur,rfl,h0,hb.fr f (hM g (by simp[blk];omega)),r⟩⟩
theorem Own.blk_lt (h:Own w e size v n xs){g:Nat} (hg:blk v=some g):g<w.heap.size:=by
 obtain⟨hl,A,c,rfl,⟨rfl,_⟩|⟨g',cur,rfl,h0,hb,r⟩⟩:=h
 · cases A<;>simp[blk] at hg
 · simp[blk] at hg;have:=hb.lt;omega
theorem Own.blk_ne (h:Own w e size v n xs){g t:Nat}{cs:Array Value} (hb:Blk w g t cs) (hne:e≠t):blk v≠some g:=by
 obtain⟨hl,A,c,rfl,⟨rfl,_⟩|⟨g',cur,rfl,h0,hb',r⟩⟩:=h
 · cases A<;>simp[blk]
 · intro hg
   have:g'=g:=by simp[blk] at hg;omega
   subst this;exact hb'.ne hb hne rfl
theorem Own.blk_ne' {v':Value}{e' size' n':Nat}{xs':List Value} (h:Own w e size v n xs) (h':Own w e' size' v' n' xs') (hne:e≠e'){g:Nat} (hg:blk v'=some g):blk v≠some g:=by
 obtain⟨hl,A,c,rfl,⟨rfl,_⟩|⟨g',cur,rfl,h0,hb',r⟩⟩:=h'
 · cases A<;>simp[blk] at hg
 · have:g'=g:=by simp[blk] at hg;omega
   subst this;exact h.blk_ne hb' hne
theorem Own.rd (h:Own w e size v n xs):Rd w size v n xs:=by
 obtain⟨hl,A,c,rfl,⟨rfl,rfl⟩|⟨g,cur,rfl,h0,hb,hnc,hcm,hsz,ht⟩⟩:=h
 · exact⟨hl,A,0,rfl,Nat.le_refl _,Nat.zero_le _,fun h=>absurd h (by omega)⟩
 · refine⟨hl,_,c,rfl,hnc,hcm,fun _=>⟨_,rfl,rfl,fun j u hu=>?_⟩⟩
   rw[hb.cell,Nat.zero_add];rw[←ht,List.getElem?_take] at hu;split at hu
   · simpa using hu
   · cases hu
theorem Own.cap (h:Own w e size v n xs):∃A c,v = .slice A n c∧n≤c∧c≤maxLen:=by
 obtain⟨_,A,c,hv,h1,h2,_⟩:=h.rd;exact⟨A,c,hv,h1,h2⟩
theorem Rd.slice (h:Rd w size v n xs):∃A c,v = .slice A n c∧n≤c∧c≤maxLen:=by
 obtain⟨_,A,c,hv,h1,h2,_⟩:=h;exact⟨A,c,hv,h1,h2⟩
theorem Rd.fr (h:Rd w size v n xs) (hs:0<size) (f:Fr M w w') (hM:∀A c,v = .slice (some A) n c→0<n→¬M A.block):Rd w' size v n xs:=by
 obtain⟨hl,A,c,rfl,h1,h2,h3⟩:=h;refine⟨hl,A,c,rfl,h1,h2,fun hn=>?_⟩;obtain⟨ad,rfl,hsp,hc⟩:=h3 hn;refine⟨ad,rfl,hsp,fun j u hu=>?_⟩;have hcell:=hc j u hu;rw[f.cell (World.block_lt_of_cell? _ _ hcell) (hM ad _ rfl hn)];exact hcell
theorem Rd.no (h:Rd w size v n xs) (hs:0<size) (f:Fr nob w w'):Rd w' size v n xs:=h.fr hs f (fun _ _ _ _ x=>x)
theorem Rd.nil (w:World) (size:Nat) (A:Option Addr):Rd w size (.slice A 0 0) 0 []:=⟨by simp,A,0,rfl,Nat.le_refl _,Nat.zero_le _,fun h=>absurd h (by omega)⟩
theorem Own.store (h:Own w e size v n xs){g:Nat} (hg:blk v=some g) (j:Nat) (u:Value):Own (w.setCell ⟨g,j,none⟩ u) e size v n (xs.set j u):=by
 obtain⟨hl,A,c,rfl,⟨rfl,_⟩|⟨g',cur,rfl,h0,hb,hnc,hcm,hsz,ht⟩⟩:=h
 · cases A<;>simp[blk] at hg
 · have:g'=g:=by simp[blk] at hg;omega
   subst this;refine⟨by simpa using hl,_,c,rfl,.inr ⟨g',_,rfl,h0,hb.setCell j u,hnc,hcm,by simpa using hsz,?_⟩⟩;rw[←ht,Array.toList_setIfInBounds,List.take_set]
theorem Own.far (h:Own w e size v n xs){p:Addr} (hg:blk v≠some p.block) (u:Value):Own (w.setCell p u) e size v n xs:=
 h.fr ((Fr.refl (oneb p.block) w).setCell p u (fun _=>rfl)) (fun g hg' hM=>hg (by rw[hg',hM]))
theorem Own.alloc (h:Own w e size v n xs) (o:Obj):Own (w.alloc o) e size v n xs:=h.fr ((Fr.refl nob w).alloc o) (fun _ _ x=>x)
theorem Own.drewN (h:Own w e size v n xs) (k:Nat):Own (w.drewN k) e size v n xs:=h
theorem Own.row {base:Nat} (h:w.ownsRow base e size v n xs) (hn:0<n∨v = .slice none 0 0):Own w e size v n xs:=by
 obtain⟨hl,⟨rfl,rfl⟩|⟨g,cap,cur,rfl,hb,hg,h1,h2,h3,h4⟩⟩:=h
 · exact⟨hl,none,0,rfl,.inl ⟨rfl,rfl⟩⟩
 · rcases hn with hn|hn
   · exact⟨hl,_,cap,rfl,.inr ⟨g,cur,rfl,by omega,hg,h1,h2,h3,h4⟩⟩
   · cases hn
end
structure SlTy (P:Program) (t e size bytes:Nat) (z:Value):Prop where
 ht:P.underlying t=some (.slice e)
 hi:∃i,P.info? e=some i∧i.zero=some z∧i.size=size∧i.bytes=bytes
 hz:z.cells.size=size
 pos:0<size
theorem SlTy.mk' {P:Program}{t e size bytes:Nat}{z:Value} (ht:P.underlying t=some (.slice e)) (h:(P.info? e).map (fun i=>(i.zero,i.size,i.bytes))=some (some z,size,bytes))
  (hz:z.cells.size=size) (pos:0<size):SlTy P t e size bytes z:=by
 obtain⟨i,hi,h0,h1,h2⟩:=info_parts h;exact⟨ht,⟨i,hi,h0,h1,h2⟩,hz,pos⟩
section
variable {P:Program}{w:World}{t ty e size bytes n m:Nat}{z v src:Value}{xs news:List Value}
theorem own_grown (W:World) (hl:(xs++news).length=(n+m)*size) (hz:z.cells.size=size) (cap:Nat) (hc:n+m≤cap) (hcm:cap≤maxLen) (h0:0<n+m):
   Own (W.alloc (.cells (xs.toArray++news.toArray++Builtin.zeroCells z.cells (cap - (n+m))) e)) e size (.slice (some ⟨W.heap.size,0,none⟩) (n+m) cap) (n+m) (xs++news):=by
 refine⟨hl,_,cap,rfl,.inr ⟨W.heap.size,_,rfl,by omega,heap_alloc_new W _,hc,hcm,?_,?_⟩⟩
 · rw[Array.size_append,Array.size_append,size_zeroCells,hz]
   simp only[List.size_toArray];rw[←List.length_append,hl,←Nat.add_mul];congr 1;omega
 · rw[Array.toList_append,Array.toList_append,←hl]
   exact List.take_left
theorem run_append (T:SlTy P t e size bytes z) (ho:Own w e size v n xs) (hs:Rd w size src m news) (h1:∀u∈news,u.oneCell'=true) (hb:(n+m)*bytes≤140737488355328) (hm:n+m≤maxLen):
   ∃v' w',(Builtin.append_ #[t,t] ty #[v,src]).run P w = .ok v' w'∧Own w' e size v' (n+m) (xs++news)∧Fr (obl (blk v)) w w'∧(blk v'=blk v∨blk v'=some w.heap.size):=by
 obtain⟨i,hi,hz0,hz1,hz2⟩:=T.hi;subst hz1;subst hz2;obtain⟨hsl,A,c,rfl,hmc,hcm,hcells⟩:=hs;have hlen:(xs++news).length=(n+m)*i.size:=by rw[List.length_append,ho.1,hsl,Nat.add_mul]
 rcases Nat.eq_zero_or_pos m with rfl|hmp
 · have hn:news=[]:=List.eq_nil_of_length_eq_zero (by simpa using hsl)
   subst hn;refine⟨v,w,?_,by simpa using ho,Fr.refl _ w,.inl rfl⟩;obtain⟨_,A',c',rfl,⟨rfl,rfl⟩|⟨g,cur,rfl,h0,hbk,hnc,_⟩⟩:=ho
   · cases A<;>cases A'<;>simp[Builtin.append_,run_underlying T.ht,sizeOf,typeInfo,hi,Builtin.lenOf,Builtin.firstCells,loadCells,loadCellsFrom,storeCells]
   · cases A<;>simp[Builtin.append_,run_underlying T.ht,sizeOf,typeInfo,hi,Builtin.lenOf,Builtin.firstCells,hnc,loadCells,loadCellsFrom,storeCells]
 · obtain⟨ad,rfl,hsp,hc⟩:=hcells hmp
   have hnews:∀j u,news[j]?=some u→w.cell? (ad.add j)=some u:=fun j u hu=>by rw[add_of ad hsp];exact hc j u hu
   have fin:∀(old:Nat) (row:Option Nat),
       Own (w.drew.alloc (.cells (xs.toArray++news.toArray++Builtin.zeroCells z.cells (grownCap w (n+m) old e - (n+m))) e)) e i.size
         (.slice (some ⟨w.heap.size,0,none⟩) (n+m) (grownCap w (n+m) old e)) (n+m) (xs++news) ∧
       Fr (obl row) w (w.drew.alloc (.cells (xs.toArray++news.toArray++Builtin.zeroCells z.cells (grownCap w (n+m) old e - (n+m))) e)) ∧
       blk (.slice (some ⟨w.heap.size,0,none⟩) (n+m) (grownCap w (n+m) old e))=some w.heap.size:=fun old row=>by
     have hge:=grownCap_ge w (n+m) old e;refine⟨own_grown w.drew hlen T.hz _ hge (grownCap_le_maxLen w (n+m) old e hm) (by omega),((Fr.refl _ w).drew.alloc _),?_⟩;simp only[blk];rw[if_neg (by omega)]
   have hm63:((n+m:Nat):Int)≤9223372036854775807:=by unfold maxLen at hm;omega
   obtain⟨hl,A',c',rfl,⟨rfl,rfl⟩|⟨g,cur,rfl,h0,hbk,hnc,hc2,hcur,ht⟩⟩:=ho
   · have hx:xs=[]:=List.eq_nil_of_length_eq_zero (by simpa using hl)
     subst hx;cases A' with
     | none=>
       have hr:=run_append_nil (P:=P) w t ty e i z T.ht hi hz0 ad m c news hsl hnews hmp (by omega) (by have hb':=hb;simp only[Nat.zero_add] at hb';omega);obtain⟨f1,f2,f3⟩:=fin 0 (blk (.slice none 0 0));simp only[Nat.zero_add,Array.empty_append,List.nil_append] at f1 f2 f3 hr ⊢;exact⟨_,_,hr,f1,f2,.inr f3⟩
     | some b=>
       have hr:=run_append_grow (P:=P) w t ty e i z T.ht hi hz0 b 0 0 [] (by simp) (by simp) ad m c news hsl hnews (by omega) (by omega) (growslice_fits (by omega) hb);obtain⟨f1,f2,f3⟩:=fin 0 (blk (.slice (some b) 0 0));exact⟨_,_,hr,f1,f2,.inr f3⟩
   · by_cases hroom:n+m≤c'
     · have hfit:n*i.size+news.length≤cur.size:=by rw[hsl,hcur,←Nat.add_mul];exact Nat.mul_le_mul_right _ hroom
       have hr:=run_append_room (P:=P) w t ty e i T.ht hi g n c' cur hbk ad m c news hsl hnews h1 hroom hfit;refine⟨_,_,hr,⟨hlen,_,c',rfl,.inr ⟨g,_,rfl,h0,setRow_heap w g cur _ e _ hbk,hroom,hc2,?_,?_⟩⟩,⟨rfl,rfl,rfl,by simp,fun k _ hk=>setRow_other w g k _ (fun e=>hk ?_)⟩,.inl ?_⟩
       · simp only[List.size_toArray,List.length_append,List.length_take,List.length_drop,Array.length_toList]
         omega
       · rw[ht,←hlen]
         exact List.take_left
       · simp only[obl,blk];rw[if_neg (by omega),e]
       · simp only[blk]
     · have holds:∀j u,xs[j]?=some u→w.cell? ((⟨g,0,none⟩:Addr).add j)=some u:=fun j u hu=>by
         rw[add_mk,hbk.cell,Nat.zero_add];rw[←ht,List.getElem?_take] at hu;split at hu
         · simpa using hu
         · cases hu
       have hr:=run_append_grow (P:=P) w t ty e i z T.ht hi hz0 ⟨g,0,none⟩ n c' xs hl holds ad m c news hsl hnews (by omega) (by omega) (growslice_fits (by omega) hb);obtain⟨f1,f2,f3⟩:=fin c' (blk (.slice (some ⟨g,0,none⟩) n c'));exact⟨_,_,hr,f1,f2,.inr f3⟩
theorem Rd.ofBlk {g:Nat}{cs:List Value} (h:Blk w g t cs.toArray) (hs:cs.length=n*size) (hm:n≤maxLen):Rd w size (.slice (some ⟨g,0,none⟩) n n) n cs:=
 ⟨hs,_,n,rfl,Nat.le_refl _,hm,fun _=>⟨_,rfl,rfl,fun j u hu=>by rw[h.cell,Nat.zero_add];simpa using hu⟩⟩
variable {o:Oper}{a:Act}{K:Act→World→Prop}{Q:Exit→Act→World→Prop}{ops:Array Oper}{rest:List Oper}{E:Prop}
theorem wp_append (s x:Operand) (ho:o.op = .call { callee:= .builtin .append,args:=#[s,x],argTypes:=#[t,t] }) (T:SlTy P t e size bytes z)
  (hs:a.eval s=v) (hx:a.eval x=src) (hown:Own w e size v n xs) (hrd:Rd w size src m news) (h1:∀u∈news,u.oneCell'=true) (hb:(n+m)*bytes≤140737488355328) (hm:n+m≤maxLen)
  (h:∀A' c' w',Own w' e size (.slice A' (n+m) c') (n+m) (xs++news)→Fr (obl (blk v)) w w'→(blk (.slice A' (n+m) c')=blk v∨blk (.slice A' (n+m) c')=some w.heap.size)→K (a.put o.dst (.slice A' (n+m) c')) w'):o.wp P a w K Q:=by
 obtain⟨v',w',hr,h2,h3,h4⟩:=run_append (P:=P) (ty:=o.type) T hown hrd h1 hb hm;unfold Oper.wp execOp;simp only[ho,resolve,invoke,builtin,Sem.run_bind,Sem.run_pure,Result.andThen_ok,List.map_toArray,List.map_cons,List.map_nil,hs,hx,hr];obtain⟨A',c',rfl,_,_⟩:=h2.cap;exact h A' c' w' h2 h3 h4
theorem wpList_append (hgd:o.guard=none) (s x:Operand) (ho:o.op = .call { callee:= .builtin .append,args:=#[s,x],argTypes:=#[t,t] }) (T:SlTy P t e size bytes z)
  (hs:a.eval s=v) (hx:a.eval x=src) (hown:Own w e size v n xs) (hrd:Rd w size src m news) (h1:∀u∈news,u.oneCell'=true) (hb:(n+m)*bytes≤140737488355328) (hm:n+m≤maxLen)
  (h:∀A' c' w',Own w' e size (.slice A' (n+m) c') (n+m) (xs++news)→Fr (obl (blk v)) w w'→(blk (.slice A' (n+m) c')=blk v∨blk (.slice A' (n+m) c')=some w.heap.size)→wpList P ops Q rest (a.put o.dst (.slice A' (n+m) c')) w'):wpList P ops Q (o :: rest) a w:=
 wpList_plain hgd fun _ hK=>wp_append s x ho T hs hx hown hrd h1 hb hm fun A' c' w' h2 h3 h4=>hK _ _ (h A' c' w' h2 h3 h4)
theorem step_append (hgd:o.guard=none) (s x:Operand) (ho:o.op = .call { callee:= .builtin .append,args:=#[s,x],argTypes:=#[t,t] }) (T:SlTy P t e size bytes z)
  (hs:a.eval s=v) (hx:a.eval x=src) (hown:Own w e size v n xs) (hrd:Rd w size src m news) (h1:∀u∈news,u.oneCell'=true) (hb:(n+m)*bytes≤140737488355328) (hm:n+m≤maxLen)
  (h:∀A' c' w',Own w' e size (.slice A' (n+m) c') (n+m) (xs++news)→Fr (obl (blk v)) w w'→(blk (.slice A' (n+m) c')=blk v∨blk (.slice A' (n+m) c')=some w.heap.size)→K (a.put o.dst (.slice A' (n+m) c')) w'):
  if Region.wanted o (yielded ops a.tmps)=true then Oper.wp P o a w K Q else E:=by
 have hw:Region.wanted o (yielded ops a.tmps)=true:=by simp[Region.wanted,hgd]
 rw[if_pos hw];exact wp_append s x ho T hs hx hown hrd h1 hb hm h
end
end Go.Proofs.YtlbjicjinnnboaaGreatDoor
/- Maps that a function makes itself, whose keys are known. No program is named here. -/
namespace Go.Proofs.YtlbjicjinnnboaaGreatDoor
open Go.RowKit Go.MapKept
section
variable {P:Program}{w:World}{mty kt et:TypeId}{d:TypeDesc}{r clock:Nat}{es:Array MapEntry}{key value z:Value}
def mapTo (w:World) (r:Nat) (es:Array MapEntry) (c:Nat):World:={ w with heap:=w.heap.setIfInBounds r (.map es c) }
theorem mapTo_heap (hb:w.heap[r]?=some (.map es clock)) (es':Array MapEntry) (c:Nat):(mapTo w r es' c).heap[r]?=some (.map es' c):=(heap_set hb).1
theorem mapTo_fr (w:World) (r:Nat) (es:Array MapEntry) (c:Nat):Fr (oneb r) w (mapTo w r es c):=
 ⟨rfl,rfl,rfl,by simp[mapTo],fun k hk hm=>by
  unfold mapTo;simp only[Array.getElem?_setIfInBounds];rw[if_neg (fun e=>hm e.symm)]⟩
theorem run_insert_new (hm:P.underlying mty=some (.map kt et)) (hd:P.underlying kt=some d) (hb:w.heap[r]?=some (.map es clock)) (hk:IsKey d key) (hf:Instr.findNow d key es.toList 0=some none):
  (Instr.mapUpdate mty (.map (some r)) key value).run P w = .ok () (mapTo w r (es.push ⟨key,value,clock⟩) (clock+1)):=by
 simp[Instr.mapUpdate,run_underlying hm,Go.MapKept.run_getObj_map hb,run_checkKey hd hk,run_findKey hd hf,Go.MapKept.run_setObj_map _ hb,Result.andThen,mapTo]
theorem run_lookup_hit (hm:P.underlying mty=some (.map kt et)) (hd:P.underlying kt=some d) (hb:w.heap[r]?=some (.map es clock)) (hk:IsKey d key){j:Nat} (hf:Instr.findNow d key es.toList 0=some (some (j,value))):
  (Instr.lookup mty (.map (some r)) key false).run P w = .ok value w:=by
 simp[Instr.lookup,run_underlying hm,Go.MapKept.run_getObj_map hb,run_checkKey hd hk,run_findKey hd hf,Result.andThen]
end
end Go.Proofs.YtlbjicjinnnboaaGreatDoor
/- The lexer: what names no program. Printed by wip/tools/mkpure.py out of this claim's own texts. -/
namespace Go.Proofs.YtlbjicjinnnboaaGreatDoor
open Go.RowKit
def digitI (c:Int):Bool:=decide (48≤c) && decide (c≤57)
def letterI (c:Int):Bool:=(decide (97≤c) && decide (c≤122)) || (decide (65≤c) && decide (c≤90))
def withinI (c:Int):Bool:=letterI c || digitI c || (c==95)
def plainI (c:Int):Bool:=decide (32≤c) && decide (c≤126) && (c != 34)
def lineI (c:Int):Bool:=c != 10
def runN (p:Int→Bool) (l:List UInt8):Nat:=(l.takeWhile fun b=>p b.toNat).length
def byteAt (l:List UInt8) (k:Nat):Int:=((l.getD k 0).toNat:Int)
theorem runN_le (p:Int→Bool) (l:List UInt8):runN p l≤l.length:=by
 unfold runN;induction l with
 | nil=>simp
 | cons a l ih=>rw[List.takeWhile_cons];split<;>simp_all
theorem runN_step (p:Int→Bool) (l:List UInt8) (k:Nat) (hk:k<l.length):
  runN p (l.drop k)=if p (byteAt l k) then 1+runN p (l.drop (k+1)) else 0:=by
 rw[List.drop_eq_getElem_cons hk];have:byteAt l k=((l[k]).toNat:Int):=by simp[byteAt,List.getD,hk]
 rw[this];unfold runN;rw[List.takeWhile_cons];split<;>simp_all<;>omega
theorem byteAt_eq (s:ByteArray) (k:Nat) (h:k<s.size):byteAt s.data.toList k=((s[k]'h).toNat:Int):=by
 have h':k<s.data.toList.length:=by simpa using h
 unfold byteAt;rw[List.getD,List.getElem?_eq_getElem h'];rfl
inductive One where
 | ok (kind off len n:Nat)
 | err (e:Nat)
def tokV (k:Nat) (t:ByteArray) (p:Nat):Value:= .agg #[.int .i64 k,.string t,.int .i64 p]
def oneV (s:ByteArray):One→Value
 | .ok k o m n=> .tuple #[tokV k (s.extract o (m+o)) 0,.int .i64 n,.int .i64 0]
 | .err e=> .tuple #[tokV 0 ByteArray.empty 0,.int .i64 0,.int .i64 e]
def digitsVal (a:Nat) (l:List UInt8):Nat:=l.foldl (fun a c=>a*10+(c.toNat - 48)) a
def allDigits (l:List UInt8):Prop:=∀c∈l,48≤c.toNat∧c.toNat≤57
def numOk (d:List UInt8):Bool:=decide (d.length≤19) && decide (digitsVal 0 d≤9223372036854775807)
def numberM (l:List UInt8):One:=if numOk (l.take (runN digitI l)) then .ok 1 0 (runN digitI l) (runN digitI l) else .err 12
theorem digitsVal_ge (a:Nat) (l:List UInt8):a≤digitsVal a l:=by
 induction l generalizing a with
 | nil=>exact Nat.le_refl _
 | cons c l ih=>
  show a≤digitsVal (a*10+(c.toNat - 48)) l
  have:=ih (a*10+(c.toNat - 48));omega
theorem digitsVal_cons (a:Nat) (c:UInt8) (l:List UInt8):digitsVal a (c :: l)=digitsVal (a*10+(c.toNat - 48)) l:=by unfold digitsVal;rw[List.foldl_cons]
theorem take_run (p:Int→Bool) (l:List UInt8):l.take (runN p l)=l.takeWhile fun b=>p b.toNat:=by
 unfold runN;induction l with
 | nil=>rfl
 | cons a l ih=>rw[List.takeWhile_cons];split<;>simp_all
theorem run_digits (l:List UInt8):allDigits (l.take (runN digitI l)):=by
 rw[take_run];intro c hc;induction l with
 | nil=>simp at hc
 | cons a l ih=>
  rw[List.takeWhile_cons] at hc;split at hc
  · rename_i hd
    rcases List.mem_cons.1 hc with rfl|hc
    · simp[digitI] at hd;omega
    · exact ih hc
  · simp at hc
theorem ext_take (s:ByteArray) (n:Nat):(s.extract 0 n).data.toList=s.data.toList.take n:=by
 rw[Lib.extract_data];simp
theorem Fr.box3 {w w2:World}{o:Obj} (f:Fr nob (w.alloc o) w2) (x y z:Value):
   Fr nob w (((w2.setCell ⟨w.heap.size,0,none⟩ x).setCell ⟨w.heap.size,1,none⟩ y).setCell ⟨w.heap.size,2,none⟩ z):=
 ((((Fr.refl nob w).alloc o).tr f).setCell _ _ (fun h=>absurd h (Nat.lt_irrefl _)) |>.setCell _ _ (fun h=>absurd h (Nat.lt_irrefl _))).setCell _ _ (fun h=>absurd h (Nat.lt_irrefl _))
def wordsS:List ByteArray:=[⟨#[102,110]⟩,⟨#[108,101,116]⟩,⟨#[105,102]⟩,⟨#[101,108,115,101]⟩,⟨#[119,104,105,108,101]⟩,⟨#[114,101,116,117,114,110]⟩,⟨#[112,114,105,110,116]⟩,⟨#[105,110,112,117,116]⟩,⟨#[110,101,119]⟩,⟨#[108,101,110]⟩,⟨#[116,114,117,101]⟩,⟨#[102,97,108,115,101]⟩,⟨#[105,110,116]⟩,⟨#[98,111,111,108]⟩,⟨#[116,101,120,116]⟩,⟨#[108,105,115,116]⟩]
def twosS:List ByteArray:=[⟨#[124,124]⟩,⟨#[38,38]⟩,⟨#[60,61]⟩,⟨#[61,61]⟩,⟨#[33,61]⟩]
def onesS:ByteArray:=⟨#[40,41,123,125,91,93,44,59,61,60,43,45,42,47,37,33]⟩
def isIn (ss:List ByteArray) (l:List UInt8):Bool:=decide (l∈ss.map fun b=>b.data.toList)
def wordB (l:List UInt8):Bool:=isIn wordsS l
def twoB (l:List UInt8):Bool:=isIn twosS l
theorem mem_bytes (ss:List ByteArray) (x:ByteArray):isIn ss x.data.toList=Lib.containsS ss x:=by
 unfold isIn;have h:x.data.toList∈(ss.map fun b=>b.data.toList)↔x∈ss:=by
   rw[List.mem_map];constructor
   · rintro⟨a,ha,he⟩
     have:a=x:=by
      obtain⟨⟨a⟩⟩:=a;obtain⟨⟨x⟩⟩:=x;simp at he;subst he;rfl
     exact this ▸ ha
   · intro h;exact⟨x,h,rfl⟩
 by_cases hx:x∈ss
 · rw[decide_eq_true (h.2 hx),(Lib.containsS_iff ss x).2 hx]
 · rw[decide_eq_false (fun e=>hx (h.1 e))]
   cases hc:Lib.containsS ss x
   · rfl
   · exact absurd ((Lib.containsS_iff ss x).1 hc) hx
def nameM (l:List UInt8):One:=if wordB (l.take (runN withinI l)) then .ok 4 0 (runN withinI l) (runN withinI l) else if 8<runN withinI l then .err 13 else .ok 3 0 (runN withinI l) (runN withinI l)
def textM (l:List UInt8):One:=
 if l.length≤runN plainI (l.drop 1)+1∨byteAt l (runN plainI (l.drop 1)+1)≠34 then .err 11
 else if 12<runN plainI (l.drop 1) then .err 4 else .ok 2 1 (runN plainI (l.drop 1)) (runN plainI (l.drop 1)+2)
def oneB (c:Int):Bool:=decide (0≤Lib.indexByte onesS.data.toList c.toNat.toUInt8)
def signM (l:List UInt8):One:=if 1<l.length∧twoB (l.take 2)=true then .ok 5 0 2 2 else if oneB (byteAt l 0) then .ok 5 0 1 1 else .err 10
theorem oneV_open (s:ByteArray) (o:One):∃(k:Nat) (t:ByteArray) (n er:Nat),oneV s o = .tuple #[.agg #[.int .i64 k,.string t,.int .i64 0],.int .i64 n,.int .i64 er]:=by
 cases o with
 | ok k o m n=>exact⟨k,_,n,0,rfl⟩
 | err e=>exact⟨0,_,0,e,rfl⟩
def firstM (l:List UInt8):One:=if digitI (byteAt l 0) then numberM l else if letterI (byteAt l 0) then nameM l else if byteAt l 0==34 then textM l else signM l
structure Tok where
 kind:Nat
 text:List UInt8
 place:Nat
 deriving DecidableEq
inductive LexR where
 | good (ts:List Tok)
 | bad (p e:Nat)
def LexR.pre (K:List Tok):LexR→LexR
 | .good ts=> .good (K++ts)
 | .bad p e=> .bad p e
def blankI (c:Int):Bool:=decide (0≤Lib.indexByte [32,9,13,10] c.toNat.toUInt8)
def remarkB (l:List UInt8):Bool:=Lib.hasPrefix l [47,47]
def lexFrom (l:List UInt8) (p:Nat):LexR:=
 match l with
 | []=> .good [⟨0,[],p⟩]
 | c :: r=>
  if blankI (byteAt (c :: r) 0) then lexFrom r (p+1)
  else if remarkB (c :: r) then lexFrom (r.drop (runN lineI (c :: r) - 1)) (p+runN lineI (c :: r))
  else match firstM (c :: r) with
   | .err e=> .bad p e
   | .ok k o m n=>(lexFrom (r.drop (n - 1)) (p+n)).pre [⟨k,((c :: r).drop o).take m,p⟩]
termination_by l.length
decreasing_by
 all_goals simp
 all_goals omega
def lexM (l:List UInt8):LexR:=if 600<l.length then .bad 0 4 else lexFrom l 0
theorem pre_pre (K J:List Tok) (r:LexR):(r.pre J).pre K=r.pre (K++J):=by
 cases r<;>simp[LexR.pre]
theorem pre_nil (r:LexR):r.pre []=r:=by cases r<;>simp[LexR.pre]
theorem runN_pos (q:Int→Bool) (l:List UInt8) (h:0<l.length) (hq:q (byteAt l 0)=true):1≤runN q l:=by
 have:=runN_step q l 0 h;rw[List.drop_zero,if_pos hq] at this;omega
theorem firstM_ok {l:List UInt8}{k o m n:Nat} (h0:0<l.length) (h:firstM l = .ok k o m n):1≤n∧n≤l.length∧o+m≤l.length:=by
 unfold firstM at h;split at h
 · rename_i hd
   unfold numberM at h;split at h
   · injection h with h1 h2 h3 h4
     have:=runN_pos digitI l h0 hd;have:=runN_le digitI l;omega
   · cases h
 · split at h
   · rename_i hd
     have hw:withinI (byteAt l 0)=true:=by unfold withinI;rw[hd];rfl
     have:=runN_pos withinI l h0 hw;have:=runN_le withinI l;unfold nameM at h;split at h
     · injection h with h1 h2 h3 h4;omega
     · split at h
       · cases h
       · injection h with h1 h2 h3 h4;omega
   · split at h
     · unfold textM at h
       split at h
       · cases h
       · rename_i hn
         split at h
         · cases h
         · injection h with h1 h2 h3 h4;omega
     · unfold signM at h
       split at h
       · injection h with h1 h2 h3 h4;omega
       · split at h
         · injection h with h1 h2 h3 h4;omega
         · cases h
section
variable {l:List UInt8}{p:Nat}
theorem lex_nil:lexFrom [] p = .good [⟨0,[],p⟩]:=by rw[lexFrom]
theorem lex_blank (h0:0<l.length) (h:blankI (byteAt l 0)=true):lexFrom l p=lexFrom (l.drop 1) (p+1):=by
 cases l with
 | nil=>simp at h0
 | cons c r=>rw[lexFrom,if_pos h];rfl
theorem lex_remark (h0:0<l.length) (h:blankI (byteAt l 0)=false) (h2:remarkB l=true):lexFrom l p=lexFrom (l.drop (runN lineI l)) (p+runN lineI l):=by
 cases l with
 | nil=>simp at h0
 | cons c r=>
  have hl:lineI (byteAt (c :: r) 0)=true:=by
   unfold remarkB Lib.hasPrefix at h2;simp at h2
   simp[lineI,byteAt,←h2.1]
  have hp:=runN_pos lineI (c :: r) (by simp) hl;rw[lexFrom,if_neg (by rw[h];simp),if_pos h2];conv=>rhs;rw[show runN lineI (c :: r)=(runN lineI (c :: r) - 1)+1 by omega]
  rw[List.drop_succ_cons];congr 1
  omega
theorem lex_err (h0:0<l.length) (h:blankI (byteAt l 0)=false) (h2:remarkB l=false){e:Nat} (h3:firstM l = .err e):lexFrom l p = .bad p e:=by
 cases l with
 | nil=>simp at h0
 | cons c r=>rw[lexFrom,if_neg (by rw[h];simp),if_neg (by rw[h2];simp),h3]
theorem lex_ok (h0:0<l.length) (h:blankI (byteAt l 0)=false) (h2:remarkB l=false){k o m n:Nat} (h3:firstM l = .ok k o m n):
  lexFrom l p=(lexFrom (l.drop n) (p+n)).pre [⟨k,(l.drop o).take m,p⟩]:=by
 have hn:=firstM_ok h0 h3;cases l with
 | nil=>simp at h0
 | cons c r=>
  rw[lexFrom,if_neg (by rw[h];simp),if_neg (by rw[h2];simp),h3];simp only;congr 2
  conv=>rhs;rw[show n=(n - 1)+1 by omega]
  rw[List.drop_succ_cons]
end
def bs (l:List UInt8):ByteArray:=⟨l.toArray⟩
theorem bs_data (s:ByteArray):bs s.data.toList=s:=rfl
def tokCells (K:List Tok):List Value:=K.flatMap fun t=>[.int .i64 t.kind,.string (bs t.text),.int .i64 t.place]
theorem Blk.new2 (w:World) (o:Obj) (t:TypeId) (cs:Array Value):Blk ((w.alloc o).alloc (.cells cs t)) (w.heap.size+1) t cs:=by
 have:=Blk.new (w.alloc o) t cs;rwa [World.size_alloc] at this
theorem firstM_err {l:List UInt8}{e:Nat} (h:firstM l = .err e):1≤e:=by
 unfold firstM numberM nameM textM signM at h;repeat' split at h
 all_goals first|(cases h;done)|(injection h with h;omega)
theorem tokCells_get {K:List Tok}:∀{i:Nat}{t:Tok},K[i]?=some t→(tokCells K)[i*3]?=some (.int .i64 t.kind)∧(tokCells K)[i*3+1]?=some (.string (bs t.text))∧(tokCells K)[i*3+2]?=some (.int .i64 t.place):=by
 induction K with
 | nil=>intro i t h;simp at h
 | cons a K ih=>
  intro i t h;cases i with
  | zero=>simp at h;subst h;exact⟨rfl,rfl,rfl⟩
  | succ i=>
   simp at h
   have h3:=ih h;have e:tokCells (a :: K)=[.int .i64 a.kind,.string (bs a.text),.int .i64 a.place]++tokCells K:=rfl;rw[e,show (i+1)*3=i*3+3 by omega];refine⟨?_,?_,?_⟩
   · rw[List.getElem?_append_right (by simp)];exact h3.1
   · rw[List.getElem?_append_right (by simp)];exact h3.2.1
   · rw[List.getElem?_append_right (by simp)];exact h3.2.2
def lineN (l:List UInt8) (a:Int):Nat:=1+(l.take a.toNat).count 10
theorem line_le (l:List UInt8) (a:Int):1≤lineN l a∧lineN l a≤1+l.length:=by
 unfold lineN;have h1:=List.count_le_length (a:=(10:UInt8)) (l:=l.take a.toNat);have h2:(l.take a.toNat).length≤l.length:=by rw[List.length_take];omega
 omega
theorem take_clamp (l:List UInt8) (a:Int):l.take (min (max a 0) (l.length:Int)).toNat=l.take a.toNat:=by
 by_cases h1:a≤0
 · rw[show (min (max a 0) (l.length:Int)).toNat=0 by omega,show a.toNat=0 by omega]
 · by_cases h2:a≤(l.length:Int)
   · rw[show (min (max a 0) (l.length:Int)).toNat=a.toNat by omega]
   · rw[show (min (max a 0) (l.length:Int)).toNat=l.length by omega,List.take_length,List.take_of_length_le (by omega)]
theorem lex_step {Mo:List UInt8→Nat→Prop} (l:List UInt8) (p:Nat)
  (hnil:l=[]→Mo [] p)
  (hblank:0<l.length→blankI (byteAt l 0)=true→Mo l p)
  (hremark:0<l.length→blankI (byteAt l 0)=false→remarkB l=true→1≤runN lineI l→Mo l p)
  (herr:∀e,0<l.length→blankI (byteAt l 0)=false→remarkB l=false→firstM l = .err e→Mo l p)
  (hok:∀k o m n,0<l.length→blankI (byteAt l 0)=false→remarkB l=false→firstM l = .ok k o m n→Mo l p):Mo l p:=by
 cases l with
 | nil=>exact hnil rfl
 | cons c r=>
  by_cases hb:blankI (byteAt (c :: r) 0)=true
  · exact hblank (by simp) hb
  · have hb':blankI (byteAt (c :: r) 0)=false:=by simpa using hb
    by_cases hr:remarkB (c :: r)=true
    · refine hremark (by simp) hb' hr ?_
      refine runN_pos lineI _ (by simp) ?_;unfold remarkB Lib.hasPrefix at hr;simp at hr
      simp[lineI,byteAt,←hr.1]
    · have hr':remarkB (c :: r)=false:=by simpa using hr
      cases hf:firstM (c :: r) with
      | err e=>exact herr e (by simp) hb' hr' hf
      | ok k o m n=>exact hok k o m n (by simp) hb' hr' hf
def Tok.up (d:Nat) (t:Tok):Tok:=⟨t.kind,t.text,t.place+d⟩
def LexR.up (d:Nat):LexR→LexR
 | .good ts=> .good (ts.map (Tok.up d))
 | .bad p e=> .bad (p+d) e
theorem lex_bad_pos:∀(n:Nat) (l:List UInt8) (p:Nat),l.length≤n→∀i e,lexFrom l p = .bad i e→1≤e:=by
 intro n;induction n with
 | zero=>
  intro l p h i e hb;have:l=[]:=List.eq_nil_of_length_eq_zero (by omega);subst this;rw[lex_nil] at hb;cases hb
 | succ n ih=>
  intro l p h i e;refine lex_step (Mo:=fun l p=>l.length≤n+1→lexFrom l p = .bad i e→1≤e) l p ?_ ?_ ?_ ?_ ?_ h
  · intro _ _ hl;rw[lex_nil] at hl;cases hl
  · intro h0 hb h hl
    rw[lex_blank h0 hb] at hl;exact ih _ _ (by rw[List.length_drop];omega) _ _ hl
  · intro h0 hb hr h1 h hl
    rw[lex_remark h0 hb hr] at hl;exact ih _ _ (by rw[List.length_drop];omega) _ _ hl
  · intro e' h0 hb hr hf h hl
    rw[lex_err h0 hb hr hf] at hl;injection hl with h1 h2;subst h2;exact firstM_err hf
  · intro k o m n' h0 hb hr hf h hl
    have hn1:=(firstM_ok h0 hf).1;rw[lex_ok h0 hb hr hf] at hl;cases hx:lexFrom (l.drop n') (p+n') with
    | good K=>rw[hx] at hl;cases hl
    | bad i' e'=>
     rw[hx] at hl;injection hl with e1 e2;subst e2;exact ih _ _ (by rw[List.length_drop];omega) _ _ hx
theorem lexM_bad {l:List UInt8}{i e:Nat} (h:lexM l = .bad i e):1≤e:=by
 unfold lexM at h;split at h
 · injection h with _ h;omega
 · exact lex_bad_pos _ _ _ (Nat.le_refl _) _ _ h
theorem TyTok:SlTy Tryz.prog 75 115 3 32 (.agg #[.int .i64 0,.string ⟨#[]⟩,.int .i64 0]):=SlTy.mk' (by kernel_rfl) (by kernel_rfl) rfl (by decide)
structure Toks (base:Nat) (w:World) (v:Value) (K:List Tok):Prop where
 own:Own w 115 3 v K.length (tokCells K)
 new:∀g,blk v=some g→base≤g
theorem Toks.fr {M:Nat→Prop}{base:Nat}{w w':World}{v:Value}{K:List Tok} (h:Toks base w v K) (f:Fr M w w') (hM:∀k,M k→k<base):Toks base w' v K:=
 ⟨h.own.fr f (fun g hg hm=>by have:=h.new g hg;have:=hM g hm;omega),h.new⟩
theorem Toks.no {base:Nat}{w w':World}{v:Value}{K:List Tok} (h:Toks base w v K) (f:Fr nob w w'):Toks base w' v K:=h.fr f (fun _ x=>x.elim)
def LexAt (base:Nat) (w:World) (e:Ending):LexR→Prop
 | .good ts=>∃v,e = .returned (.tuple #[v,.int .i64 0,.int .i64 0])∧Toks base w v ts
 | .bad p er=>e = .returned (.tuple #[.slice none 0 0,.int .i64 p,.int .i64 er])
theorem Toks.some {base:Nat}{w:World}{A:Option Addr}{n c:Nat}{K:List Tok} (h:Toks base w (.slice A n c) K) (hK:0<K.length):
   ∃g,A=some ⟨g,0,none⟩∧base≤g∧g<w.heap.size∧∀(i:Nat) (t:Tok),K[i]?=some t→w.cell? ⟨g,i*3,none⟩=some (.int .i64 t.kind)∧w.cell? ⟨g,i*3+1,none⟩=some (.string (bs t.text))∧w.cell? ⟨g,i*3+2,none⟩=some (.int .i64 t.place):=by
 obtain⟨hl,A',c',hv,⟨h1,h2⟩|⟨g,cur,rfl,h0,hb,hnc,hcm,hsz,ht⟩⟩:=h.own
 · omega
 · injection hv with hA hn hc
   subst hA;subst hn;subst hc;refine⟨g,rfl,h.new g (by simp[blk];omega),hb.lt,fun i t hi=>?_⟩;obtain⟨a1,a2,a3⟩:=tokCells_get hi;have hi':=(List.getElem?_eq_some_iff.1 hi).1;rw[←ht] at a1 a2 a3;rw[List.getElem?_take] at a1 a2 a3;refine⟨?_,?_,?_⟩
   · rw[hb.cell];split at a1
     · simpa using a1
     · cases a1
   · rw[hb.cell];split at a2
     · simpa using a2
     · cases a2
   · rw[hb.cell];split at a3
     · simpa using a3
     · cases a3
theorem Toks.slice {base:Nat}{w:World}{v:Value}{K:List Tok} (h:Toks base w v K):∃A c,v = .slice A K.length c∧K.length≤c∧c≤maxLen:=h.own.cap
end Go.Proofs.YtlbjicjinnnboaaGreatDoor
/- A set of names in memory: a map of names to true, of the walk's own. -/
namespace Go.Proofs.YtlbjicjinnnboaaGreatDoor
open Go.RowKit Go.MapKept
theorem u_nms:Tryz.prog.underlying 130=some (.map 9 4):=by kernel_rfl
theorem u_nmk:Tryz.prog.underlying 9=some .string:=by kernel_rfl
def nmEs (ks:List (List UInt8×Nat)):List MapEntry:=ks.map fun k=>⟨.string (bs k.1),.bool true,k.2⟩
theorem bs_inj {a b:List UInt8}:(bs a==bs b)=decide (a=b):=by
 have e:∀x y:ByteArray,(x==y)=decide (x=y):=fun x y=>by
   rw[Bool.eq_iff_iff,bytes_beq,decide_eq_true_eq]
 rw[e];by_cases h:a=b
 · subst h;simp
 · rw[decide_eq_false h]
   apply decide_eq_false
   intro e;apply h
   have:=congrArg (fun x:ByteArray=>x.data.toList) e;simpa[bs] using this
theorem nm_find (nm:List UInt8):∀(ks:List (List UInt8×Nat)) (i:Nat),(nm∉ks.map (·.1)∧Instr.findNow .string (.string (bs nm)) (nmEs ks) i=some none)∨(∃j c,nm∈ks.map (·.1)∧ks[j]?=some (nm,c)∧Instr.findNow .string (.string (bs nm)) (nmEs ks) i=some (some (i+j,.bool true)))
 | [],i=> .inl ⟨by simp,rfl⟩
 | (a,c) :: ks,i=>by
   have e:Instr.findNow .string (.string (bs nm)) (nmEs ((a,c) :: ks)) i=if nm=a then some (some (i,.bool true)) else Instr.findNow .string (.string (bs nm)) (nmEs ks) (i+1):=by
     show (match (some (bs nm==bs a):Option Bool) with|some true=>_|some false=>_|none=>_)=_
     rw[bs_inj];by_cases h:nm=a
     · rw[decide_eq_true h,if_pos h]
     · rw[decide_eq_false h,if_neg h];rfl
   rw[e];by_cases h:nm=a
   · subst h
     exact .inr ⟨0,c,by simp,rfl,by rw[if_pos rfl];rfl⟩
   · rw[if_neg h]
     rcases nm_find nm ks (i+1) with ⟨h1,h2⟩|⟨j,c',h1,h2,h3⟩
     · exact .inl ⟨by simp only[List.map_cons,List.mem_cons,not_or];exact⟨h,h1⟩,h2⟩
     · exact .inr ⟨j+1,c',by simp only[List.map_cons,List.mem_cons];exact .inr h1,by simpa using h2,by rw[h3,show i+1+j=i+(j+1) by omega]⟩
def NmAt (w:World) (h:Nat) (seen:List (List UInt8)):Prop:=∃es clock ks,w.heap[h]?=some (.map es clock)∧es.toList=nmEs ks∧∀nm,nm∈ks.map (·.1)↔nm∈seen
theorem NmAt.new (w:World):NmAt (w.alloc (.map #[] 0)) w.heap.size []:=⟨#[],0,[],(heap_alloc w _).1,rfl,fun nm=>Iff.rfl⟩
theorem NmAt.lt {w:World}{h:Nat}{seen:List (List UInt8)} (hn:NmAt w h seen):h<w.heap.size:=by
 obtain⟨es,c,ks,hm,_⟩:=hn;exact (Array.getElem?_eq_some_iff.1 hm).1
theorem NmAt.fr {w w':World}{h:Nat}{seen:List (List UInt8)}{M:Nat→Prop} (hn:NmAt w h seen) (f:Fr M w w') (hM:¬M h):NmAt w' h seen:=by
 obtain⟨es,c,ks,hm,h1,h2⟩:=hn;exact⟨es,c,ks,(f.block h (Array.getElem?_eq_some_iff.1 hm).1 hM).trans hm,h1,h2⟩
theorem run_lookup_miss {P:Program}{w:World}{mty kt et:TypeId}{d:TypeDesc}{r clock:Nat}{es:Array MapEntry}{key z:Value} (hm:P.underlying mty=some (.map kt et)) (hd:P.underlying kt=some d) (hb:w.heap[r]?=some (.map es clock)) (hk:IsKey d key) (hf:Instr.findNow d key es.toList 0=some none) (hz:(zeroValue et).run P w = .ok z w):
  (Instr.lookup mty (.map (some r)) key false).run P w = .ok z w:=by
 simp[Instr.lookup,run_underlying hm,Go.MapKept.run_getObj_map hb,run_checkKey hd hk,run_findKey hd hf,Result.andThen,hz]
theorem zero_bool (w:World):(zeroValue 4).run Tryz.prog w = .ok (.bool false) w:=by kernel_rfl
theorem NmAt.look {w:World}{h:Nat}{seen:List (List UInt8)} (hn:NmAt w h seen) (nm:List UInt8):(Instr.lookup 130 (.map (some h)) (.string (bs nm)) false).run Tryz.prog w = .ok (.bool (decide (nm∈seen))) w:=by
 obtain⟨es,c,ks,hm,h1,h2⟩:=hn;rcases nm_find nm ks 0 with ⟨h3,h4⟩|⟨j,c',h3,_,h4⟩
 · rw[decide_eq_false (fun x=>h3 ((h2 nm).2 x))]
   exact run_lookup_miss u_nms u_nmk hm (key:= .string (bs nm)) trivial (by rw[h1];exact h4) (zero_bool w)
 · rw[decide_eq_true ((h2 nm).1 h3)]
   exact run_lookup_hit u_nms u_nmk hm (key:= .string (bs nm)) trivial (by rw[h1];exact h4)
theorem run_update_hit {P:Program}{w:World}{mty kt et:TypeId}{d:TypeDesc}{r clock j:Nat}{es:Array MapEntry}{key value old:Value}{e:MapEntry} (hm:P.underlying mty=some (.map kt et)) (hd:P.underlying kt=some d) (hb:w.heap[r]?=some (.map es clock)) (hk:IsKey d key) (hf:Instr.findNow d key es.toList 0=some (some (j,old))) (he:es[j]?=some e) (hek:e.key=key):
  (Instr.mapUpdate mty (.map (some r)) key value).run P w = .ok () (mapTo w r (es.modify j fun e=>{ e with key,val:=value }) clock):=by
 simp[Instr.mapUpdate,run_underlying hm,Go.MapKept.run_getObj_map hb,run_checkKey hd hk,run_findKey hd hf,he,hek,run_keyThatStays hk,Go.MapKept.run_setObj_map _ hb,Result.andThen,mapTo]
theorem NmAt.upd {w:World}{h:Nat}{seen:List (List UInt8)} (hn:NmAt w h seen) (nm:List UInt8):∃w',(Instr.mapUpdate 130 (.map (some h)) (.string (bs nm)) (.bool true)).run Tryz.prog w = .ok () w'∧NmAt w' h (seen++[nm])∧Fr (oneb h) w w':=by
 obtain⟨es,c,ks,hm,h1,h2⟩:=hn;rcases nm_find nm ks 0 with ⟨h3,h4⟩|⟨j,c',h3,h5,h4⟩
 · refine⟨_,run_insert_new u_nms u_nmk hm (key:= .string (bs nm)) trivial (by rw[h1];exact h4),⟨_,_,ks++[(nm,c)],mapTo_heap hm _ _,by rw[Array.toList_push,h1];simp[nmEs],fun y=>?_⟩,mapTo_fr _ _ _ _⟩
   rw[List.map_append,List.mem_append,List.mem_append,h2 y];simp
 · rw[Nat.zero_add] at h4
   have he:es[j]?=some ⟨.string (bs nm),.bool true,c'⟩:=by rw[←Array.getElem?_toList,h1];unfold nmEs;rw[List.getElem?_map,h5];rfl
   refine⟨_,run_update_hit u_nms u_nmk hm (key:= .string (bs nm)) trivial (by rw[h1];exact h4) he rfl,⟨_,_,ks,mapTo_heap hm _ _,?_,fun y=>?_⟩,mapTo_fr _ _ _ _⟩
   · rw[Array.toList_modify,h1]
     apply List.ext_getElem?
     intro i;rw[List.getElem?_modify];by_cases hi:j=i
     · subst hi
       have:(nmEs ks)[j]?=some ⟨.string (bs nm),.bool true,c'⟩:=by unfold nmEs;rw[List.getElem?_map,h5];rfl
       rw[this];simp
     · simp[hi]
   · rw[h2 y,List.mem_append]
     constructor
     · exact fun x=> .inl x
     · rintro (x|x)
       · exact x
       · rw[List.mem_singleton.1 x];exact (h2 nm).1 h3
end Go.Proofs.YtlbjicjinnnboaaGreatDoor
/- The reference's small functions. -/
namespace Go.Proofs.YtlbjicjinnnboaaGreatDoor
open Go.RowKit
section
variable {l:List UInt8}
end
end Go.Proofs.YtlbjicjinnnboaaGreatDoor
