/- MvR: laws and walks for CheckVisible. -/
import Derived.Test.YtlbjicjinnnboaaGreatDoorMvH
import Derived.Test.YtlbjicjinnnboaaGreatDoorMvQ
set_option maxHeartbeats 8000000
set_option maxRecDepth 100000
set_option linter.unusedVariables false
set_option linter.unusedSimpArgs false
namespace Go.Proofs.YtlbjicjinnnboaaGreatDoor
open Go.RowKit Go.Proofs.Tryz
open Pw
variable {x k:Nat}{p:gB}
section
variable {w0 w w1 w':World}{v u:Value}{n m:Nat}{l k:List aSf}
end
structure PgV where
 nb:Nat
 nc:Nat
 fb:Nat
 fc:Nat
 tb:Nat
 tc:Nat
 sb:Nat
 sc:Nat
 ua:Option Addr
 un:Nat
 uc:Nat
 za:Option Addr
 zn:Nat
 zc:Nat
 lvs:List Value
 pvs:List Value
 p:gB
def PgV.val (g:PgV):Value:= .agg #[(g.nb,g.p.ns.length,g.nc),(g.fb,g.p.fs.length,g.fc),(g.tb,g.p.ns.length,g.tc),(g.sb,g.p.ns.length,g.sc),.slice g.ua g.un g.uc,.slice g.za g.zn g.zc]
structure aGh (g:PgV) (w:World):Prop where
 is:nC g.p
 tree:cZ 0 w (g.nb,g.p.ns.length,g.nc) (g.fb,g.p.fs.length,g.fc) g.lvs g.pvs g.p.ns g.p.fs
 types:Own w 3 1 (g.tb,g.p.ns.length,g.tc) g.p.ns.length (ints g.p.types)
 slots:Own w 3 1 (g.sb,g.p.ns.length,g.sc) g.p.ns.length (eH g.p.slots)
section
variable {g:PgV}{w w':World}
theorem aGh.no (h:aGh g w) (f:Fr nob w w'):aGh g w':=⟨h.is,h.tree.no f,h.types.fr f (λ_ _ x=>x),h.slots.fr f (λ_ _ x=>x)⟩
theorem aGh.len (h:aGh g w):(g.p.ns.length:Int)<=300:=by have:=h.is.tree.ok.few;omega
theorem aGh.slot (h:aGh g w) (hx:x<g.p.ns.length):w.cell? (g.sb,x)=(aOx g.p x):=by
 obtain⟨b,e,hc⟩:=h.slots.some (by omega);injection e with e;injection e with e;subst e;have hl:x<g.p.slots.length:=by rw[h.is.ls];exact hx
 have:=hc x (aOx g.p x) (by unfold eH aOx;rw[List.getElem?_map,List.getD_eq_getElem?_getD,gE hl];rfl);simpa using this
theorem aGh.type (h:aGh g w) (hx:x<g.p.ns.length):w.cell? (g.tb,x)=(aOs g.p x):=by
 obtain⟨b,e,hc⟩:=h.types.some (by omega);injection e with e;injection e with e;subst e;have hl:x<g.p.types.length:=by rw[h.is.lt];exact hx
 have:=hc x (aOs g.p x) (by unfold ints aOs;rw[List.getElem?_map,List.getD_eq_getElem?_getD,gE hl];rfl);simpa using this
theorem aGh.node (h:aGh g w){nd:aF} (hx:g.p.ns[x]?=some nd):∃lv,Own w 3 1 lv nd.l.length (ints nd.l) ∧
  w.cell? (g.nb,x*5)=nd.kind∧w.cell? (g.nb,x*5+1)=nd.line∧w.cell? (g.nb,x*5+2)=nd.n∧w.cell? (g.nb,x*5+3)=(bs nd.name)∧w.cell? (g.nb,x*5+4)=some lv∧g.nb<w.heap.size∧x<g.p.ns.length:=by
 have hlt:=(gK hx);obtain⟨lv,hlv⟩:∃lv,g.lvs[x]?=some lv:=⟨_,gE (by have:=h.tree.same;omega)⟩;obtain⟨a,b,c,d,e,f⟩:=h.tree.node3 hx hlv;exact⟨lv,a,b,c,d,e,f,World.block_lt_of_cell? w (g.nb,x*5) b,hlt⟩
end
section
variable {g:PgV}{w w':World}{B k line n:Nat}{nm:List UInt8}{kv:Value}{l:List Nat}
end
section
variable {p:gB}{a b:Nat}
end
theorem gX.aPv {ns:List aF}{fs l:List aG}{s:CkS}{a b:Nat}{zs:List Nat} (h:gX ns fs s k l zs a b) (hb:b<=ns.length):
  zs.length=l.length∧a<=b∧(∀y,a<=y->y<b->∃j,s.fn[y]?=some j∧k<=j∧j<k+l.length) ∧
  ∀(i:Nat) (f:aG),l[i]?=some f->∃z c d,zs[i]?=some z∧vP ns fs s (k+i) z f c d∧a<=c∧d<=b∧∀y,a<=y->y<b->(s.fn[y]?=some (k+i)↔(c<=y∧y<d)):=by
 induction h with
 | nil k a=>exact⟨rfl,aA1 _,λy h1 h2=>by omega,λi f hi=>by simp at hi⟩
 | cons k z f l zs a c b h h2 ih=>
  obtain⟨i1,i2,i3,i4⟩:=ih hb;have hle:=h.le;have fa:∀y,a<=y->y<c->s.fn[y]?=some k:=λy h3 h4=>(h.at_ y _ h3 h4 (gE (by omega))).fn
  refine⟨by simp[i1],by omega,λy h3 h4=>?_,λi g hi=>?_⟩
  . by_cases hy:y<c
    . exact⟨k,fa y h3 hy,aA1 _,by simp⟩
    . obtain⟨j,j1,j2,j3⟩:=i3 y (by omega) h4
      exact⟨j,j1,by omega,by simp only[List.length_cons];omega⟩
  . cases i with
    | zero=>
      simp at hi
      subst hi;refine⟨z,a,c,rfl,h,aA1 _,i2,λy h3 h4=>⟨λe=>⟨h3,?_⟩,λe=>fa y h3 e.2⟩⟩;by_cases hy:y<c
      . exact hy
      . obtain⟨j,j1,j2,_⟩:=i3 y (by omega) h4
        rw[j1] at e;injection e with e;simp at e;omega
    | succ i=>
      simp at hi
      obtain⟨z',c',d',e1,e2,e3,e4,e5⟩:=i4 i g hi;rw[show k+1+i=k+(i+1) by omega] at e2 e5;refine⟨z',c',d',by simpa using e1,e2,by omega,e4,λy h3 h4=>?_⟩;by_cases hy:y<c
      . have:=fa y h3 hy
        rw[this];exact⟨λe=>by injection e with e;omega,λe=>by omega⟩
      . exact e5 y (by omega) h4
section
variable {p:gB}
def aKc (p:gB) (i k:Nat):Nat:=(List.range' 0 i).countP λy=>decide (pG p.ns y=10) && decide (p.fn[y]?=some k)
def aMh (p:gB) (k:Nat):Nat:=(p.fs[k]?.map (·.params.length)).getD 0
def yD (p:gB) (i:Nat):List Nat:=(List.range p.fs.length).map λk=>aMh p k+aKc p i k
theorem lH {i:Nat} (hk:k<p.fs.length):(yD p i)[k]?=some (aMh p k+aKc p i k):=by
 unfold yD;rw[List.getElem?_map,List.getElem?_range hk];rfl
theorem yU (i k:Nat):aKc p (i+1) k=aKc p i k+if pG p.ns i=10∧p.fn[i]?=some k then 1 else 0:=by
 unfold aKc;rw[show List.range' 0 (i+1)=List.range' 0 i++[i] by
  have:=List.range'_append (s:=0) (m:=i) (n:=1) (step:=1);rw[<-this];simp]
 rw[List.countP_append,List.countP_singleton];by_cases h1:pG p.ns i=10<;>by_cases h2:p.fn[i]?=some k<;>simp[h1,h2]
theorem aBd {c d:Nat} (hin:∀y,y<p.ns.length->(p.fn[y]?=some k↔(c<=y∧y<d))) (hcd:c<=d):∀i,i<=p.ns.length->aKc p i k=if i<=c then 0 else kU p.ns c (min i d)
 | 0,_=>by simp[aKc]
 | i+1,hi=>by
  rw[yU,aBd hin hcd i (by omega)];have e:=hin i (by omega);by_cases h1:i+1<=c
  . rw[if_pos h1,if_pos (by omega),if_neg (show ¬(pG p.ns i=10∧p.fn[i]?=some k) from λh=>by have:=e.1 h.2;omega)]
  . rw[if_neg h1]
    by_cases h2:i<d
    . have e2:p.fn[i]?=some k:=e.2 ⟨by omega,h2⟩
      rw[Nat.min_eq_left (by omega:i+1<=d)];have e3:kU p.ns c (i+1)=kU p.ns c i+kU p.ns i (i+1):=nY (by omega) (by omega);rw[e3,yJ (gE (by omega:i<p.ns.length))];have e4:pG p.ns i=p.ns[i].kind:=by unfold pG;rw[gE (by omega:i<p.ns.length)];rfl
      rw[e4];by_cases h3:i<=c
      . have:i=c:=by omega
        subst this;rw[if_pos (aA1 _),jY];simp[e2]
      . rw[if_neg h3,Nat.min_eq_left (by omega:i<=d)]
        simp[e2]
    . rw[if_neg (show ¬(pG p.ns i=10∧p.fn[i]?=some k) from λh=>h2 (e.1 h.2).2),Nat.min_eq_right (by omega:d<=i+1)]
      by_cases h3:i<=c
      . have:c=d:=by omega
        subst this;rw[if_pos h3,jY]
      . rw[if_neg h3,Nat.min_eq_right (by omega:d<=i)];rfl
theorem lG (i:Nat):(yD p i).length=p.fs.length:=by unfold yD;simp
theorem aGu (hi:nC p){i:Nat}{nd:aF} (hx:p.ns[i]?=some nd) (h:nd.kind=10):∃k v,p.fn[i]?=some k∧k<p.fs.length∧(yD p i)[k]?=some v∧p.slots[i]?=some (v:Int)∧yD p (i+1)=(yD p i).set k (v+1):=by
 have hlt:=(gK hx);obtain⟨h1,h2,h3,h4⟩:=hi.done.aPv (aA1 _);obtain⟨k,hk,_,hk2⟩:=h3 i (aA4 _) hlt;have hk3:k<p.fs.length:=by omega
 obtain⟨z,c,d,e1,e2,e3,e4,e5⟩:=h4 k p.fs[k] (gE hk3);rw[Nat.zero_add] at e2 e5;have hin:∀y,y<p.ns.length->(p.fn[y]?=some k↔(c<=y∧y<d)):=λy hy=>e5 y (aA4 _) hy
 have hcd:=(hin i hlt).1 hk;have e6:=e2.lets i nd hcd.1 hcd.2 hx h;have e7:aKc p i k=kU p.ns c i:=by
   rw[aBd hin e2.le i (by omega)];by_cases h5:i<=c
   . have:i=c:=by omega
     subst this;rw[if_pos (aA1 _),jY]
   . rw[if_neg h5,Nat.min_eq_left (by omega)]
 have e8:aMh p k=p.fs[k].params.length:=by unfold aMh;rw[gE hk3];rfl
 refine⟨k,aMh p k+aKc p i k,hk,hk3,lH hk3,by rw[e7,e8];exact e6,?_⟩;apply List.ext_getElem?
 intro j;by_cases hj:j<p.fs.length
 . rw[lH hj,List.getElem?_set,yU]
   have hkn:pG p.ns i=10:=by unfold pG;rw[hx];exact h
   by_cases hjk:k=j
   . subst hjk
     have hk':p.fn[i]?=some k:=hk;simp only[if_true];rw[if_pos (⟨hkn,hk'⟩:pG p.ns i=10∧p.fn[i]?=some k),if_pos (by rw[lG];exact hk3),Nat.add_assoc]
   . rw[if_neg hjk,if_neg (show ¬(pG p.ns i=10∧p.fn[i]?=some j) from λe=>hjk (by have h9:p.st.fn[i]?=some j:=e.2;rw[hk] at h9;injection h9)),lH hj];rfl
 . rw[List.getElem?_eq_none (by rw[lG];omega),List.getElem?_eq_none (by simp[lG];omega)]
theorem aGv (hi:nC p):yD p p.ns.length=p.sizes:=by
 obtain⟨h1,h2,h3,h4⟩:=hi.done.aPv (aA1 _);apply List.ext_getElem?
 intro k;by_cases hk:k<p.fs.length
 . obtain⟨z,c,d,e1,e2,e3,e4,e5⟩:=h4 k p.fs[k] (gE hk)
   rw[Nat.zero_add] at e2 e5;have hin:∀y,y<p.ns.length->(p.fn[y]?=some k↔(c<=y∧y<d)):=λy hy=>e5 y (aA4 _) hy
   rw[lH hk,e1,e2.size,aBd hin e2.le _ (aA1 _)];have e8:aMh p k=p.fs[k].params.length:=by unfold aMh;rw[gE hk];rfl
   rw[e8];have:=e2.body;have hle:=e2.le;by_cases h5:p.ns.length<=c
   . have:c=d:=by omega
     subst this;rw[if_pos h5,jY]
   . rw[if_neg h5,Nat.min_eq_right e4]
 . rw[List.getElem?_eq_none (by rw[lG];omega),List.getElem?_eq_none (by omega)]
theorem rE (hi:nC p):p.sizes.length=p.fs.length:=(hi.done.aPv (aA1 _)).1
end
theorem aGs {src:List UInt8} (h:jA src=some (.good p)):nC p∧parseM src=some (.good p.ns p.fs)∧eD p.ns p.fs = .good p:=by
 unfold jA at h;rw[mS] at h;obtain⟨r,hr,h⟩:=h;cases r with
 | bad p e=>cases h
 | good ns fs=>
  cases hc:eD ns fs with
  | bad e x=>
   simp only[hc] at h;split at h<;>cases h
  | good q=>
   simp only[hc] at h;injection h with h;subst h;obtain⟨h1,h2,h3⟩:=aNp (wE hr) hc;rw[h2,h3];exact⟨h1,hr,hc⟩
theorem aMe (hi:nC p):0<p.fs.length∧0<p.ns.length:=by
 have hh:=hi.heads;unfold jM at hh;have hf:0<p.fs.length:=by
  cases hfs:p.fs with
  | nil=>rw[hfs] at hh;simp[dN] at hh
  | cons f l=>simp
 refine⟨hf,?_⟩;obtain⟨c,hc,_⟩:=hi.tree.ok.bodies p.fs[0] (List.getElem_mem hf);have:=(gK hc);omega
structure PgF (g:PgV) (ub zb:Nat) (w:World):Prop where
 pg:aGh g w
 ua:g.ua=(ub,())
 un:g.un=g.p.ns.length
 za:g.za=(zb,())
 zn:g.zn=g.p.fs.length
 fn:Own w 3 1 (ub,g.p.ns.length,g.uc) g.p.ns.length (ints g.p.fn)
 sz:Own w 3 1 (zb,g.p.fs.length,g.zc) g.p.fs.length (ints g.p.sizes)
section
variable {g:PgV}{ub zb:Nat}{w w':World}
theorem PgF.no (h:PgF g ub zb w) (f:Fr nob w w'):PgF g ub zb w':=⟨h.pg.no f,h.ua,h.un,h.za,h.zn,h.fn.fr f (λ_ _ x=>x),h.sz.fr f (λ_ _ x=>x)⟩
theorem aLu {t b n c:Nat}{l:List Nat} (h:Own w t 1 (b,n,c) n (ints l)) (hx:l[x]?=some k) (hl:x<n):w.cell? (b,x)=k:=by
 obtain⟨b',e,hc⟩:=h.some (by omega);injection e with e;injection e with e;subst e;have:=hc x k (by unfold ints;rw[List.getElem?_map,hx];rfl);simpa using this
theorem PgF.fnc (h:PgF g ub zb w) (hx:g.p.fn[x]?=some k):w.cell? (ub,x)=k:=
 aLu h.fn hx (by rw[<-h.pg.is.lf];exact (gK hx))
theorem PgF.val (h:PgF g ub zb w):g.val = .agg #[(g.nb,g.p.ns.length,g.nc),(g.fb,g.p.fs.length,g.fc),(g.tb,g.p.ns.length,g.tc),(g.sb,g.p.ns.length,g.sc),(ub,g.p.ns.length,g.uc),(zb,g.p.fs.length,g.zc)]:=by
 unfold PgV.val;rw[h.ua,h.un,h.za,h.zn]
end
theorem zT {w:World}{en:Ending} (h:jP w en (.good p)) (hi:nC p):∃(g:PgV) (ub zb:Nat),g.p=p∧PgF g ub zb w∧en = .returned (.tuple #[g.val,U0,U0]):=by
 obtain⟨nv,fv,tv,sv,uv,zv,lvs,pvs,he,h⟩:=h;obtain⟨h1,h2⟩:=aMe hi;obtain⟨A1,c1,rfl,_,_⟩:=h.tree.nodes.cap;obtain⟨A2,c2,rfl,_,_⟩:=h.tree.fns.cap;obtain⟨A3,c3,rfl,_,_⟩:=h.types.cap;obtain⟨A4,c4,rfl,_,_⟩:=h.slots.cap;obtain⟨A5,c5,rfl,_,_⟩:=h.fn.cap;obtain⟨A6,c6,rfl,_,_⟩:=h.sizes.cap;have ht:=h.types;have hs:=h.slots;have hu:=h.fn;have hz:=h.sizes;rw[hi.lt] at ht;rw[hi.ls] at hs;rw[hi.lf] at hu;rw[rE hi] at hz;obtain⟨b1,rfl,_⟩:=h.tree.nodes.some h2;obtain⟨b2,rfl,_⟩:=h.tree.fns.some h1;obtain⟨b3,rfl,_⟩:=ht.some h2;obtain⟨b4,rfl,_⟩:=hs.some h2;obtain⟨b5,rfl,_⟩:=hu.some h2;obtain⟨b6,rfl,_⟩:=hz.some h1;refine⟨⟨b1,c1,b2,c2,b3,c3,b4,c4,some (b5,()),p.ns.length,c5,some (b6,()),p.fs.length,c6,lvs,pvs,p⟩,b5,b6,rfl,⟨⟨hi,h.tree,ht,hs⟩,rfl,rfl,rfl,rfl,hu,hz⟩,?_⟩;rw[he,hi.lt,hi.ls,hi.lf,rE hi];rfl
theorem zS (src:List UInt8):∃r,jA src=some r:=by
 obtain⟨r,hr⟩:=aEp src;unfold jA;rw[hr];exact⟨_,rfl⟩
theorem aJr (s:ByteArray):s.extract 0 700=bs (s.data.toList.take 700):=by
 have h:(s.extract 0 700).data.toList=s.data.toList.take 700:=by rw[Lib.extract_data];simp
 rw[<-h]
 show s.extract 0 700=⟨(s.extract 0 700).data.toList.toArray⟩
 rw[Array.toArray_toList]
theorem aDm (s:ByteArray) (w:World):Calls prog 27 #[s] w λe w'=>e = .returned (bs (s.data.toList.take 700))∧w'=w:=by
 by_cases h:s.size<=700
 . have e:bs (s.data.toList.take 700)=s:=by
    rw[aA5 (by simpa using h)]
    show (⟨s.data.toList.toArray⟩:ByteArray)=s
    simp
   rw[e];clear e;go_enter func27,ntmps27;go_wp2
   go_ret;exact⟨rfl,rfl⟩
 . have h2:700<s.size:=by omega
   go_enter func27,ntmps27;go_wp2
   go_ret;refine⟨?_,rfl⟩;rw[<-aJr s];rfl
structure aSt (V:World->Prop):Prop where
 no:∀w w',V w->Fr nob w w'->V w'
 src:∀(src:ByteArray) (w:World),V w->src.size<=281474976710656->∀r:fZ,jA src.data.toList=some r->Calls prog 28 #[src] w λen w'=>jP w' en r∧Fr nob w w'
end Go.Proofs.YtlbjicjinnnboaaGreatDoor
namespace Go.Proofs.YtlbjicjinnnboaaGreatDoor
open Go.RowKit Go.Proofs.Tryz
variable {x j:Nat}{vars:List bT}{name:List UInt8}{nd:aF}
theorem aSk:aSt aBk:=⟨λ_ _ h f=>h.no f,λsrc w hv hs _ hr=>aAa src w hv hs hr⟩
open Pw
theorem aFb {fs:List aG} (hu:(fs.map (·.name)).Nodup){f:aG} (hf:fs[j]?=some f) (nm:List UInt8):findF (fs.take (j+1)) nm=if f.name=nm then some j else findF (fs.take j) nm:=by
 have hj:=(gK hf);unfold findF;rw[List.take_add_one,hf,List.findIdx?_append];have hl:(fs.take j).length=j:=by rw[List.length_take];omega
 by_cases he:f.name=nm
 . rw[if_pos he]
   have h0:List.findIdx? (λf=>decide (f.name=nm)) (fs.take j)=none:=by
    rw[List.findIdx?_eq_none_iff];intro g hg;refine decide_eq_false λh1=>?_
    obtain⟨i,hi,e⟩:=List.getElem_of_mem hg;rw[List.length_take] at hi;rw[List.getElem_take] at e;have h2:=List.pairwise_iff_getElem.1 hu i j (by rw[List.length_map];omega) (by rw[List.length_map];omega) (by omega);rw[List.getElem_map,List.getElem_map,e,(List.getElem?_eq_some_iff.1 hf).2] at h2;exact h2 (h1.trans he.symm)
   rw[h0];simp[he,hl]
 . rw[if_neg he]
   have h1:(some f).toList=[f]:=rfl;rw[h1,List.findIdx?_cons,decide_eq_false he];simp
theorem qY:∀(l:List aG) (seen:List (List UInt8)),dN seen l=none->(l.map (·.name)).Nodup∧∀f∈l,f.name∉seen
 | [],seen,_=>⟨List.nodup_nil,λ_ h=>by cases h⟩
 | a :: l,seen,h=>by
  have h:(if a.name∈seen then some a.body else dN (seen++[a.name]) l)=none:=h;split at h
  . cases h
  . rename_i hn
    obtain⟨h1,h2⟩:=qY l _ h;refine⟨?_,λf hf=>?_⟩
    . rw[List.map_cons,List.nodup_cons]
      refine⟨λhm=>?_,h1⟩;obtain⟨g,hg,e⟩:=List.mem_map.1 hm;exact h2 g hg (by rw[e];simp)
    . rcases List.mem_cons.1 hf with e|hf
      . subst e;exact hn
      . exact λh3=>h2 f hf (List.mem_append_left _ h3)
theorem aEx {fs:List aG} (h:jM fs = .good ()):(fs.map (·.name)).Nodup:=by
 unfold jM at h;split at h
 . cases h
 . rename_i h2;exact (qY _ _ h2).1
section
variable {G:Geo}{w w':World}{s:CkS}{r:CkR CkS}{zs:List Nat}{k e p:Nat}
theorem kD (h:Ck G w s zs k e p) (e' x:Nat) (he':e'≠0):
   Calls prog 99 #[(G.g,()),e',x] w λen w'=>en = .returned (.tuple #[])∧Ck G w' s zs k (if e=0 then e' else e) (if e=0 then x else p)∧FrK G w w':=by
 obtain⟨zv,vv,c0,c1,c2,c3,c4,c5,c6,c7,c8,c9,c10,hfz,_⟩:=h.cells;have f9:=hfz 9;have f10:=hfz 10;have hg:=h.jK;have H:=hD h;by_cases he:e=0
 . have heb:((e:Int)==0)=true:=by rw[he];rfl
   rw[if_pos he,if_pos he];have S1:=hD (h.aLs 9 e' (s':=s) (k':=k) (e':=e') (p':=p) (λ_ _=>rfl) rfl rfl rfl rfl h.kk h.size (λx=>absurd x he') h.vars);clear h he c0 c1 c2 c3 c4 c5 c6 c7 c8 hfz;go_enter func99,ntmps99;go_wp2_with fail
   generalize w.setCell (G.g,U9) e'=w1 at *;have S2:=hD (S1.o.1.aLs 10 x (s':=s) (k':=k) (e':=e') (p':=x) (λ_ _=>rfl) rfl rfl rfl rfl S1.o.1.kk S1.o.1.size (λx=>absurd x he') S1.o.1.vars);have f10':w1.frozen? (G.g,10)=false:=by
    obtain⟨_,_,_,_,_,_,_,_,_,_,_,_,_,hfz,_⟩:=S1.o.1.cells;exact hfz 10
   have c10':w1.cell? (G.g,10)=p:=by
    obtain⟨_,_,_,_,_,_,_,_,_,_,_,_,c,_⟩:=S1.o.1.cells;exact c
   clear c9 c10 f9 f10 heb;go_wp2
   exact fK rfl rfl ⟨rfl,S2.o.1,S1.o.2.trans S2.o.2⟩
 . have heb:((e:Int)==0)=false:=bN.2 (by omega)
   rw[if_neg he,if_neg he];clear h he c0 c1 c2 c3 c4 c5 c6 c7 c8 hfz;go_enter func99,ntmps99;go_wp2
   exact fK rfl rfl ⟨rfl,H,FrK.refl _ _⟩
theorem CkM.fails (h:CkM G w r zs k) (e' x:Nat) (he':e'≠0) (h99:e'<=99):
   Calls prog 99 #[(G.g,()),e',x] w λen w'=>en = .returned (.tuple #[])∧CkM G w' (r.bind λ_=> .bad e' x) zs k∧FrK G w w':=by
 obtain⟨s,e,p,h,hm⟩:=h.open_;refine (kD h e' x he').mono λen w' ⟨h1,h2,h3⟩=>⟨h1,?_,h3⟩
 rcases hm with ⟨rfl,rfl,rfl⟩|⟨h0,h9,rfl⟩
 . exact⟨he',h99,s,h2⟩
 . rw[if_neg h0,if_neg h0] at h2
   exact⟨h0,h9,s,h2⟩
theorem CkM.must (h:CkM G w r zs k) (b:Bool) (x:Nat):
  Calls prog 176 #[(G.g,()),b,x] w λen w'=>en = .returned (.tuple #[])∧CkM G w' (r.bind λs=>if b=true then .good s else .bad 42 x) zs k∧FrK G w w':=by
 have H:=hD h;clear h;cases b with
 | true=>
  go_enter func176,ntmps176;go_wp2
  refine fK rfl rfl ⟨rfl,?_,FrK.refl _ _⟩;have:=H.o;cases r<;>exact this
 | false=>
  go_enter func176,ntmps176;go_wp2_with fail
  refine dU (H.o.fails 42 x (by decide) (by decide)) λw1 S1 F1=>?_;go_wp2
  refine fK rfl rfl ⟨rfl,?_,F1⟩;have:=S1.o;cases r<;>exact this
def iK (vars:List bT) (name:List UInt8):Option Nat:=vars.findIdx? λv=>decide (v.name=name)
def aCa (o:Option Nat):Int:=match o with|some j=>(j:Int)|none=> -1
theorem aIk {v:bT} (hv:vars[j]?=some v) (he:v.name=name) (hb:∀i u,i<j->vars[i]?=some u->u.name≠name):iK vars name=some j:=by
 obtain⟨hl,e⟩:=List.getElem?_eq_some_iff.1 hv;unfold iK;rw[List.findIdx?_eq_some_iff_getElem];refine⟨hl,by rw[e];exact decide_eq_true he,λi hi=>?_⟩;simpa using hb i _ hi (gE (by omega))
theorem aAk (hb:∀i u,i<vars.length->vars[i]?=some u->u.name≠name):iK vars name=none:=by
 unfold iK;rw[List.findIdx?_eq_none_iff];intro v hv;obtain⟨i,hi,e⟩:=List.getElem_of_mem hv;exact decide_eq_false (hb i v hi (by rw[gE hi,e]))
theorem jD (vars:List bT) (name:List UInt8):dV vars name=(iK vars name).bind λj=>vars[j]?:=by
 unfold dV iK;induction vars with
 | nil=>rfl
 | cons a l ih=>
  rw[List.find?_cons,List.findIdx?_cons];by_cases h:decide (a.name=name)=true
  . rw[h];rfl
  . have h:decide (a.name=name)=false:=by simpa using h
    rw[h,ih];cases List.findIdx? (λv=>decide (v.name=name)) l<;>rfl
theorem rV (h:iK vars name=some j):j<vars.length:=by
 unfold iK at h;exact (List.findIdx?_eq_some_iff_getElem.1 h).1
theorem tC (a:List UInt8):(bs a).toList=a:=by rw[ByteArray.toList_eq];rfl
theorem aBg {a b:List UInt8}:((bs a).toList==(bs b).toList)=true↔a=b:=by
 rw[tC,tC];exact beq_iff_eq
theorem oG (h:Ck G w s zs k e p) (name:List UInt8):
  Calls prog 100 #[(G.g,()),bs name] w λen w'=>en = .returned (aCa (iK s.vars name))∧Fr nob w w':=by
 obtain⟨zv,vv,c0,c1,c2,c3,c4,c5,c6,c7,c8,c9,c10,hfz,hv,_⟩:=h.cells;have hn:(s.vars.length:Int)<=1000:=by have:=h.vars;have:=h.size;have:=h.geo.hM;omega
 have hg:=h.jK;obtain⟨VA,VC,rfl,_,_⟩:=hv.cap;have HV:=hD hv;have C7:=hD c7;obtain⟨R,hR⟩:∃R,aCa (iK s.vars name)=R:=⟨_,rfl⟩;rw[hR];generalize s.vars=vars at *;have HR:=hD hR;clear hR;clear h c0 c1 c2 c3 c4 c5 c6 c8 c9 c10 hfz hv c7;go_enter func100,ntmps100;go_wp2
 go_loopw [5] (λi wr=>∃j:Nat,j<=vars.length∧i = .int .i64 j∧Hd (∀i u,i<j->vars[i]?=some u->u.name≠name)∧Hd (Fr nob w wr)) (λi _=>vars.length - (intOf i).toNat)
 case atStart=>exact⟨0,aA4 _,rfl,hD (λi u hi=>absurd hi (Nat.not_lt_zero _)),hD (fR w)⟩
 case round=>
  obtain⟨j,hj,rfl,HB,FR⟩:=hrel;have c7:=(FR.o.cell (World.block_lt_of_cell? _ _ C7) (λx=>x)).trans C7.o;by_cases hlt:j<vars.length
  . have hlt2:(j:Int)<(vars.length:Int):=by omega
    obtain⟨v,hv⟩:∃v,vars[j]?=some v:=⟨_,gE hlt⟩;obtain⟨vb,e,hc1⟩:=(HV.o.fr FR (λ_ _ x=>x)).some (by omega);subst e;have p0:=hc1 _ _ (gF hv).1;have HN:=hD hv;clear hc1 hv;by_cases he:v.name=name
    . have q0:((bs v.name).toList==(bs name).toList)=true:=aBg.2 he
      go_wp2
      go_ret;refine⟨?_,FR⟩;rw[<-HR.o,aIk HN.o he HB.o];rfl
    . have q0:((bs v.name).toList==(bs name).toList)=false:=by
       rw[Bool.eq_false_iff];intro x;exact he (aBg.1 x)
      go_wp2
      go_roundw
      case rel=>
       refine⟨j+1,by omega,by go_num,hD (λi u hi hu=>?_),FR⟩;by_cases hij:i=j
       . subst hij
         rw[HN.o] at hu;injection hu with hu;subst hu;exact he
       . exact HB i u (by omega) hu
      case measure=>simp[intOf];omega
  . have hle:(vars.length:Int)<=(j:Int):=by omega
    go_wp2
    go_ret;refine⟨?_,FR⟩;rw[<-HR.o,aAk (λi u hi=>HB.o i u (by omega))];rfl
end
section
variable {G:Geo}{w w':World}{s:CkS}{r:CkR CkS}{zs:List Nat}{k e p:Nat}
def iT (G:Geo) (zs:List Nat) (k:Nat) (r:CkR (Nat×CkS)) (w:World) (en:Ending) (w':World):Prop:=
 ∃t:Nat,en = .returned t∧CkM G w' (r.map (·.2)) zs k∧FrK G w w'∧∀q,r = .good q->q.1=t
theorem CkM.zU (h:CkM G w r zs k):G.bs<w.heap.size∧G.bt<w.heap.size∧G.bf<w.heap.size∧G.g<w.heap.size:=by
 obtain⟨s,e,p,h,_⟩:=h.open_;exact⟨h.slots.aZ h.tF,h.types.aZ h.vK,h.fn.aZ h.vL,h.jK⟩
theorem mK (h:Ck G w s zs k 0 0) (hx:G.ns[x]?=some nd):
  Calls prog 174 #[(G.g,()),x] w (iT G zs k (aU x nd.name s) w):=by
 obtain⟨nb,nc,lv,hnv,_,_,_,_,_,x3,_⟩:=h.tree.tree.node hx;obtain⟨zv,vv,c0,_⟩:=h.cells;rw[hnv] at c0;have hx3:(x:Int)<(G.ns.length:Int):=by have:=(gK hx);omega
 have hx4:(G.ns.length:Int)<=300:=by have:=h.geo.few;omega
 have hg:=h.jK;have H:=hD h;cases hpl:iK s.vars nd.name with
 | none=>
  have HF:=hD (show Calls prog 100 #[(G.g,()),bs nd.name] w (λen w'=>en = .returned (-1:Int)∧Fr nob w w') from by have:=oG h nd.name;rw[hpl] at this;exact this);have em:aU x nd.name s = .bad 40 x:=by unfold aU;rw[jD,hpl];rfl
  rw[em];clear h hpl em hx;go_enter func174,ntmps174;go_wp2_with fail
  refine HF.o.mono ?_;rintro en w1 ⟨rfl,hf⟩;have S1:Hd (CkM G w1 (.good s) zs k):=H.o.no hf;have F1:=hD hf;clear hf c0 x3 hg;go_wp2_with fail
  refine dU (S1.o.fails 40 x (by decide) (by decide)) λw2 S2 F2=>?_;go_wp2
  go_ret;exact⟨0,rfl,S2,(FrK.no F1).trans F2,λq hq=>by cases hq⟩
 | some j=>
  have HF:=hD (show Calls prog 100 #[(G.g,()),bs nd.name] w (λen w'=>en = .returned j∧Fr nob w w') from by have:=oG h nd.name;rw[hpl] at this;exact this);have hj:=rV hpl;obtain⟨v,hv⟩:∃v,s.vars[j]?=some v:=⟨_,gE hj⟩;have em:aU x nd.name s = .good (v.ty,{ s with slots:=s.slots.set x v.slot }):=by unfold aU;rw[jD,hpl];simp only[Option.bind,hv]
  rw[em];have hj2:(j:Int)<(s.vars.length:Int):=by omega
  have hj3:(s.vars.length:Int)<=1000:=by have:=h.vars;have:=h.size;have:=h.geo.hM;omega
  have HV:=hD hv;clear h hpl em hx hj hv;go_enter func174,ntmps174;go_wp2_with fail
  refine HF.o.mono ?_;rintro en w1 ⟨rfl,hf⟩;have S1:=hD (H.o.no hf);have F1:=hD hf;clear hf c0 x3 hg;obtain⟨zv,vv,_,_,_,c3,_,_,_,c7,_,_,_,hfz,hvv,_⟩:=S1.o.cells;obtain⟨VA,VC,rfl,_,_⟩:=hvv.cap;obtain⟨vb,e,hc1⟩:=hvv.some (by omega);subst e;have p1:=hc1 _ _ (gF HV).2.1;have p2:=hc1 _ _ (gF HV).2.2;have hne:vb≠G.bs:=λe=>S1.o.slots.fV hvv (by decide) (g:=vb) (by simp[blk];have:=hvv.oH.1;omega) (by rw[S1.o.tF,e])
  have hneg:G.g≠G.bs:=S1.o.gne.2.1;have fzs:w1.frozen? (G.bs,x)=false:=by
   obtain⟨_,A',c',hv',⟨_,h2⟩|⟨g',cur,h1,_,hb,_⟩⟩:=S1.o.slots
   . have:=S1.o.geo.pos;omega
   . injection hv' with e1 _ _
     rw[<-e1] at h1;injection h1 with h1;injection h1 with h1;subst h1;exact hb.frozen x
  have czs:∃u,w1.cell? (G.bs,x)=some u:=by
   obtain⟨g',e,hcc⟩:=S1.o.slots.some S1.o.geo.pos;injection e with e;injection e with e;subst e;have hl:(eH s.slots).length=G.ns.length*1:=S1.o.slots.len;exact⟨_,hcc x _ (gE (by omega))⟩
  obtain⟨u,czs⟩:=czs;have F0:Hd (FrK G w w1):=FrK.no F1;have S2:=hD (S1.o.aQj x (v.slot:Nat));have n3:((G.bs,x):Addr)≠(G.g,U3):=by intro e;injection e with e;exact hneg e.symm
  have n7:((G.bs,x):Addr)≠(G.g,U7):=by intro e;injection e with e;exact hneg e.symm
  have np:((G.bs,x):Addr)≠(vb,j*3+2):=by intro e;injection e with e;exact hne e.symm
  have D3:=hD c3;have D7:=hD c7;have DP:=hD p2;have e3:=hD ((aA2 w1.drew (G.bs,x) (G.g,U3) v.slot n3).trans c3);have e7:=hD ((aA2 w1.drew (G.bs,x) (G.g,U7) v.slot n7).trans c7);have ep:=hD ((aA2 w1.drew (G.bs,x) (vb,j*3+2) v.slot np).trans p2);have eq1:=hD ((aA2 w1.drew (G.bs,x) (vb,j*3+1) v.slot (by intro e;injection e with e;exact hne e.symm)).trans p1);clear n3 n7 np hfz hc1 hvv hne hneg p1;go_wp2_with fail
  go_region_held3 (λwx=>wx.cell? (G.g,3)=(G.bs,G.ns.length,G.cs)∧wx.cell? (G.g,7)=(vb,s.vars.length,VC)∧wx.cell? (vb,j*3+2)=v.slot) (first|exact⟨D3,D7,DP⟩|exact⟨e3.o,e7.o,ep.o⟩) (first|fail)
  clear c3 c7 p2 fzs czs;have c7:(w1.setCell (G.bs,x) v.slot).cell? (G.g,7)=(vb,s.vars.length,VC):=e7.o;have p1:(w1.setCell (G.bs,x) v.slot).cell? (vb,j*3+1)=v.ty:=eq1.o;clear D3 D7 DP e3 e7 ep eq1;generalize w1.setCell (G.bs,x) v.slot=w2 at *;go_wp2
  go_ret;exact⟨v.ty,rfl,S2.o.1.no ((fR w2).drew),(F0.o.trans S2.o.2).trans (FrK.no ((fR w2).drew)),λq hq=>by injection hq with hq;subst hq;rfl⟩
end
theorem aRk (a b:Nat) (w:World):Calls prog 212 #[bs [124,124],a,b] w λen w'=>en = .returned (bL [124,124] a b)∧Fr nob w w':=by
 have q0:((bs [124,124]).toList==[124,124])=true:=by kernel_rfl
 by_cases hab:a=b
 . subst hab
   have e0:((a:Int) != (a:Int))=false:=by simp
   by_cases h2:a=2
   . subst h2
     rw[show bL [124,124] 2 2=2 from rfl];generalize bs [124,124]=nmv at *;clear e0;go_enter func212,ntmps212;go_wp2
     go_ret;exact⟨rfl,fR w⟩
   . have e2:((a:Int)==2)=false:=bN.2 (by omega)
     rw[show bL [124,124] a a=0 by simp[bL,h2]];generalize bs [124,124]=nmv at *;clear h2;go_enter func212,ntmps212;go_wp2
     go_ret;exact⟨rfl,fR w⟩
 . have e0:((a:Int) != (b:Int))=true:=by rw[bne,bN.2 (by omega)];rfl
   rw[show bL [124,124] a b=0 by simp[bL,hab]];generalize bs [124,124]=nmv at *;clear hab;go_enter func212,ntmps212;go_wp2
   go_ret;exact⟨rfl,fR w⟩
theorem aRj (a b:Nat) (w:World):Calls prog 212 #[bs [38,38],a,b] w λen w'=>en = .returned (bL [38,38] a b)∧Fr nob w w':=by
 have q0:((bs [38,38]).toList==[124,124])=false:=by kernel_rfl
 have q1:((bs [38,38]).toList==[38,38])=true:=by kernel_rfl
 by_cases hab:a=b
 . subst hab
   have e0:((a:Int) != (a:Int))=false:=by simp
   by_cases h2:a=2
   . subst h2
     rw[show bL [38,38] 2 2=2 from rfl];generalize bs [38,38]=nmv at *;clear e0;go_enter func212,ntmps212;go_wp2
     go_ret;exact⟨rfl,fR w⟩
   . have e2:((a:Int)==2)=false:=bN.2 (by omega)
     rw[show bL [38,38] a a=0 by simp[bL,h2]];generalize bs [38,38]=nmv at *;clear h2;go_enter func212,ntmps212;go_wp2
     go_ret;exact⟨rfl,fR w⟩
 . have e0:((a:Int) != (b:Int))=true:=by rw[bne,bN.2 (by omega)];rfl
   rw[show bL [38,38] a b=0 by simp[bL,hab]];generalize bs [38,38]=nmv at *;clear hab;go_enter func212,ntmps212;go_wp2
   go_ret;exact⟨rfl,fR w⟩
theorem aRi (a b:Nat) (w:World):Calls prog 212 #[bs [60],a,b] w λen w'=>en = .returned (bL [60] a b)∧Fr nob w w':=by
 have q0:((bs [60]).toList==[124,124])=false:=by kernel_rfl
 have q1:((bs [60]).toList==[38,38])=false:=by kernel_rfl
 have q2:((bs [60]).toList==[60])=true:=by kernel_rfl
 by_cases hab:a=b
 . subst hab
   have e0:((a:Int) != (a:Int))=false:=by simp
   by_cases h1:a=1
   . subst h1
     rw[show bL [60] 1 1=2 from rfl];generalize bs [60]=nmv at *;clear e0;go_enter func212,ntmps212;go_wp2
     go_ret;exact⟨rfl,fR w⟩
   . have e1:((a:Int)==1)=false:=bN.2 (by omega)
     rw[show bL [60] a a=0 by simp[bL,h1]];generalize bs [60]=nmv at *;clear h1;go_enter func212,ntmps212;go_wp2
     go_ret;exact⟨rfl,fR w⟩
 . have e0:((a:Int) != (b:Int))=true:=by rw[bne,bN.2 (by omega)];rfl
   rw[show bL [60] a b=0 by simp[bL,hab]];generalize bs [60]=nmv at *;clear hab;go_enter func212,ntmps212;go_wp2
   go_ret;exact⟨rfl,fR w⟩
theorem aRh (a b:Nat) (w:World):Calls prog 212 #[bs [60,61],a,b] w λen w'=>en = .returned (bL [60,61] a b)∧Fr nob w w':=by
 have q0:((bs [60,61]).toList==[124,124])=false:=by kernel_rfl
 have q1:((bs [60,61]).toList==[38,38])=false:=by kernel_rfl
 have q2:((bs [60,61]).toList==[60])=false:=by kernel_rfl
 have q3:((bs [60,61]).toList==[60,61])=true:=by kernel_rfl
 by_cases hab:a=b
 . subst hab
   have e0:((a:Int) != (a:Int))=false:=by simp
   by_cases h1:a=1
   . subst h1
     rw[show bL [60,61] 1 1=2 from rfl];generalize bs [60,61]=nmv at *;clear e0;go_enter func212,ntmps212;go_wp2
     go_ret;exact⟨rfl,fR w⟩
   . have e1:((a:Int)==1)=false:=bN.2 (by omega)
     rw[show bL [60,61] a a=0 by simp[bL,h1]];generalize bs [60,61]=nmv at *;clear h1;go_enter func212,ntmps212;go_wp2
     go_ret;exact⟨rfl,fR w⟩
 . have e0:((a:Int) != (b:Int))=true:=by rw[bne,bN.2 (by omega)];rfl
   rw[show bL [60,61] a b=0 by simp[bL,hab]];generalize bs [60,61]=nmv at *;clear hab;go_enter func212,ntmps212;go_wp2
   go_ret;exact⟨rfl,fR w⟩
theorem aRg (a b:Nat) (w:World):Calls prog 212 #[bs [61,61],a,b] w λen w'=>en = .returned (bL [61,61] a b)∧Fr nob w w':=by
 have q0:((bs [61,61]).toList==[124,124])=false:=by kernel_rfl
 have q1:((bs [61,61]).toList==[38,38])=false:=by kernel_rfl
 have q2:((bs [61,61]).toList==[60])=false:=by kernel_rfl
 have q3:((bs [61,61]).toList==[60,61])=false:=by kernel_rfl
 have q4:((bs [61,61]).toList==[61,61])=true:=by kernel_rfl
 by_cases hab:a=b
 . subst hab
   have e0:((a:Int) != (a:Int))=false:=by simp
   by_cases h1:a=1
   . subst h1
     rw[show bL [61,61] 1 1=2 from rfl];generalize bs [61,61]=nmv at *;clear e0;go_enter func212,ntmps212;go_wp2
     go_ret;exact⟨rfl,fR w⟩
   . have e1:((a:Int)==1)=false:=bN.2 (by omega)
     by_cases h2:a=2
     . subst h2
       rw[show bL [61,61] 2 2=2 from rfl];generalize bs [61,61]=nmv at *;clear e0;go_enter func212,ntmps212;go_wp2
       go_ret;exact⟨rfl,fR w⟩
     . have e2:((a:Int)==2)=false:=bN.2 (by omega)
       by_cases h3:a=3
       . subst h3
         rw[show bL [61,61] 3 3=2 from rfl];generalize bs [61,61]=nmv at *;clear e0;go_enter func212,ntmps212;go_wp2
         go_ret;exact⟨rfl,fR w⟩
       . have e3:((a:Int)==3)=false:=bN.2 (by omega)
         rw[show bL [61,61] a a=0 by simp[bL,h1,h2,h3]];generalize bs [61,61]=nmv at *;clear h1;clear h2;clear h3;go_enter func212,ntmps212;go_wp2
         go_ret;exact⟨rfl,fR w⟩
 . have e0:((a:Int) != (b:Int))=true:=by rw[bne,bN.2 (by omega)];rfl
   rw[show bL [61,61] a b=0 by simp[bL,hab]];generalize bs [61,61]=nmv at *;clear hab;go_enter func212,ntmps212;go_wp2
   go_ret;exact⟨rfl,fR w⟩
theorem aRf (a b:Nat) (w:World):Calls prog 212 #[bs [33,61],a,b] w λen w'=>en = .returned (bL [33,61] a b)∧Fr nob w w':=by
 have q0:((bs [33,61]).toList==[124,124])=false:=by kernel_rfl
 have q1:((bs [33,61]).toList==[38,38])=false:=by kernel_rfl
 have q2:((bs [33,61]).toList==[60])=false:=by kernel_rfl
 have q3:((bs [33,61]).toList==[60,61])=false:=by kernel_rfl
 have q4:((bs [33,61]).toList==[61,61])=false:=by kernel_rfl
 have q5:((bs [33,61]).toList==[33,61])=true:=by kernel_rfl
 by_cases hab:a=b
 . subst hab
   have e0:((a:Int) != (a:Int))=false:=by simp
   by_cases h1:a=1
   . subst h1
     rw[show bL [33,61] 1 1=2 from rfl];generalize bs [33,61]=nmv at *;clear e0;go_enter func212,ntmps212;go_wp2
     go_ret;exact⟨rfl,fR w⟩
   . have e1:((a:Int)==1)=false:=bN.2 (by omega)
     by_cases h2:a=2
     . subst h2
       rw[show bL [33,61] 2 2=2 from rfl];generalize bs [33,61]=nmv at *;clear e0;go_enter func212,ntmps212;go_wp2
       go_ret;exact⟨rfl,fR w⟩
     . have e2:((a:Int)==2)=false:=bN.2 (by omega)
       by_cases h3:a=3
       . subst h3
         rw[show bL [33,61] 3 3=2 from rfl];generalize bs [33,61]=nmv at *;clear e0;go_enter func212,ntmps212;go_wp2
         go_ret;exact⟨rfl,fR w⟩
       . have e3:((a:Int)==3)=false:=bN.2 (by omega)
         rw[show bL [33,61] a a=0 by simp[bL,h1,h2,h3]];generalize bs [33,61]=nmv at *;clear h1;clear h2;clear h3;go_enter func212,ntmps212;go_wp2
         go_ret;exact⟨rfl,fR w⟩
 . have e0:((a:Int) != (b:Int))=true:=by rw[bne,bN.2 (by omega)];rfl
   rw[show bL [33,61] a b=0 by simp[bL,hab]];generalize bs [33,61]=nmv at *;clear hab;go_enter func212,ntmps212;go_wp2
   go_ret;exact⟨rfl,fR w⟩
theorem aRe (a b:Nat) (w:World):Calls prog 212 #[bs [43],a,b] w λen w'=>en = .returned (bL [43] a b)∧Fr nob w w':=by
 have q0:((bs [43]).toList==[124,124])=false:=by kernel_rfl
 have q1:((bs [43]).toList==[38,38])=false:=by kernel_rfl
 have q2:((bs [43]).toList==[60])=false:=by kernel_rfl
 have q3:((bs [43]).toList==[60,61])=false:=by kernel_rfl
 have q4:((bs [43]).toList==[61,61])=false:=by kernel_rfl
 have q5:((bs [43]).toList==[33,61])=false:=by kernel_rfl
 have q6:((bs [43]).toList==[43])=true:=by kernel_rfl
 by_cases hab:a=b
 . subst hab
   have e0:((a:Int) != (a:Int))=false:=by simp
   by_cases h1:a=1
   . subst h1
     rw[show bL [43] 1 1=1 from rfl];generalize bs [43]=nmv at *;clear e0;go_enter func212,ntmps212;go_wp2
     go_ret;exact⟨rfl,fR w⟩
   . have e1:((a:Int)==1)=false:=bN.2 (by omega)
     by_cases h3:a=3
     . subst h3
       rw[show bL [43] 3 3=3 from rfl];generalize bs [43]=nmv at *;clear e0;go_enter func212,ntmps212;go_wp2
       go_ret;exact⟨rfl,fR w⟩
     . have e3:((a:Int)==3)=false:=bN.2 (by omega)
       rw[show bL [43] a a=0 by simp[bL,h1,h3]];generalize bs [43]=nmv at *;clear h1;clear h3;go_enter func212,ntmps212;go_wp2
       go_ret;exact⟨rfl,fR w⟩
 . have e0:((a:Int) != (b:Int))=true:=by rw[bne,bN.2 (by omega)];rfl
   rw[show bL [43] a b=0 by simp[bL,hab]];generalize bs [43]=nmv at *;clear hab;go_enter func212,ntmps212;go_wp2
   go_ret;exact⟨rfl,fR w⟩
theorem aRd (a b:Nat) (w:World):Calls prog 212 #[bs [45],a,b] w λen w'=>en = .returned (bL [45] a b)∧Fr nob w w':=by
 have q0:((bs [45]).toList==[124,124])=false:=by kernel_rfl
 have q1:((bs [45]).toList==[38,38])=false:=by kernel_rfl
 have q2:((bs [45]).toList==[60])=false:=by kernel_rfl
 have q3:((bs [45]).toList==[60,61])=false:=by kernel_rfl
 have q4:((bs [45]).toList==[61,61])=false:=by kernel_rfl
 have q5:((bs [45]).toList==[33,61])=false:=by kernel_rfl
 have q6:((bs [45]).toList==[43])=false:=by kernel_rfl
 by_cases hab:a=b
 . subst hab
   have e0:((a:Int) != (a:Int))=false:=by simp
   by_cases h1:a=1
   . subst h1
     rw[show bL [45] 1 1=1 from rfl];generalize bs [45]=nmv at *;clear e0;go_enter func212,ntmps212;go_wp2
     go_ret;exact⟨rfl,fR w⟩
   . have e1:((a:Int)==1)=false:=bN.2 (by omega)
     rw[show bL [45] a a=0 by simp[bL,h1]];generalize bs [45]=nmv at *;clear h1;go_enter func212,ntmps212;go_wp2
     go_ret;exact⟨rfl,fR w⟩
 . have e0:((a:Int) != (b:Int))=true:=by rw[bne,bN.2 (by omega)];rfl
   rw[show bL [45] a b=0 by simp[bL,hab]];generalize bs [45]=nmv at *;clear hab;go_enter func212,ntmps212;go_wp2
   go_ret;exact⟨rfl,fR w⟩
theorem aRc (a b:Nat) (w:World):Calls prog 212 #[bs [42],a,b] w λen w'=>en = .returned (bL [42] a b)∧Fr nob w w':=by
 have q0:((bs [42]).toList==[124,124])=false:=by kernel_rfl
 have q1:((bs [42]).toList==[38,38])=false:=by kernel_rfl
 have q2:((bs [42]).toList==[60])=false:=by kernel_rfl
 have q3:((bs [42]).toList==[60,61])=false:=by kernel_rfl
 have q4:((bs [42]).toList==[61,61])=false:=by kernel_rfl
 have q5:((bs [42]).toList==[33,61])=false:=by kernel_rfl
 have q6:((bs [42]).toList==[43])=false:=by kernel_rfl
 by_cases hab:a=b
 . subst hab
   have e0:((a:Int) != (a:Int))=false:=by simp
   by_cases h1:a=1
   . subst h1
     rw[show bL [42] 1 1=1 from rfl];generalize bs [42]=nmv at *;clear e0;go_enter func212,ntmps212;go_wp2
     go_ret;exact⟨rfl,fR w⟩
   . have e1:((a:Int)==1)=false:=bN.2 (by omega)
     rw[show bL [42] a a=0 by simp[bL,h1]];generalize bs [42]=nmv at *;clear h1;go_enter func212,ntmps212;go_wp2
     go_ret;exact⟨rfl,fR w⟩
 . have e0:((a:Int) != (b:Int))=true:=by rw[bne,bN.2 (by omega)];rfl
   rw[show bL [42] a b=0 by simp[bL,hab]];generalize bs [42]=nmv at *;clear hab;go_enter func212,ntmps212;go_wp2
   go_ret;exact⟨rfl,fR w⟩
theorem aRb (a b:Nat) (w:World):Calls prog 212 #[bs [47],a,b] w λen w'=>en = .returned (bL [47] a b)∧Fr nob w w':=by
 have q0:((bs [47]).toList==[124,124])=false:=by kernel_rfl
 have q1:((bs [47]).toList==[38,38])=false:=by kernel_rfl
 have q2:((bs [47]).toList==[60])=false:=by kernel_rfl
 have q3:((bs [47]).toList==[60,61])=false:=by kernel_rfl
 have q4:((bs [47]).toList==[61,61])=false:=by kernel_rfl
 have q5:((bs [47]).toList==[33,61])=false:=by kernel_rfl
 have q6:((bs [47]).toList==[43])=false:=by kernel_rfl
 by_cases hab:a=b
 . subst hab
   have e0:((a:Int) != (a:Int))=false:=by simp
   by_cases h1:a=1
   . subst h1
     rw[show bL [47] 1 1=1 from rfl];generalize bs [47]=nmv at *;clear e0;go_enter func212,ntmps212;go_wp2
     go_ret;exact⟨rfl,fR w⟩
   . have e1:((a:Int)==1)=false:=bN.2 (by omega)
     rw[show bL [47] a a=0 by simp[bL,h1]];generalize bs [47]=nmv at *;clear h1;go_enter func212,ntmps212;go_wp2
     go_ret;exact⟨rfl,fR w⟩
 . have e0:((a:Int) != (b:Int))=true:=by rw[bne,bN.2 (by omega)];rfl
   rw[show bL [47] a b=0 by simp[bL,hab]];generalize bs [47]=nmv at *;clear hab;go_enter func212,ntmps212;go_wp2
   go_ret;exact⟨rfl,fR w⟩
theorem aQc (a b:Nat) (w:World):Calls prog 212 #[bs [37],a,b] w λen w'=>en = .returned (bL [37] a b)∧Fr nob w w':=by
 have q0:((bs [37]).toList==[124,124])=false:=by kernel_rfl
 have q1:((bs [37]).toList==[38,38])=false:=by kernel_rfl
 have q2:((bs [37]).toList==[60])=false:=by kernel_rfl
 have q3:((bs [37]).toList==[60,61])=false:=by kernel_rfl
 have q4:((bs [37]).toList==[61,61])=false:=by kernel_rfl
 have q5:((bs [37]).toList==[33,61])=false:=by kernel_rfl
 have q6:((bs [37]).toList==[43])=false:=by kernel_rfl
 by_cases hab:a=b
 . subst hab
   have e0:((a:Int) != (a:Int))=false:=by simp
   by_cases h1:a=1
   . subst h1
     rw[show bL [37] 1 1=1 from rfl];generalize bs [37]=nmv at *;clear e0;go_enter func212,ntmps212;go_wp2
     go_ret;exact⟨rfl,fR w⟩
   . have e1:((a:Int)==1)=false:=bN.2 (by omega)
     rw[show bL [37] a a=0 by simp[bL,h1]];generalize bs [37]=nmv at *;clear h1;go_enter func212,ntmps212;go_wp2
     go_ret;exact⟨rfl,fR w⟩
 . have e0:((a:Int) != (b:Int))=true:=by rw[bne,bN.2 (by omega)];rfl
   rw[show bL [37] a b=0 by simp[bL,hab]];generalize bs [37]=nmv at *;clear hab;go_enter func212,ntmps212;go_wp2
   go_ret;exact⟨rfl,fR w⟩
theorem aNq {sg:List UInt8} (hs:sg∈jO) (a b:Nat) (w:World):Calls prog 212 #[bs sg,a,b] w λen w'=>en = .returned (bL sg a b)∧Fr nob w w':=by
 simp only[jO,List.mem_cons,List.not_mem_nil,or_false] at hs;rcases hs with rfl|rfl|rfl|rfl|rfl|rfl|rfl|rfl|rfl|rfl|rfl
 . exact aRk a b w
 . exact aRj a b w
 . exact aRi a b w
 . exact aRh a b w
 . exact aRg a b w
 . exact aRf a b w
 . exact aRe a b w
 . exact aRd a b w
 . exact aRc a b w
 . exact aRb a b w
 . exact aQc a b w
structure CkC (G:Geo) (w:World) (r:CkR CkS) (zs:List Nat) (k C:Nat) (t:TypeId) (cs:Array Value):Prop where
 m:CkM G w r zs k
 b:Blk w C t cs
 n0:C≠G.g
 n1:C≠G.bt
 n2:C≠G.bs
 n3:C≠G.bf
 nv:t≠62
section
variable {G:Geo}{w w':World}{s:CkS}{r r':CkR CkS}{zs:List Nat}{k e p C:Nat}{t:TypeId}{cs:Array Value}
theorem CkC.new (h:CkM G w r zs k) (t:TypeId) (cs:Array Value) (hv:t≠62):CkC G (w.alloc (.cells cs t)) r zs k w.heap.size t cs:=by
 obtain⟨h1,h2,h3,h4⟩:=h.zU;exact⟨h.no ((fR w).alloc _),Blk.new w _ _,by omega,by omega,by omega,by omega,hv⟩
theorem CkC.to (h:CkC G w r zs k C t cs) (h':CkM G w' r' zs k) (f:FrK G w w'):CkC G w' r' zs k C t cs:=
 ⟨h',f.far h.b h.n0 h.n1 h.n2 h.n3 h.nv,h.n0,h.n1,h.n2,h.n3,h.nv⟩
theorem CkC.no (h:CkC G w r zs k C t cs) (f:Fr nob w w'):CkC G w' r zs k C t cs:=⟨h.m.no f,h.b.fr f (λx=>x),h.n0,h.n1,h.n2,h.n3,h.nv⟩
theorem CkM.kid (h:CkM G w r zs k) (hx:G.ns[x]?=some nd){kb n c:Nat} (hlv:G.lvs[x]?=(kb,n,c)){a:Nat} (ha:nd.l[j]?=some a):w.cell? (kb,j)=a:=by
 obtain⟨_,_,_,hnv,_⟩:=h.tree.tree.node hx;have ho:Own w 3 1 (kb,n,c) nd.l.length (ints nd.l):=h.tree.tree.below.get hx hlv;obtain⟨kb',c',e,_,hc⟩:=dL ho (by have:=(gK ha);omega);injection e with e;injection e with e;injection e with e;subst e;exact hc j a ha
theorem CkM.node (h:CkM G w r zs k) (hx:G.ns[x]?=some nd):∃nb nc kv,G.nv = .slice (some (nb,())) G.ns.length nc∧G.lvs[x]?=some kv∧Own w 3 1 kv nd.l.length (ints nd.l)∧nb<w.heap.size∧(x:Int)<(G.ns.length:Int) ∧
  w.cell? (G.g,0)=(nb,G.ns.length,nc) ∧
  w.cell? (nb,x*5)=nd.kind∧w.cell? (nb,x*5+1)=nd.line∧w.cell? (nb,x*5+2)=nd.n∧w.cell? (nb,x*5+3)=(bs nd.name)∧w.cell? (nb,x*5+4)=some kv:=by
 have hlt:=(gK hx);have htr:=h.tree.tree;obtain⟨s,e,p,h0,_⟩:=h.open_;obtain⟨zv,vv,c0,_⟩:=h0.cells;obtain⟨A,c,e,hc,_⟩:=htr.nodes.cap;have hno:=htr.nodes;rw[e] at hno;obtain⟨nb,e2,hcell⟩:=hno.some (by omega);subst e2;obtain⟨lv,hlv⟩:∃lv,G.lvs[x]?=some lv:=⟨_,gE (by have:=htr.same;omega)⟩;have key:=iH hx hlv;exact⟨nb,c,lv,e,hlv,htr.below.get hx hlv,hno.aZ (by simp[blk];omega),by omega,by rw[<-e];exact c0,hcell _ _ (key 0 _ rfl),hcell _ _ (key 1 _ rfl),hcell _ _ (key 2 _ rfl),hcell _ _ (key 3 _ rfl),hcell _ _ (key 4 _ rfl)⟩
def iF (G:Geo) (zs:List Nat) (k:Nat) (ex:Nat->CkS->CkR (Nat×CkS)) (x:Nat):Prop:=
 ∀(w:World) (r:CkR CkS),CkM G w r zs k->Calls prog 175 #[(G.g,()),x] w (iT G zs k (r.bind (ex x)) w)
theorem vF {α:Type}{q:CkR (α×CkS)}{T:α->Nat}{P:α->Prop} [DecidablePred P] {b:Bool} (hb:∀a,q = .good a->b=decide (P a.1)):
  ((q.map (·.2)).bind λs=>if b=true then CkR.good s else .bad 42 x)=(q.bind λr=>if P r.1 then CkR.good (T r.1,r.2) else .bad 42 x).map (·.2):=by
 cases q with
 | bad e p=>rfl
 | good a=>
  have:=hb a rfl;simp only[CkR.bO,CkR.aC,this,decide_eq_true_eq];split<;>rfl
theorem pK {α:Type}{q:CkR (α×CkS)}{T:α->Nat}{P:α->Prop} [DecidablePred P] {u:Nat×CkS}{v:Nat} (h:(q.bind λr=>if P r.1 then CkR.good (T r.1,r.2) else .bad 42 x) = .good u) (hT:∀a,q = .good a->T a.1=v):u.1=v:=by
 cases q with
 | bad e p=>cases h
 | good a=>
  simp only[CkR.aC] at h;split at h
  . injection h with h;subst h;exact hT a rfl
  . cases h
end
end Go.Proofs.YtlbjicjinnnboaaGreatDoor
