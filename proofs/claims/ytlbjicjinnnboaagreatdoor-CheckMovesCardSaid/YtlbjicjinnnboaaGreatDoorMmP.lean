/- MmP: CsE, KsA, KsB, KsQ, KqVa, KqVb, RgLast, KqVc, KqVd, KqVe, KsH, CkSim. -/
import Derived.Test.YtlbjicjinnnboaaGreatDoorMmO
import Derived.Test.YtlbjicjinnnboaaGreatDoorMmG
import Derived.Test.YtlbjicjinnnboaaGreatDoorMmJ
import Derived.StillTailTactics
import Derived.Laws.EntriesVeiled
import Derived.Test.YtlbjicjinnnboaaGreatDoorMmH
import Derived.BigQuiet
import Derived.Test.YtlbjicjinnnboaaGreatDoorMmA
import Derived.Deep.RegionHeld
import Derived.StillTail
import Derived.Test.YtlbjicjinnnboaaGreatDoorMmF
set_option maxHeartbeats 8000000
set_option maxRecDepth 100000
set_option linter.unusedVariables false
set_option linter.unusedSimpArgs false
/- The checker: what is counted of a program's lets. -/
namespace Go.Proofs.YtlbjicjinnnboaaGreatDoor
open Go.RowKit
open Pw
theorem gQ.aPv {ns:List aF}{fs l:List aD}{s:CkS}{k a b:Nat}{zs:List Nat} (h:gQ ns fs s k l zs a b) (hb:b≤ns.length):
  zs.length=l.length∧a≤b∧(∀y,a≤y→y<b→∃j,s.fn[y]?=some j∧k≤j∧j<k+l.length) ∧
  ∀(i:Nat) (f:aD),l[i]?=some f→∃z c d,zs[i]?=some z∧tZ ns fs s (k+i) z f c d∧a≤c∧d≤b∧∀y,a≤y→y<b→(s.fn[y]?=some (k+i)↔(c≤y∧y<d)):=by
 induction h with
 | nil k a=>exact⟨rfl,Nat.le_refl _,fun y h1 h2=>by omega,fun i f hi=>by simp at hi⟩
 | cons k z f l zs a c b h h2 ih=>
  obtain⟨i1,i2,i3,i4⟩:=ih hb;have hle:=h.le;have fa:∀y,a≤y→y<c→s.fn[y]?=some k:=fun y h3 h4=>(h.at_ y _ h3 h4 (gE (by omega))).fn
  refine⟨by simp[i1],by omega,fun y h3 h4=>?_,fun i g hi=>?_⟩
  · by_cases hy:y<c
    · exact⟨k,fa y h3 hy,Nat.le_refl _,by simp⟩
    · obtain⟨j,j1,j2,j3⟩:=i3 y (by omega) h4
      exact⟨j,j1,by omega,by simp only[List.length_cons];omega⟩
  · cases i with
    | zero=>
      simp at hi
      subst hi;refine⟨z,a,c,rfl,h,Nat.le_refl _,i2,fun y h3 h4=>⟨fun e=>⟨h3,?_⟩,fun e=>fa y h3 e.2⟩⟩;by_cases hy:y<c
      · exact hy
      · obtain⟨j,j1,j2,_⟩:=i3 y (by omega) h4
        rw[j1] at e;injection e with e;simp at e;omega
    | succ i=>
      simp at hi
      obtain⟨z',c',d',e1,e2,e3,e4,e5⟩:=i4 i g hi;rw[show k+1+i=k+(i+1) by omega] at e2 e5;refine⟨z',c',d',by simpa using e1,e2,by omega,e4,fun y h3 h4=>?_⟩;by_cases hy:y<c
      · have:=fa y h3 hy
        rw[this];exact⟨fun e=>by injection e with e;omega,fun e=>by omega⟩
      · exact e5 y (by omega) h4
section
variable {p:fK}
def aMm (p:fK) (i k:Nat):Nat:=(List.range' 0 i).countP fun y=>decide (nW p.ns y=10) && decide (p.fn[y]?=some k)
def aPj (p:fK) (k:Nat):Nat:=(p.fs[k]?.map (·.params.length)).getD 0
def zK (p:fK) (i:Nat):List Nat:=(List.range p.fs.length).map fun k=>aPj p k+aMm p i k
theorem qQ {i k:Nat} (hk:k<p.fs.length):(zK p i)[k]?=some (aPj p k+aMm p i k):=by
 unfold zK;rw[List.getElem?_map,List.getElem?_range hk];rfl
theorem xE (i k:Nat):aMm p (i+1) k=aMm p i k+if nW p.ns i=10∧p.fn[i]?=some k then 1 else 0:=by
 unfold aMm;rw[show List.range' 0 (i+1)=List.range' 0 i++[i] by
  have:=List.range'_append (s:=0) (m:=i) (n:=1) (step:=1);rw[←this];simp]
 rw[List.countP_append,List.countP_singleton];by_cases h1:nW p.ns i=10<;>by_cases h2:p.fn[i]?=some k<;>simp[h1,h2]
theorem aIw {k c d:Nat} (hin:∀y,y<p.ns.length→(p.fn[y]?=some k↔(c≤y∧y<d))) (hcd:c≤d):∀i,i≤p.ns.length→aMm p i k=if i≤c then 0 else jS p.ns c (min i d)
 | 0,_=>by simp[aMm]
 | i+1,hi=>by
  rw[xE,aIw hin hcd i (by omega)];have e:=hin i (by omega);by_cases h1:i+1≤c
  · rw[if_pos h1,if_pos (by omega),if_neg (show ¬(nW p.ns i=10∧p.fn[i]?=some k) from fun h=>by have:=e.1 h.2;omega)]
  · rw[if_neg h1]
    by_cases h2:i<d
    · have e2:p.fn[i]?=some k:=e.2 ⟨by omega,h2⟩
      rw[Nat.min_eq_left (by omega:i+1≤d)];have e3:jS p.ns c (i+1)=jS p.ns c i+jS p.ns i (i+1):=mU (by omega) (by omega);rw[e3,wT (gE (by omega:i<p.ns.length))];have e4:nW p.ns i=p.ns[i].kind:=by unfold nW;rw[gE (by omega:i<p.ns.length)];rfl
      rw[e4];by_cases h3:i≤c
      · have:i=c:=by omega
        subst this;rw[if_pos (Nat.le_refl _),kV];simp[e2]
      · rw[if_neg h3,Nat.min_eq_left (by omega:i≤d)]
        simp[e2]
    · rw[if_neg (show ¬(nW p.ns i=10∧p.fn[i]?=some k) from fun h=>h2 (e.1 h.2).2),Nat.min_eq_right (by omega:d≤i+1)]
      by_cases h3:i≤c
      · have:c=d:=by omega
        subst this;rw[if_pos h3,kV]
      · rw[if_neg h3,Nat.min_eq_right (by omega:d≤i)];rfl
theorem qP (i:Nat):(zK p i).length=p.fs.length:=by unfold zK;simp
theorem aFm (hi:nC p){i:Nat}{nd:aF} (hx:p.ns[i]?=some nd) (h:nd.kind=10):∃k v,p.fn[i]?=some k∧k<p.fs.length∧(zK p i)[k]?=some v∧p.slots[i]?=some (v:Int)∧zK p (i+1)=(zK p i).set k (v+1):=by
 have hlt:=(gK hx);obtain⟨h1,h2,h3,h4⟩:=hi.done.aPv (Nat.le_refl _);obtain⟨k,hk,_,hk2⟩:=h3 i (Nat.zero_le _) hlt;have hk3:k<p.fs.length:=by omega
 obtain⟨z,c,d,e1,e2,e3,e4,e5⟩:=h4 k p.fs[k] (gE hk3);rw[Nat.zero_add] at e2 e5;have hin:∀y,y<p.ns.length→(p.fn[y]?=some k↔(c≤y∧y<d)):=fun y hy=>e5 y (Nat.zero_le _) hy
 have hcd:=(hin i hlt).1 hk;have e6:=e2.lets i nd hcd.1 hcd.2 hx h;have e7:aMm p i k=jS p.ns c i:=by
   rw[aIw hin e2.le i (by omega)];by_cases h5:i≤c
   · have:i=c:=by omega
     subst this;rw[if_pos (Nat.le_refl _),kV]
   · rw[if_neg h5,Nat.min_eq_left (by omega)]
 have e8:aPj p k=p.fs[k].params.length:=by unfold aPj;rw[gE hk3];rfl
 refine⟨k,aPj p k+aMm p i k,hk,hk3,qQ hk3,by rw[e7,e8];exact e6,?_⟩;apply List.ext_getElem?
 intro j;by_cases hj:j<p.fs.length
 · rw[qQ hj,List.getElem?_set,xE]
   have hkn:nW p.ns i=10:=by unfold nW;rw[hx];exact h
   by_cases hjk:k=j
   · subst hjk
     have hk':p.fn[i]?=some k:=hk;simp only[if_true];rw[if_pos (⟨hkn,hk'⟩:nW p.ns i=10∧p.fn[i]?=some k),if_pos (by rw[qP];exact hk3),Nat.add_assoc]
   · rw[if_neg hjk,if_neg (show ¬(nW p.ns i=10∧p.fn[i]?=some j) from fun e=>hjk (by have h9:p.st.fn[i]?=some j:=e.2;rw[hk] at h9;injection h9)),qQ hj];rfl
 · rw[List.getElem?_eq_none (by rw[qP];omega),List.getElem?_eq_none (by simp[qP];omega)]
theorem jU (hi:nC p):p.sizes.length=p.fs.length:=(hi.done.aPv (Nat.le_refl _)).1
end
theorem mI {src:List UInt8}{p:fK} (h:eX src=some (.good p)):nC p∧parseM src=some (.good p.ns p.fs)∧dW p.ns p.fs = .good p:=by
 unfold eX at h;rw[mS] at h;obtain⟨r,hr,h⟩:=h;cases r with
 | bad p e=>cases h
 | good ns fs=>
  cases hc:dW ns fs with
  | bad e x=>
   simp only[hc] at h;split at h<;>cases h
  | good q=>
   simp only[hc] at h;injection h with h;subst h;obtain⟨h1,h2,h3⟩:=aBq (kP hr) hc;rw[h2,h3];exact⟨h1,hr,hc⟩
theorem uQ {p:fK} (hi:nC p):0<p.fs.length∧0<p.ns.length:=by
 have hh:=hi.heads;unfold lJ at hh;have hf:0<p.fs.length:=by
  cases hfs:p.fs with
  | nil=>rw[hfs] at hh;simp[dJ] at hh
  | cons f l=>simp
 refine⟨hf,?_⟩;obtain⟨c,hc,_⟩:=hi.tree.ok.bodies p.fs[0] (List.getElem_mem hf);have:=(gK hc);omega
structure PgF (g:PgV) (ub zb:Nat) (w:World):Prop where
 pg:xU g w
 ua:g.ua=some ⟨ub,0,none⟩
 un:g.un=g.p.ns.length
 za:g.za=some ⟨zb,0,none⟩
 zn:g.zn=g.p.fs.length
 fn:Own w 3 1 (.slice (some ⟨ub,0,none⟩) g.p.ns.length g.uc) g.p.ns.length (ints g.p.fn)
 sz:Own w 3 1 (.slice (some ⟨zb,0,none⟩) g.p.fs.length g.zc) g.p.fs.length (ints g.p.sizes)
section
variable {g:PgV}{ub zb:Nat}{w w':World}
theorem PgF.no (h:PgF g ub zb w) (f:Fr nob w w'):PgF g ub zb w':=⟨h.pg.no f,h.ua,h.un,h.za,h.zn,h.fn.fr f (fun _ _ x=>x),h.sz.fr f (fun _ _ x=>x)⟩
theorem uI {t b n c x k:Nat}{l:List Nat} (h:Own w t 1 (.slice (some ⟨b,0,none⟩) n c) n (ints l)) (hx:l[x]?=some k) (hl:x<n):w.cell? ⟨b,x,none⟩=some (.int .i64 (k:Nat)):=by
 obtain⟨b',e,hc⟩:=h.some (by omega);injection e with e;injection e with e;subst e;have:=hc x (.int .i64 (k:Nat)) (by unfold ints;rw[List.getElem?_map,hx];rfl);simpa using this
theorem PgF.fnc (h:PgF g ub zb w){x k:Nat} (hx:g.p.fn[x]?=some k):w.cell? ⟨ub,x,none⟩=some (.int .i64 (k:Nat)):=
 uI h.fn hx (by rw[←h.pg.is.lf];exact (gK hx))
theorem PgF.szc (h:PgF g ub zb w){x k:Nat} (hx:g.p.sizes[x]?=some k):w.cell? ⟨zb,x,none⟩=some (.int .i64 (k:Nat)):=
 uI h.sz hx (by rw[←jU h.pg.is];exact (gK hx))
theorem PgF.tyc (h:PgF g ub zb w){x k:Nat} (hx:g.p.types[x]?=some k):w.cell? ⟨g.tb,x,none⟩=some (.int .i64 (k:Nat)):=
 uI h.pg.types hx (by rw[←h.pg.is.lt];exact (gK hx))
theorem PgF.slc (h:PgF g ub zb w){x:Nat}{k:Int} (hx:g.p.slots[x]?=some k):w.cell? ⟨g.sb,x,none⟩=some (.int .i64 k):=by
 have hl:x<g.p.ns.length:=by rw[←h.pg.is.ls];exact (gK hx)
 rw[h.pg.slot hl];unfold aKo;rw[List.getD_eq_getElem?_getD,hx];rfl
theorem PgF.val (h:PgF g ub zb w):g.val = .agg #[.slice (some ⟨g.nb,0,none⟩) g.p.ns.length g.nc,.slice (some ⟨g.fb,0,none⟩) g.p.fs.length g.fc,.slice (some ⟨g.tb,0,none⟩) g.p.ns.length g.tc,.slice (some ⟨g.sb,0,none⟩) g.p.ns.length g.sc,.slice (some ⟨ub,0,none⟩) g.p.ns.length g.uc,.slice (some ⟨zb,0,none⟩) g.p.fs.length g.zc]:=by
 unfold PgV.val;rw[h.ua,h.un,h.za,h.zn]
end
theorem jG {w:World}{en:Ending}{p:fK} (h:kY w en (.good p)) (hi:nC p):∃(g:PgV) (ub zb:Nat),g.p=p∧PgF g ub zb w∧en = .returned (.tuple #[g.val,.int .i64 0,.int .i64 0]):=by
 obtain⟨nv,fv,tv,sv,uv,zv,lvs,pvs,he,h⟩:=h;obtain⟨h1,h2⟩:=uQ hi;obtain⟨A1,c1,rfl,_,_⟩:=h.tree.nodes.cap;obtain⟨A2,c2,rfl,_,_⟩:=h.tree.fns.cap;obtain⟨A3,c3,rfl,_,_⟩:=h.types.cap;obtain⟨A4,c4,rfl,_,_⟩:=h.slots.cap;obtain⟨A5,c5,rfl,_,_⟩:=h.fn.cap;obtain⟨A6,c6,rfl,_,_⟩:=h.sizes.cap;have ht:=h.types;have hs:=h.slots;have hu:=h.fn;have hz:=h.sizes;rw[hi.lt] at ht;rw[hi.ls] at hs;rw[hi.lf] at hu;rw[jU hi] at hz;obtain⟨b1,rfl,_⟩:=h.tree.nodes.some h2;obtain⟨b2,rfl,_⟩:=h.tree.fns.some h1;obtain⟨b3,rfl,_⟩:=ht.some h2;obtain⟨b4,rfl,_⟩:=hs.some h2;obtain⟨b5,rfl,_⟩:=hu.some h2;obtain⟨b6,rfl,_⟩:=hz.some h1;refine⟨⟨b1,c1,b2,c2,b3,c3,b4,c4,some ⟨b5,0,none⟩,p.ns.length,c5,some ⟨b6,0,none⟩,p.fs.length,c6,lvs,pvs,p⟩,b5,b6,rfl,⟨⟨hi,h.tree,ht,hs⟩,rfl,rfl,rfl,rfl,hu,hz⟩,?_⟩;rw[he,hi.lt,hi.ls,hi.lf,jU hi];rfl
theorem lS (src:List UInt8):∃r,eX src=some r:=by
 obtain⟨r,hr⟩:=nQ src;unfold eX;rw[hr];exact⟨_,rfl⟩
theorem wV (l:List Int) (k:Nat):(eH l)[k]?=l[k]?.map (Value.int .i64):=by unfold eH;rw[List.getElem?_map]
theorem Rd.at4 {w:World}{A:Option Addr}{n c:Nat}{xs:List Value} (h:Rd w 1 (.slice A n c) n xs){k:Nat}{u:Value} (hu:xs[k]?=some u):
  ∃g o,A=some ⟨g,o,none⟩∧w.cell? ⟨g,o+k,none⟩=some u:=by
 obtain⟨hl,A',c',hv,_,_,h3⟩:=h;injection hv with hA _ _;subst hA;have:=(gK hu);obtain⟨ad,rfl,hsp,hc⟩:=h3 (by omega);obtain⟨g,o,s⟩:=ad;simp only at hsp;subst hsp;exact⟨g,o,rfl,hc k u hu⟩
theorem aHy (A B:Option Addr) (n m c d:Nat) (l1 l2:List Int) (w:World) (h1:Rd w 1 (.slice A n c) n (eH l1)) (h2:Rd w 1 (.slice B m d) m (eH l2)):
   Calls Tryz.prog 37 #[.slice A n c,.slice B m d] w fun e w'=>e = .returned (.bool (decide (l1=l2)))∧∃k,w'=w.drewN k:=by
 have hn:l1.length=n:=by have:=h1.1;simpa[eH] using this
 have hm:l2.length=m:=by have:=h2.1;simpa[eH] using this
 have hcap:n≤9223372036854775807:=by
   obtain⟨_,_,hv,h3,h4⟩:=h1.slice;injection hv with _ _ hv;subst hv;unfold maxLen at h4;omega
 have HN:=hD hn;have HM:=hD hm;have H1:=hD h1;have H2:=hD h2;clear h1 h2 hn hm;by_cases hnm:n=m
 · subst hnm
   go_enter Tryz.func37,Tryz.ntmps37;go_wp2
   go_loopw [5] (fun i w'=>∃k:Nat,k≤n∧i = .int .i64 k∧l1.take k=l2.take k∧∃q,w'=w.drewN q) (fun i _=>n - (intOf i).toNat)
   case atStart=>exact⟨0,Nat.zero_le _,rfl,rfl,0,rfl⟩
   case round=>
    obtain⟨k,hk,rfl,ht,q,rfl⟩:=hrel;have HT:=hD ht;clear ht;by_cases hlt:k<n
    · obtain⟨v1,hv1⟩:∃v1,l1[k]?=some v1:=⟨_,gE (by have:=HN.out;omega)⟩
      obtain⟨v2,hv2⟩:∃v2,l2[k]?=some v2:=⟨_,gE (by have:=HM.out;omega)⟩;obtain⟨g1,o1,rfl,c1⟩:=H1.out.at4 (k:=k) (u:= .int .i64 v1) (by simp[wV,hv1]);obtain⟨g2,o2,rfl,c2⟩:=H2.out.at4 (k:=k) (u:= .int .i64 v2) (by simp[wV,hv2]);have hi:(k:Int)<(n:Int):=by omega
      have hi0:(0:Int)≤(k:Int):=by omega
      have V1:=hD hv1;have V2:=hD hv2;clear hv1 hv2;by_cases hv:v1=v2
      · subst hv
        go_wp2
        go_quiet (fail)
        go_wp2
        go_roundw
        case rel=>
         refine⟨k+1,by omega,by go_num,?_,_,rfl⟩;rw[List.take_add_one,List.take_add_one,HT.out,V1.out,V2.out]
        case measure=>simp[intOf];omega
      · have hb:(v1 != v2)=true:=by simpa using hv
        have HV:=hD hv;clear hv;go_wp2
        go_quiet (fail)
        go_wp2
        go_ret;refine⟨?_,_,World.drewN_drewN _ _ _⟩;have:¬l1=l2:=fun e=>by
         have a:=V1.out;have b:=V2.out;rw[e,b] at a;injection a with a;exact HV.out a.symm
        simp[this]
    · go_wp2
      go_ret;refine⟨?_,_,rfl⟩;have e:=HT.out;rw[List.take_of_length_le (by have:=HN.out;omega),List.take_of_length_le (by have:=HM.out;omega)] at e;simp[e]
 · have hb:((n:Int) != (m:Int))=true:=by simp;omega
   have HB:=hD hnm;clear hnm;go_enter Tryz.func37,Tryz.ntmps37;go_wp2
   go_ret;refine⟨?_,0,rfl⟩;have:¬l1=l2:=fun e=>HB.out (by rw[←HN.out,←HM.out,e])
   simp[this]
structure aRg (V:World→Prop):Prop where
 no:∀w w',V w→Fr nob w w'→V w'
 src:∀(src:ByteArray) (w:World),V w→src.size≤281474976710656→∀r:gP,eX src.data.toList=some r→Calls Tryz.prog 28 #[.string src] w fun en w'=>kY w' en r∧Fr nob w w'
end Go.Proofs.YtlbjicjinnnboaaGreatDoor
/- The program's Source, as the laws' walks ask for it. -/
namespace Go.Proofs.YtlbjicjinnnboaaGreatDoor
open Go.RowKit
theorem aQw:aRg aAg:=⟨fun _ _ h f=>h.no f,fun src w hv hs _ hr=>yR src w hv hs hr⟩
open Pw
section
variable (ns:List aF) (types:List Nat) (slots:List Int) (node:Nat)
def oD (rec:Nat→List dL→Bool×List dL):List Nat→List dL→Bool×List dL
 | [],vs=>(false,vs)
 | y :: l,vs=>if (rec y vs).1=true then (true,(rec y vs).2) else oD rec l (rec y vs).2
def aQn (nd:aF) (x:Nat):dL:=⟨nd.name,types.getD (nd.l.headD 0) 0,(slots.getD x 0).toNat⟩
def mD (rec:Nat→List dL→Bool×List dL):List Nat→List dL→Bool×List dL
 | [],vs=>(false,vs)
 | x :: l,vs=>if x=node then (true,vs) else match ns[x]? with
  | none=>(false,vs)
  | some nd=>if nd.kind=10 then mD rec l (vs++[aQn types slots nd x])
   else if nd.kind=15∨nd.kind=16 then (if (oD rec nd.l.tail vs).1=true then (true,(oD rec nd.l.tail vs).2) else mD rec l (oD rec nd.l.tail vs).2)
   else mD rec l vs
def vL:Nat→Nat→List dL→Bool×List dL
 | 0,_,vs=>(false,vs)
 | f+1,x,vs=>match ns[x]? with
  | none=>(false,vs)
  | some nd=>if (mD ns types slots node (vL f) nd.l vs).1=true then (true,(mD ns types slots node (vL f) nd.l vs).2) else (false,(mD ns types slots node (vL f) nd.l vs).2.take vs.length)
def aQe (r:Bool×List dL) (vs:List dL):Prop:=∃t,r.2=vs++t
variable {ns types slots node}
theorem aCa {rec:Nat→List dL→Bool×List dL} (h:∀y v,aQe (rec y v) v):∀(l:List Nat) (vs:List dL),aQe (oD rec l vs) vs
 | [],vs=>⟨[],by simp[oD]⟩
 | y :: l,vs=>by
  obtain⟨t,ht⟩:=h y vs;unfold oD;split
  · exact⟨t,ht⟩
  · obtain⟨t2,h2⟩:=aCa h l (rec y vs).2
    exact⟨t++t2,by rw[h2,ht,List.append_assoc]⟩
theorem mF {rec:Nat→List dL→Bool×List dL} (h:∀y v,aQe (rec y v) v):∀(l:List Nat) (vs:List dL),aQe (mD ns types slots node rec l vs) vs
 | [],vs=>⟨[],by simp[mD]⟩
 | x :: l,vs=>by
  unfold mD;split
  · exact⟨[],by simp⟩
  · split
    · exact⟨[],by simp⟩
    · rename_i nd _
      split
      · obtain⟨t,ht⟩:=mF h l (vs++[aQn types slots nd x])
        exact⟨[aQn types slots nd x]++t,by rw[ht,List.append_assoc]⟩
      · split
        · obtain⟨t,ht⟩:=aCa h nd.l.tail vs
          split
          · exact⟨t,ht⟩
          · obtain⟨t2,h2⟩:=mF h l (oD rec nd.l.tail vs).2
            exact⟨t++t2,by rw[h2,ht,List.append_assoc]⟩
        · exact mF h l vs
theorem aAl:∀(f x:Nat) (vs:List dL),aQe (vL ns types slots node f x vs) vs
 | 0,x,vs=>⟨[],by simp[vL]⟩
 | f+1,x,vs=>by
  unfold vL;split
  · exact⟨[],by simp⟩
  · rename_i nd _
    obtain⟨t,ht⟩:=mF (ns:=ns) (types:=types) (slots:=slots) (node:=node) (aAl f) nd.l vs;split
    · exact⟨t,ht⟩
    · exact⟨[],by dsimp only;rw[ht];simp⟩
theorem aKc (f x:Nat) (vs:List dL) (h:(vL ns types slots node f x vs).1=false):(vL ns types slots node f x vs).2=vs:=by
 cases f with
 | zero=>rfl
 | succ f=>
  unfold vL at h ⊢;split
  · rfl
  · rename_i nd hnd
    rw[hnd] at h;dsimp only at h;obtain⟨t,ht⟩:=mF (ns:=ns) (types:=types) (slots:=slots) (node:=node) (aAl f) nd.l vs;split
    · rename_i h1;rw[if_pos h1] at h;cases h
    · dsimp only;rw[ht];simp
theorem aCb {rec:Nat→List dL→Bool×List dL}{vs:List dL}:∀{l:List Nat}{j y:Nat},(∀g∈l.take j,(rec g vs).1=false∧(rec g vs).2=vs)→l[j]?=some y→(rec y vs).1=true→oD rec l vs=(true,(rec y vs).2)
 | [],j,y,_,h,_=>by simp at h
 | a :: l,0,y,_,h,h1=>by simp at h;subst h;unfold oD;rw[if_pos h1]
 | a :: l,j+1,y,hg,h,h1=>by
  obtain⟨q1,q2⟩:=hg a (by simp);unfold oD;rw[if_neg (by rw[q1];decide),q2];exact aCb (j:=j) (fun g hg'=>hg g (by rw[List.take_succ_cons];exact List.mem_cons_of_mem _ hg')) (by simpa using h) h1
theorem xM {rec:Nat→List dL→Bool×List dL}{vs:List dL}:∀{l:List Nat},(∀g∈l,(rec g vs).1=false∧(rec g vs).2=vs)→oD rec l vs=(false,vs)
 | [],_=>rfl
 | a :: l,hg=>by
  obtain⟨q1,q2⟩:=hg a (by simp);unfold oD;rw[if_neg (by rw[q1];decide),q2];exact xM (fun g hg'=>hg g (by simp[hg']))
end
section
variable {F:Nat}{caps:Array Value}{S:List dL→World→Prop}{rec:Nat→List dL→Bool×List dL}{vs:List dL}{w:World}{b o c:Nat}{l:List Nat}
theorem aHz (hen:Enters Tryz.prog F) (hone:∀y∈l,∀w',S vs w'→Calls Tryz.prog F (#[.int .i64 (y:Nat)]++caps) w' fun en w2=>en = .returned (.bool (rec y vs).1)∧S (rec y vs).2 w2)
  (hfix:∀y∈l,(rec y vs).1=false→(rec y vs).2=vs) (hrow:∀w',S vs w'→∀j y,l[j]?=some y→w'.cell? ⟨b,o+j,none⟩=some (.int .i64 (y:Nat))) (hl:l.length≤300) (h:S vs w):
  Calls Tryz.prog 102 #[.slice (some ⟨b,o,none⟩) l.length c,.func (.func F) #[] caps] w fun en w'=>∃z:Int,en = .returned (.int .i64 z)∧decide (0≤z)=(oD rec l vs).1∧S (oD rec l vs).2 w':=by
 have HONE:=hD hone;have HFIX:=hD hfix;have HROW:=hD hrow;have S0:=hD h;have hml:(l.length:Int)≤300:=by omega
 generalize hm:l.length=m at *;have HMM:=hD hm;clear hone hfix hrow h hm;go_enter Tryz.func102,Tryz.ntmps102;go_wp2_with fail
 go_loopw [8] (fun i wr=>∃j:Nat,j≤m∧i = .int .i64 j∧Hid (∀g∈l.take j,(rec g vs).1=false∧(rec g vs).2=vs)∧Hid (S vs wr)) (fun i _=>m - (intOf i).toNat)
 case atStart=>exact⟨0,Nat.zero_le _,rfl,hD (by simp),S0⟩
 case round=>
  clear S0;obtain⟨j,hj,rfl,HA,SS⟩:=hrel;by_cases hlt:j<m
  · have hlt2:(j:Int)<(m:Int):=by omega
    obtain⟨y,hy⟩:∃y,l[j]?=some y:=⟨_,gE (by have:=HMM.out;omega)⟩;have e0:=HROW.out wr SS.out j y hy;have HC:=hD (HONE.out y (List.mem_of_getElem? hy) wr SS.out);have HY:=hD hy;have HJ:=hD hlt;obtain⟨z,hz⟩:∃z,(rec y vs).1=z:=⟨_,rfl⟩;rw[hz] at HC;have HQ:=hD hz;clear hy hz hlt hj;cases z with
    | true=>
     go_wp2_with fail
     rw[hen];go_wp2_with fail
     refine HC.out.mono ?_;rintro e w2 ⟨rfl,hf2⟩;have S2:=hD hf2;clear hf2;go_wp2_with fail
     go_ret;rw[aCb HA.out HY.out HQ.out];exact⟨_,rfl,by simp,S2.out⟩
    | false=>
     have HR:=hD (HFIX.out y (List.mem_of_getElem? HY.out) HQ.out);go_wp2_with fail
     rw[hen];go_wp2_with fail
     refine HC.out.mono ?_;rintro e w2 ⟨rfl,hf2⟩;have S2:=hD (show S vs w2 from by rw[HR.out] at hf2;exact hf2);have HA2:=hD (show ∀g∈l.take (j+1),(rec g vs).1=false∧(rec g vs).2=vs from fun g hg=>by
      rw[List.take_add_one,HY.out] at hg;rcases List.mem_append.1 hg with hg|hg
      · exact HA.out g hg
      · simp at hg;subst hg;exact⟨HQ.out,HR.out⟩)
     clear hf2 e0 HC HA SS;go_wp2_with fail
     go_roundw
     case rel=>exact⟨j+1,by have:=HJ.out;omega,by go_num,HA2,S2⟩
     case measure=>simp[intOf];have:=HJ.out;omega
  · have hlt2:¬(j:Int)<(m:Int):=by omega
    have hj2:j=m:=by omega
    subst hj2;clear hj hlt;go_wp2_with fail
    go_ret;rw[xM (fun g hg=>HA.out g (by rw[List.take_of_length_le (by have:=HMM.out;omega)];exact hg))];exact⟨_,rfl,by simp,SS.out⟩
theorem aEi (hen:Enters Tryz.prog F) (hone:∀y∈l,∀w',S vs w'→Calls Tryz.prog F (#[.int .i64 (y:Nat)]++caps) w' fun en w2=>en = .returned (.bool (rec y vs).1)∧S (rec y vs).2 w2)
  (hfix:∀y∈l,(rec y vs).1=false→(rec y vs).2=vs) (hrow:∀w',S vs w'→∀j y,l[j]?=some y→w'.cell? ⟨b,o+j,none⟩=some (.int .i64 (y:Nat))) (hl:l.length≤300) (h:S vs w):
  Calls Tryz.prog 64 #[.slice (some ⟨b,o,none⟩) l.length c,.func (.func F) #[] caps] w fun en w'=>en = .returned (.bool (oD rec l vs).1)∧S (oD rec l vs).2 w':=by
 have HC:=hD (aHz (c:=c) hen hone hfix hrow hl h);generalize l.length=m at *;clear hone hfix hrow hl h;go_enter Tryz.func64,Tryz.ntmps64;go_wp2_with fail
 refine HC.out.mono ?_;rintro en w2 ⟨z,rfl,hz,hs⟩;have HZ:=hD hz;have S2:=hD hs;clear hz hs HC;go_wp2_with fail
 go_ret;refine⟨?_,S2.out⟩;rw[←HZ.out]
 first|rfl|simp
end
def pR (V P N FN:Nat):Array Value:=#[.pointer (some ⟨V,0,none⟩),.pointer (some ⟨P,0,none⟩),.pointer (some ⟨N,0,none⟩),.pointer (some ⟨FN,0,none⟩)]
structure Vw (g:PgV) (w0:World) (V P N FN node:Nat) (vs:List dL) (w:World):Prop where
 fr:Fr nob w0 w
 vc:∃A c,Blk w V 58 #[.slice A vs.length c]∧Own w 62 3 (.slice A vs.length c) vs.length (bB vs)∧∀b,blk (.slice A vs.length c)=some b→w0.heap.size≤b
 hV:w0.heap.size≤V
 pc:Blk w P 29 #[.slice (some ⟨g.nb,0,none⟩) g.p.ns.length g.nc,.slice (some ⟨g.fb,0,none⟩) g.p.fs.length g.fc,.slice (some ⟨g.tb,0,none⟩) g.p.ns.length g.tc,.slice (some ⟨g.sb,0,none⟩) g.p.ns.length g.sc,.slice g.ua g.un g.uc,.slice g.za g.zn g.zc]
 nc:Blk w N 3 #[.int .i64 (node:Nat)]
 fc:Blk w FN 74 #[.func (.func 63) #[] (pR V P N FN)]
section
variable {g:PgV}{w0 w w1 w':World}{V P N FN node:Nat}{vs:List dL}
theorem Vw.no (h:Vw g w0 V P N FN node vs w) (f:Fr nob w w'):Vw g w0 V P N FN node vs w':=by
 obtain⟨A,c,hb,ho,hn⟩:=h.vc;exact⟨h.fr.tr f,⟨A,c,hb.fr f (fun x=>x),ho.fr f (fun _ _ x=>x),hn⟩,h.hV,h.pc.fr f (fun x=>x),h.nc.fr f (fun x=>x),h.fc.fr f (fun x=>x)⟩
theorem Vw.set (h:Vw g w0 V P N FN node vs w){A:Option Addr}{c:Nat}{us:List dL} (ho:Own w 62 3 (.slice A us.length c) us.length (bB us)) (hn:∀b,blk (.slice A us.length c)=some b→w0.heap.size≤b):Vw g w0 V P N FN node us (w.setCell ⟨V,0,none⟩ (.slice A us.length c)):=by
 obtain⟨A',c',hb,_,_⟩:=h.vc;have f:Fr (bZ V) w (w.setCell ⟨V,0,none⟩ (.slice A us.length c)):=(Fr.refl _ w).setCell _ _ (fun _=>rfl);exact⟨h.fr.trans f (fun _ _ x=>x) (fun b hlt hm=>by have hm:b=V:=hm;have:=h.hV;omega),⟨A,c,hb.setCell 0 _,ho.far (p:=⟨V,0,none⟩) (ho.aG hb (by decide)) _,hn⟩,h.hV,
  h.pc.far (p:=⟨V,0,none⟩) (h.pc.ne hb (by decide)) _,h.nc.far (p:=⟨V,0,none⟩) (h.nc.ne hb (by decide)) _,h.fc.far (p:=⟨V,0,none⟩) (h.fc.ne hb (by decide)) _⟩
theorem Vw.app (h:Vw g w0 V P N FN node vs w){A:Option Addr}{c:Nat} (hc:w.cell? ⟨V,0,none⟩=some (.slice A vs.length c)) (f1:Fr nob w w1){v:dL}{A6:Option Addr}{c6:Nat}{w6:World} (ho6:Own w6 62 3 (.slice A6 (vs.length+1) c6) (vs.length+1) (bB vs++[.string (bs v.name),.int .i64 (v.ty:Nat),.int .i64 (v.slot:Nat)]))
  (hf6:Fr (obl (blk (.slice A vs.length c))) w1 w6) (hv6:blk (.slice A6 (vs.length+1) c6)=blk (.slice A vs.length c)∨blk (.slice A6 (vs.length+1) c6)=some w1.heap.size):
  Vw g w0 V P N FN node (vs++[v]) (w6.setCell ⟨V,0,none⟩ (.slice A6 (vs.length+1) c6))∧w6.frozen? ⟨V,0,none⟩=false∧V<w6.heap.size∧w6.cell? ⟨V,0,none⟩=some (.slice A vs.length c):=by
 have h1:=h.no f1;obtain⟨A',c',hb,ho,hn⟩:=h.vc;have e:w.cell? ⟨V,0,none⟩=some (.slice A' vs.length c'):=(hb.cell 0).trans rfl;rw[hc] at e;injection e with e;injection e with e1 _ e2;subst e1;subst e2;have ho1:=ho.fr f1 (fun _ _ x=>x);have hb1:=hb.fr f1 (fun x=>x);have hb6:=hb1.fr hf6 (fun hm=>ho1.aG hb1 (by decide) hm);have n1:∀b,blk (.slice A6 (vs.length+1) c6)=some b→w0.heap.size≤b:=fun b hb=>by
  rcases hv6 with e|e
  · exact hn b (e ▸ hb)
  · rw[e] at hb;injection hb with hb
    have:=h1.fr.size;omega
 have hlen:(vs++[v]).length=vs.length+1:=by simp
 have f6:Fr nob w0 w6:=h1.fr.trans hf6 (fun _ _ x=>x) (fun b hlt hm=>by have:=hn b hm;omega);have f:Fr (bZ V) w6 (w6.setCell ⟨V,0,none⟩ (.slice A6 (vs.length+1) c6)):=(Fr.refl _ w6).setCell _ _ (fun _=>rfl);have p6:=h1.pc.fr hf6 (fun hm=>ho1.aG h1.pc (by decide) hm);have q6:=h1.nc.fr hf6 (fun hm=>ho1.aG h1.nc (by decide) hm);have r6:=h1.fc.fr hf6 (fun hm=>ho1.aG h1.fc (by decide) hm);refine⟨⟨f6.trans f (fun _ _ x=>x) (fun b hlt hm=>by have hm:b=V:=hm;have:=h.hV;omega),⟨A6,c6,by rw[hlen];exact hb6.setCell 0 _,?_,by rw[hlen];exact n1⟩,h.hV,
  p6.far (p:=⟨V,0,none⟩) (p6.ne hb6 (by decide)) _,q6.far (p:=⟨V,0,none⟩) (q6.ne hb6 (by decide)) _,r6.far (p:=⟨V,0,none⟩) (r6.ne hb6 (by decide)) _⟩,hb6.frozen 0,hb6.lt,(hb6.cell 0).trans rfl⟩
 rw[hlen,jE];exact ho6.far (p:=⟨V,0,none⟩) (ho6.aG hb6 (by decide)) _
theorem Vw.cells (h:Vw g w0 V P N FN node vs w):w.cell? ⟨P,0,none⟩=some (.slice (some ⟨g.nb,0,none⟩) g.p.ns.length g.nc)∧w.cell? ⟨P,2,none⟩=some (.slice (some ⟨g.tb,0,none⟩) g.p.ns.length g.tc)∧w.cell? ⟨P,3,none⟩=some (.slice (some ⟨g.sb,0,none⟩) g.p.ns.length g.sc) ∧
  w.cell? ⟨N,0,none⟩=some (.int .i64 (node:Nat))∧w.cell? ⟨FN,0,none⟩=some (.func (.func 63) #[] (pR V P N FN))∧∃A c,w.cell? ⟨V,0,none⟩=some (.slice A vs.length c)∧Own w 62 3 (.slice A vs.length c) vs.length (bB vs)∧vs.length≤c∧∀b,blk (.slice A vs.length c)=some b→w0.heap.size≤b:=by
 obtain⟨A,c,hb,ho,hn⟩:=h.vc;exact⟨(h.pc.cell 0).trans rfl,(h.pc.cell 2).trans rfl,(h.pc.cell 3).trans rfl,(h.nc.cell 0).trans rfl,(h.fc.cell 0).trans rfl,A,c,(hb.cell 0).trans rfl,ho,ho.oU.1,hn⟩
theorem xU.aHn (PG:xU g w0){x:Nat}{nd:aF} (hx:g.p.ns[x]?=some nd):∃A c,Own w0 3 1 (.slice A nd.l.length c) nd.l.length (ints nd.l)∧nd.l.length≤c∧∀w,Fr nob w0 w→w.cell? ⟨g.nb,x*5,none⟩=some (.int .i64 nd.kind)∧w.cell? ⟨g.nb,x*5+1,none⟩=some (.int .i64 nd.line)∧w.cell? ⟨g.nb,x*5+2,none⟩=some (.int .i64 nd.n)∧w.cell? ⟨g.nb,x*5+3,none⟩=some (.string (bs nd.name))∧w.cell? ⟨g.nb,x*5+4,none⟩=some (.slice A nd.l.length c):=by
 have T:=PG.tree;have hlt:=(gK hx);obtain⟨lv,hlv⟩:∃lv,g.lvs[x]?=some lv:=⟨_,gE (by have:=T.same;omega)⟩;obtain⟨ho,-⟩:=T.node3 hx hlv;obtain⟨A,c,rfl,hc,_⟩:=ho.cap;exact⟨A,c,ho,hc,fun w f=>((T.no f).node3 hx hlv).2⟩
theorem zV:Enters Tryz.prog 63:=enters_of Tryz.func63 (by kernel_rfl) rfl
inductive StV (p:fK) (y:Nat):aF→Prop where
 | let_ (line:Nat) (nm:List UInt8) (a t k:Nat) (h:p.types[a]?=some t) (h2:p.slots[y]?=some (k:Int)) (ha:a<p.ns.length):StV p y ⟨10,line,0,nm,[a]⟩
 | test (kind line:Nat) (a:Nat) (m:List Nat) (hk:kind=15∨kind=16) (h:∀b∈m,b<y∧∃nd,p.ns[b]?=some nd∧nd.kind=18) (hm:m.length≤300) (hm0:1≤m.length):StV p y ⟨kind,line,0,[],a :: m⟩
 | other (nd:aF) (h0:nd.kind≠10) (h1:nd.kind≠15) (h2:nd.kind≠16):StV p y nd
end
end Go.Proofs.YtlbjicjinnnboaaGreatDoor
/- A region whose last operation waits for all others: what is held needs not to be held behind it. -/
namespace Go.Proofs.YtlbjicjinnnboaaGreatDoor
open Go
section
variable {P:Program}{ops:Array Oper}{Q:Exit→Act→World→Prop}{md:Region.Mode}{S:World→Prop}
def aJf (md:Region.Mode) (ops:Array Oper):Bool:=
 (List.range ops.size).all fun j=>((ops[j]?).map fun o=>o.after.all fun e=> !Region.binds md e || decide (e.on<j)).getD true
theorem kX (h:aJf md ops=true){j:Nat}{o:Oper} (ho:ops[j]?=some o):∀e∈o.after,Region.binds md e=true→e.on<j:=by
 intro e he hb;have hj:j<ops.size:=(Array.getElem?_eq_some_iff.1 ho).1;have h1:=List.all_eq_true.1 h j (List.mem_range.2 hj);rw[ho] at h1;simp only[Option.map_some,Option.getD_some] at h1;have h2:=Array.all_eq_true_iff_forall_mem.1 h1 e he;rw[hb] at h2;simpa using h2
def lastB (md:Region.Mode) (ops:Array Oper) (L:Nat):Bool:=decide (L+1=ops.size) && aJf md ops && Region.sinkB md ops L
structure aJv (md:Region.Mode) (ops:Array Oper) (L:Nat) (listed:Array Bool):Prop where
 size:listed.size=ops.size
 closed:∀j oj,ops[j]?=some oj→listed.getD j false=true→∀e∈oj.after,Region.binds md e=true→listed.getD e.on false=true
 last:listed.getD L true=false
def aLv (P:Program) (ops:Array Oper) (Q:Exit→Act→World→Prop) (L:Nat):Exit→Act→World→Prop
 | .normal,a,w=>wpOp P ops Q L (fun a w=>Q .normal a w) a w
 | e,a,w=>Q e a w
theorem wX {listed:Array Bool}{i:Nat} (hi:i<listed.size) (h:listed.getD i true=true):listed.getD i false=true:=by
 simp[hi] at h ⊢;exact h
theorem aJv.full {L:Nat}{listed:Array Bool} (hs:Region.sinkB md ops L=true) (hL:L+1=ops.size) (inv:aJv md ops L listed) (hr:L∈Region.ready md ops listed):∀k i,i+k=L→0<k→listed.getD i false=true:=by
 intro k;induction k using Nat.strongRecOn with
 | ind k ih=>
  intro i hik hk;have h1:=List.all_eq_true.1 hs i (List.mem_range.2 (by omega));obtain⟨j,hj,hw⟩:=List.any_eq_true.1 h1;rw[List.mem_range] at hj;simp only[Bool.and_eq_true,decide_eq_true_eq] at hw;obtain⟨oj,hoj,e,he,hb,rfl⟩:=Region.waitsFor_spec hw.2;by_cases hjL:j=L
  · subst hjL
    obtain⟨_,o,ho,hall⟩:=mem_ready.1 hr;rw[hoj] at ho;injection ho with ho;subst ho;exact hall e he hb
  · exact inv.closed j oj hoj (ih (L - j) (by omega) j (by omega) (by omega)) e he hb
theorem aJv.set {L i:Nat}{listed:Array Bool} (inv:aJv md ops L listed) (hi:i∈Region.ready md ops listed) (hiL:i≠L):aJv md ops L (listed.setIfInBounds i true):=by
 obtain⟨_,oi,hoi,hall⟩:=mem_ready.1 hi;refine⟨by simp[inv.size],fun j oj hj hl e he hb=>?_,by rw[getD_set_ne true hiL];exact inv.last⟩;have up:∀m,listed.getD m false=true→(listed.setIfInBounds i true).getD m false=true:=fun m hm=>by
   by_cases h:i=m
   · subst h
     have:i<listed.size:=by
      rcases Nat.lt_or_ge i listed.size with h'|h'
      · exact h'
      · simp[Array.getElem?_eq_none h'] at hm
     simp[this]
   · rw[getD_set_ne false h];exact hm
 by_cases hij:i=j
 · subst hij
   have:oj=oi:=Option.some.inj (hj.symm.trans hoi);subst this;exact up _ (hall e he hb)
 · rw[getD_set_ne false hij] at hl
   exact up _ (inv.closed j oj hj hl e he hb)
theorem sM {L:Nat}{listed:Array Bool} (hb:aJf md ops=true) (hL:L+1=ops.size) (inv:aJv md ops L listed){i:Nat} (hiL:i≠L) (h:i∈Region.ready md ops listed):i∈Region.ready md ops (listed.setIfInBounds L true):=by
 obtain⟨h0,o,ho,hall⟩:=mem_ready.1 h;have hlt:i<ops.size:=(Array.getElem?_eq_some_iff.1 ho).1;refine mem_ready.2 ⟨by rw[getD_set_ne true (Ne.symm hiL)];exact h0,o,ho,fun e he hbe=>?_⟩;have:=kX hb ho e he hbe;rw[getD_set_ne false (by omega)];exact hall e he hbe
theorem aDa {L:Nat}{listed:Array Bool} (hb:aJf md ops=true) (hL:L+1=ops.size) (inv:aJv md ops L listed){i:Nat} (h:i∈Region.ready md ops (listed.setIfInBounds L true)):i≠L∧i∈Region.ready md ops listed:=by
 obtain⟨h0,o,ho,hall⟩:=mem_ready.1 h;have hlt:i<ops.size:=(Array.getElem?_eq_some_iff.1 ho).1;have hiL:i≠L:=fun e=>by
  subst e;have:=inv.size;simp[show i<listed.size by omega] at h0
 refine⟨hiL,mem_ready.2 ⟨by rw[getD_set_ne true (Ne.symm hiL)] at h0;exact h0,o,ho,fun e he hbe=>?_⟩⟩;have:=kX hb ho e he hbe;have h2:=hall e he hbe;rw[getD_set_ne false (by omega)] at h2;exact h2
theorem sK {L:Nat}{listed:Array Bool} (hb:aJf md ops=true) (hL:L+1=ops.size) (inv:aJv md ops L listed):Region.ready md ops listed≠[]:=by
 intro h;have key:∀k,k<ops.size→listed.getD k false=true:=by
  intro k;induction k using Nat.strongRecOn with
  | ind k ih=>
   intro hk;cases hc:listed.getD k true with
   | true=>exact wX (by have:=inv.size;omega) hc
   | false=>
    obtain⟨o,ho⟩:∃o,ops[k]?=some o:=⟨_,Array.getElem?_eq_getElem hk⟩;have:k∈Region.ready md ops listed:=mem_ready.2 ⟨hc,o,ho,fun e he hbe=>ih e.on (kX hb ho e he hbe) (by have:=kX hb ho e he hbe;omega)⟩;rw[h] at this;cases this
 have h1:=key L (by omega);have h2:=inv.last;have:=inv.size;simp[show L<listed.size by omega] at h1 h2
 rw[h1] at h2;cases h2
theorem aCe {L i:Nat}{K:Act→World→Prop}{a:Act}{w:World} (h:wpOp P ops (aLv P ops Q L) i K a w):wpOp P ops Q i K a w:=by
 unfold wpOp at *;split
 · rename_i ho;simpa[ho] using h
 · rename_i o ho
   simp only[ho] at h;split
   · rename_i hw
     simp only[hw,if_true] at h;refine h.imp (fun h=>?_) (fun h=>h);unfold Oper.wp at *;generalize (execOp a.eval o).run P w=r at *;cases r with
     | ok n w'=>
      cases n<;>simp only[Oper.upon] at h ⊢ <;>first
       | exact h
       | exact Calls.mono h (fun e w'' he=>by cases e<;>exact he)
     | halt x w'=>cases x<;>simp only[Oper.upon] at h ⊢ <;>exact h
   · rename_i hw;simpa[hw] using h
theorem aCf {L:Nat} (hB:lastB md ops L=true):∀(fuel:Nat) (listed:Array Bool) (a:Act) (w:World),aJv md ops L listed →
  wpAny P md ops (aLv P ops Q L) fuel (listed.setIfInBounds L true) a w→wpAny P md ops Q (fuel+1) listed a w:=by
 simp only[lastB,Bool.and_eq_true,decide_eq_true_eq] at hB;obtain⟨⟨hL,hb⟩,hs⟩:=hB;intro fuel;induction fuel with
 | zero=>
  intro listed a w inv H;refine⟨fun h=>absurd h (sK hb hL inv),fun i hi=>?_⟩;by_cases hiL:i=L
  · subst hiL
    exact wpOp_mono (fun a' w' hq=>⟨H.1,hq⟩) H.2
  · have:=sM hb hL inv hiL hi
    rw[H.1] at this;cases this
 | succ fuel ih=>
  intro listed a w inv H;refine⟨fun h=>absurd h (sK hb hL inv),fun i hi=>?_⟩;by_cases hiL:i=L
  · subst hiL
    have full:=inv.full hs hL hi;have hnone:Region.ready md ops (listed.setIfInBounds i true)=[]:=by
     rw[List.eq_nil_iff_forall_not_mem];intro j hj;obtain⟨hji,hjr⟩:=aDa hb hL inv hj;obtain⟨h0,o,ho,_⟩:=mem_ready.1 hjr;have hlt:j<ops.size:=(Array.getElem?_eq_some_iff.1 ho).1;have h1:=full (i - j) j (by omega) (by omega);have:=inv.size;simp[show j<listed.size by omega] at h0 h1
     rw[h0] at h1;cases h1
    exact wpOp_mono (fun a' w' hq=>⟨fun _=>hq,by rw[hnone];simp⟩) (H.1 hnone)
  · have h1:=aCe (H.2 i (sM hb hL inv hiL hi))
    refine wpOp_mono (fun a' w' h2=>ih _ a' w' (inv.set hi hiL) ?_) h1;rw[Array.setIfInBounds_comm _ _ hiL];exact h2
theorem rJ {id:Nat}{a:Act}{w:World} (S:World→Prop) (L:Nat) (hm:P.follows .mixedOrders=true) (hB:lastB .any ops L=true) (hS:S w.drew)
  (h:S w.drew→wpAnyH P .any ops (aLv P ops Q L) S L ((Array.replicate ops.size false).setIfInBounds L true) a w.drew):(Code.region id ops true).wp P Q a w:=by
 have hL:L+1=ops.size:=by
  simp only[lastB,Bool.and_eq_true,decide_eq_true_eq] at hB;exact hB.1.1
 refine wp_region_any hm ?_;have inv:aJv .any ops L (Array.replicate ops.size false):=⟨by simp,fun j oj hj hl=>by
  exfalso
  have hlt:j<ops.size:=(Array.getElem?_eq_some_iff.1 hj).1;simp[hlt] at hl,by simp[show L<ops.size by omega]⟩
 have:=aCf hB L _ a w.drew inv (wpAny_of_held _ _ _ _ (h hS));rw[hL] at this;exact this
theorem aEa {L:Nat}{o:Oper}{a:Act}{w:World} (ho:ops[L]?=some o)
 (h:∀K:Act→World→Prop,(∀a w,Q .normal a w→K a w)→if Region.wanted o (yielded ops a.tmps)=true then Oper.wp P o a w K Q else K (a.put o.dst undef) w):aLv P ops Q L .normal a w:=wpOp_step ho h
end
end Go.Proofs.YtlbjicjinnnboaaGreatDoor
/- The program's Visible: its closure walked. -/
namespace Go.Proofs.YtlbjicjinnnboaaGreatDoor
open Go.RowKit
open Pw
section
variable {g:PgV}{w0 w:World}{V P N FN node:Nat}{vs:List dL}
variable {ns:List aF}{types:List Nat}{slots:List Int}{rec:Nat→List dL→Bool×List dL}
theorem aKb {l:List Nat}{y:Nat} (v:List dL) (h:y=node):mD ns types slots node rec (y :: l) v=(true,v):=by
 unfold mD;rw[if_pos h]
theorem aKa {l:List Nat}{y line a:Nat}{nm:List UInt8} (v:List dL) (h:y≠node) (hy:ns[y]?=some ⟨10,line,0,nm,[a]⟩){t k:Nat} (ht:types[a]?=some t) (hk:slots[y]?=some (k:Int)):
  mD ns types slots node rec (y :: l) v=mD ns types slots node rec l (v++[⟨nm,t,k⟩]):=by
 conv=>lhs;unfold mD
 rw[if_neg h,hy];dsimp only;rw[if_pos rfl];unfold aQn;dsimp only;rw[show [a].headD 0=a from rfl,List.getD_eq_getElem?_getD,ht,List.getD_eq_getElem?_getD,hk];rfl
theorem aFa {l m:List Nat}{y kind line a:Nat} (v:List dL) (h:y≠node) (hk:kind=15∨kind=16) (hy:ns[y]?=some ⟨kind,line,0,[],a :: m⟩):
  mD ns types slots node rec (y :: l) v=if (oD rec m v).1=true then (true,(oD rec m v).2) else mD ns types slots node rec l (oD rec m v).2:=by
 conv=>lhs;unfold mD
 rw[if_neg h,hy];dsimp only;rw[if_neg (by omega),if_pos hk];rfl
theorem aCh {l:List Nat}{y:Nat}{nd:aF} (v:List dL) (h:y≠node) (hy:ns[y]?=some nd) (h0:nd.kind≠10) (h1:nd.kind≠15) (h2:nd.kind≠16):
  mD ns types slots node rec (y :: l) v=mD ns types slots node rec l v:=by
 conv=>lhs;unfold mD
 rw[if_neg h,hy];dsimp only;rw[if_neg h0,if_neg (by omega)]
theorem vJ (hfix:∀y v,(rec y v).1=false→(rec y v).2=v):∀(l:List Nat) (v:List dL),(oD rec l v).1=false→(oD rec l v).2=v
 | [],v,_=>rfl
 | y :: l,v,h=>by
  unfold oD at h ⊢;split
  · rename_i h1;rw[if_pos h1] at h;cases h
  · rename_i h1
    rw[if_neg h1] at h;have e:=hfix y v (by simpa using h1);rw[e] at h ⊢;exact vJ hfix l v h
def aOq (ns:List aF) (types:List Nat) (slots:List Int) (node:Nat) (rec:Nat→List dL→Bool×List dL) (l:List Nat) (vs:List dL):Bool×List dL:=
 if (mD ns types slots node rec l vs).1=true then (true,(mD ns types slots node rec l vs).2) else (false,(mD ns types slots node rec l vs).2.take vs.length)
theorem rG {l:List Nat}{v:List dL} (h:mD ns types slots node rec l vs=(true,v)):aOq ns types slots node rec l vs=(true,v):=by
 unfold aOq;rw[h,if_pos rfl]
theorem aEu {l:List Nat}{v:List dL} (h:mD ns types slots node rec l vs=(false,v)):aOq ns types slots node rec l vs=(false,v.take vs.length):=by
 unfold aOq;rw[h,if_neg (by simp)]
theorem aFb (PG:xU g w0){x line:Nat}{l:List Nat} (hx:g.p.ns[x]?=some ⟨18,line,0,[],l⟩) (hl3:l.length≤300) (hvs:vs.length≤190000)
  (hrec:∀y v w,y<x→(∃nd,g.p.ns[y]?=some nd∧nd.kind=18)→v.length≤vs.length+300→Vw g w0 V P N FN node v w→Calls Tryz.prog 63 (#[.int .i64 (y:Nat)]++pR V P N FN) w fun en w'=>en = .returned (.bool (rec y v).1)∧Vw g w0 V P N FN node (rec y v).2 w')
  (hfix:∀y v,(rec y v).1=false→(rec y v).2=v) (hst:∀y∈l,y<x∧∃nd,g.p.ns[y]?=some nd∧StV g.p y nd) (h:Vw g w0 V P N FN node vs w):
  Calls Tryz.prog 63 (#[.int .i64 (x:Nat)]++pR V P N FN) w fun en w'=>en = .returned (.bool (aOq g.p.ns g.p.types g.p.slots node rec l vs).1)∧Vw g w0 V P N FN node (aOq g.p.ns g.p.types g.p.slots node rec l vs).2 w':=by
 show Calls Tryz.prog 63 #[.int .i64 (x:Nat),.pointer (some ⟨V,0,none⟩),.pointer (some ⟨P,0,none⟩),.pointer (some ⟨N,0,none⟩),.pointer (some ⟨FN,0,none⟩)] w _
 have hx5:x<g.p.ns.length:=(gK hx);have hx4:(g.p.ns.length:Int)≤300:=by have:=PG.is.tree.ok.few;omega
 have hx3:(x:Int)<(g.p.ns.length:Int):=by omega
 have hl4:(l.length:Int)≤300:=by omega
 obtain⟨c0,-,-,-,-,A0,C0,c5,-,hc5,-⟩:=h.cells;obtain⟨LA,LC,hlo,-,ncx⟩:=PG.aHn hx;obtain⟨-,-,-,-,n4⟩:=ncx w h.fr;have HLO:=hD hlo;have h4:x*5+4<g.p.ns.length*5:=by omega
 have HPG:=hD PG;have HREC:=hD hrec;have HFIX:=hD hfix;have HST:=hD hst;have HS:=hD h;have hv3:(vs.length:Int)≤190000:=by omega
 obtain⟨m,hm⟩:∃m,vs.length=m:=⟨_,rfl⟩;have HM:=hD hm;rw[hm] at c5 hc5 hv3 hvs;dsimp only at n4 HLO;clear ncx hlo h hx hrec hfix hst PG hm;go_enter Tryz.func63,Tryz.ntmps63;go_wp2_with fail
 go_loopw [21] (fun i wr=>∃(j:Nat) (v:List dL),j≤l.length∧i = .int .i64 j∧Hid (mD g.p.ns g.p.types g.p.slots node rec l vs=mD g.p.ns g.p.types g.p.slots node rec (l.drop j) v)∧Hid (m≤v.length∧v.length≤m+j)∧Hid (Vw g w0 V P N FN node v wr)) (fun i _=>l.length - (intOf i).toNat)
 case atStart=>exact⟨0,vs,Nat.zero_le _,rfl,hD (by rw[List.drop_zero]),hD (by have:=HM.out;omega),HS⟩
 case round=>
  clear HS;obtain⟨j,v,hj,rfl,EQ,LN,SS⟩:=hrel;by_cases hlt:j<l.length
  · have hlt2:(j:Int)<(l.length:Int):=by omega
    obtain⟨y,hy⟩:∃y,l[j]?=some y:=⟨_,gE hlt⟩;have HD:=hD (show l.drop j=y :: l.drop (j+1) from by
      obtain⟨h1,h2⟩:=List.getElem?_eq_some_iff.1 hy;rw[List.drop_eq_getElem_cons h1,h2])
    obtain⟨hyx,nd,hnd,hs⟩:=HST.out y (List.mem_of_getElem? hy);obtain⟨p0,-⟩:=SS.out.cells;obtain⟨kb,e9,kc⟩:=(HLO.out.fr SS.out.fr (fun _ _ x=>x)).some (by omega);subst e9;have k0:=kc j (.int .i64 (y:Nat)) (by simp[ints,hy]);obtain⟨NA,NC,hno,hnc,ncell⟩:=HPG.out.aHn hnd;obtain⟨e0,e1,e2,e3,e4⟩:=ncell wr SS.out.fr;have hy5:y<g.p.ns.length:=by omega
    have hy3:(y:Int)<(g.p.ns.length:Int):=by omega
    have S6:=hD (show Vw g w0 V P N FN node v (wr.alloc (.cells #[.int .i64 (nd.kind:Nat),.int .i64 (nd.line:Nat),.int .i64 (nd.n:Nat),.string (bs nd.name),.slice NA nd.l.length NC] 50)) from SS.out.no ((fR wr).alloc _));have BN:=hD (Blk.new wr 50 #[.int .i64 (nd.kind:Nat),.int .i64 (nd.line:Nat),.int .i64 (nd.n:Nat),.string (bs nd.name),.slice NA nd.l.length NC]);have HNO:=hD hno;have HND:=hD hnd;have HJ:=hD hlt;have HYX:=hD hyx;have HSV:=hD hs;have EV:=hD (show mD g.p.ns g.p.types g.p.slots node rec l vs=mD g.p.ns g.p.types g.p.slots node rec (y :: l.drop (j+1)) v from by rw[←HD.out];exact EQ.out);clear hy hlt hj hyx hnd hs ncell hno kc EQ SS HD;go_upto_region 6 with fail;clear p0 k0 e0 e1 e2 e3 e4;generalize wr.alloc (.cells #[.int .i64 (nd.kind:Nat),.int .i64 (nd.line:Nat),.int .i64 (nd.n:Nat),.string (bs nd.name),.slice NA nd.l.length NC] 50)=w6 at *;generalize wr.heap.size=T at *;have d0:w6.cell? ⟨T,0,none⟩=some (.int .i64 (nd.kind:Nat)):=(BN.out.cell 0).trans rfl;obtain⟨p0,p2,p3,pn,pf,A,C,d5,hvo,hvc,hvn⟩:=S6.out.cells;by_cases hyn:y=node
    · have heb:((y:Int)==(node:Int))=true:=by simp[hyn]
      have HYN:=hD hyn;clear hyn;go_wp2_with fail
      go_ret;rw[rG (EV.out.trans (aKb v HYN.out))];exact⟨rfl,S6.out⟩
    · have heb:((y:Int)==(node:Int))=false:=by simp;omega
      have HYN:=hD hyn;clear hyn;cases HSV.out with
      | let_ line nm a t k ht hk ha=>
       obtain⟨ab,e9,nc0⟩:=(HNO.out.fr S6.out.fr (fun _ _ x=>x)).some (by simp);subst e9;have a0:=nc0 0 (.int .i64 (a:Nat)) rfl;obtain⟨tb',e9,tc0⟩:=(HPG.out.types.fr S6.out.fr (fun _ _ x=>x)).some (by omega);injection e9 with e9;injection e9 with e9;subst e9;have t0:=tc0 a (.int .i64 (t:Nat)) (by simp[ints,ht]);obtain⟨sb',e9,sc0⟩:=(HPG.out.slots.fr S6.out.fr (fun _ _ x=>x)).some (by omega);injection e9 with e9;injection e9 with e9;subst e9;have s0:=sc0 y (.int .i64 (k:Nat)) (by simp[eH,hk]);have ha3:(a:Int)<(g.p.ns.length:Int):=by omega
       have d3:w6.cell? ⟨T,3,none⟩=some (.string (bs nm)):=(BN.out.cell 3).trans rfl;have d4:w6.cell? ⟨T,4,none⟩=some (.slice (some ⟨ab,0,none⟩) 1 NC):=(BN.out.cell 4).trans rfl;have EV2:=hD (EV.out.trans (aKa v HYN.out HND.out ht hk));have hnc1:1≤NC:=hnc;obtain⟨A',c',hvb,-,-⟩:=S6.out.vc;have AB:=hD (show ab<w0.heap.size from HNO.out.cO (bF (by simp) hnc));have TB:=hD (show g.tb<w0.heap.size from HPG.out.types.cO (bF (by omega) HPG.out.types.oU.1));have SB:=hD (show g.sb<w0.heap.size from HPG.out.slots.cO (bF (by omega) HPG.out.slots.oU.1));have HK:=hD (show ∀w',Fr (fun b=>b=V∨obl (blk (.slice A v.length C)) b) w6 w'→w'.cell? ⟨T,3,none⟩=some (.string (bs nm))∧w'.cell? ⟨T,4,none⟩=some (.slice (some ⟨ab,0,none⟩) 1 NC)∧w'.cell? ⟨P,2,none⟩=some (.slice (some ⟨g.tb,0,none⟩) g.p.ns.length g.tc)∧w'.cell? ⟨P,3,none⟩=some (.slice (some ⟨g.sb,0,none⟩) g.p.ns.length g.sc)∧w'.cell? ⟨ab,0,none⟩=some (.int .i64 (a:Nat))∧w'.cell? ⟨g.tb,a,none⟩=some (.int .i64 (t:Nat))∧w'.cell? ⟨g.sb,y,none⟩=some (.int .i64 (k:Nat)) from fun w' f=>by
         have hV:=S6.out.hV;have nT:¬(T=V∨obl (blk (.slice A v.length C)) T):=by
           rintro (e|e)
           · exact BN.out.ne hvb (by decide) e
           · exact hvo.aG BN.out (by decide) e
         have nP:¬(P=V∨obl (blk (.slice A v.length C)) P):=by
           rintro (e|e)
           · exact S6.out.pc.ne hvb (by decide) e
           · exact hvo.aG S6.out.pc (by decide) e
         have low:∀b,b<w0.heap.size→¬(b=V∨obl (blk (.slice A v.length C)) b):=fun b hb=>by
           rintro (e|e)
           · omega
           · have:=hvn b e;omega
         have sz:=S6.out.fr.size;exact⟨(f.cell (p:=⟨T,3,none⟩) BN.out.lt nT).trans d3,(f.cell (p:=⟨T,4,none⟩) BN.out.lt nT).trans d4,(f.cell (p:=⟨P,2,none⟩) S6.out.pc.lt nP).trans p2,(f.cell (p:=⟨P,3,none⟩) S6.out.pc.lt nP).trans p3,
           (f.cell (p:=⟨ab,0,none⟩) (Nat.lt_of_lt_of_le AB.out sz) (low _ AB.out)).trans a0,(f.cell (p:=⟨g.tb,a,none⟩) (Nat.lt_of_lt_of_le TB.out sz) (low _ TB.out)).trans t0,(f.cell (p:=⟨g.sb,y,none⟩) (Nat.lt_of_lt_of_le SB.out sz) (low _ SB.out)).trans s0⟩)
       have HV:=hD ((hvo.alloc (.cells #[.string (bs nm),.int .i64 (t:Nat),.int .i64 (k:Nat)] 62)).fr ((fR _).drew) (fun _ _ x=>x));have HR:=hD (Rd.fC (n:=1) (size:=3) (cs:=[.string (bs nm),.int .i64 (t:Nat),.int .i64 (k:Nat)]) ((Blk.new w6 62 [.string (bs nm),.int .i64 (t:Nat),.int .i64 (k:Nat)].toArray).fr ((fR _).drew) (fun x=>x)) rfl (by decide));have HARM:=hD (fun (A3:Option Addr) (c3:Nat) (w8:World) (ho8:Own w8 62 3 (.slice A3 (v.length+1) c3) (v.length+1) (bB v++[.string (bs nm),.int .i64 (t:Nat),.int .i64 (k:Nat)])) (hf8:Fr (obl (blk (.slice A v.length C))) ((w6.alloc (.cells #[.string (bs nm),.int .i64 (t:Nat),.int .i64 (k:Nat)] 62)).drew) w8) (hv8:blk (.slice A3 (v.length+1) c3)=blk (.slice A v.length C)∨blk (.slice A3 (v.length+1) c3)=some ((w6.alloc (.cells #[.string (bs nm),.int .i64 (t:Nat),.int .i64 (k:Nat)] 62)).drew).heap.size)=>
         show (Vw g w0 V P N FN node (v++[⟨nm,t,k⟩]) (w8.setCell ⟨V,0,none⟩ (.slice A3 (v.length+1) c3))∧w8.frozen? ⟨V,0,none⟩=false∧V<w8.heap.size∧w8.cell? ⟨V,0,none⟩=some (.slice A v.length C))∧Fr (fun b=>b=V∨obl (blk (.slice A v.length C)) b) w6 w8∧Fr (fun b=>b=V∨obl (blk (.slice A v.length C)) b) w6 (w8.setCell ⟨V,0,none⟩ (.slice A3 (v.length+1) c3)) from by
           have f1:Fr nob w6 ((w6.alloc (.cells #[.string (bs nm),.int .i64 (t:Nat),.int .i64 (k:Nat)] 62)).drew):=((fR w6).alloc _).drew;have f2:Fr (fun b=>b=V∨obl (blk (.slice A v.length C)) b) w6 w8:=f1.trans hf8 (fun _ _ x=>x.elim) (fun _ _ x=> .inr x);exact⟨S6.out.app (v:=⟨nm,t,k⟩) d5 f1 ho8 hf8 hv8,f2,f2.setCell _ _ (fun _=> .inl rfl)⟩)
       have hvl:v.length≤190300:=by have:=LN.out;have:=HJ.out;omega
       have KK:=hD (HK.out _ (Fr.refl _ w6).drew);have d5a:w6.drew.cell? ⟨V,0,none⟩=some (.slice A v.length C):=d5;have d5b:(w6.drew.alloc (.cells #[.string (bs nm),.int .i64 (t:Nat),.int .i64 (k:Nat)] 62)).cell? ⟨V,0,none⟩=some (.slice A v.length C):=(((fR w6).drew.alloc _).cell (p:=⟨V,0,none⟩) hvb.lt (fun x=>x)).trans d5;clear nc0 tc0 sc0 ht hk ha HNO EV hvo hvn hnc hvb S6 BN AB TB SB;go_wp2_with fail
       refine rJ (fun w'=>w'.cell? ⟨V,0,none⟩=some (.slice A v.length C)∧w'.cell? ⟨T,3,none⟩=some (.string (bs nm))∧w'.cell? ⟨T,4,none⟩=some (.slice (some ⟨ab,0,none⟩) 1 NC)∧w'.cell? ⟨P,2,none⟩=some (.slice (some ⟨g.tb,0,none⟩) g.p.ns.length g.tc)∧w'.cell? ⟨P,3,none⟩=some (.slice (some ⟨g.sb,0,none⟩) g.p.ns.length g.sc)∧w'.cell? ⟨ab,0,none⟩=some (.int .i64 (a:Nat))∧w'.cell? ⟨g.tb,a,none⟩=some (.int .i64 (t:Nat))∧w'.cell? ⟨g.sb,y,none⟩=some (.int .i64 (k:Nat))) 19 (by kernel_rfl) (by kernel_rfl) ⟨d5a,KK.out⟩ (fun hHeld=>?_);clear d0 d3 d4 d5 a0 t0 s0 p0 p2 p3 pn pf;refine wpAnyH_take (i:=0) (v:=?_) rfl (by kernel_rfl) (by kernel_rfl) (by kernel_rfl) (fun _ _ _ h=>h) (Or.inl ⟨by rfl,?_⟩) (by assumption) ?_
       case refine_2=>(intro w hSw;(try dsimp only at hSw);go_simp;(try with_reducible rfl))
       simp only[Act.put,List.setIfInBounds_toArray,List.set_cons_zero,List.set_cons_succ];refine wpAnyH_take (i:=1) (v:=?_) rfl (by kernel_rfl) (by kernel_rfl) (by kernel_rfl) (fun _ _ _ h=>h) (Or.inl ⟨by rfl,?_⟩) (by assumption) ?_
       case refine_2=>(intro w hSw;(try dsimp only at hSw);go_simp;(try with_reducible rfl))
       simp only[Act.put,List.setIfInBounds_toArray,List.set_cons_zero,List.set_cons_succ];refine wpAnyH_take (i:=2) (v:=?_) rfl (by kernel_rfl) (by kernel_rfl) (by kernel_rfl) (fun _ _ _ h=>h) (Or.inl ⟨by rfl,?_⟩) (by assumption) ?_
       case refine_2=>(intro w hSw;(try dsimp only at hSw);go_simp;(try with_reducible rfl))
       simp only[Act.put,List.setIfInBounds_toArray,List.set_cons_zero,List.set_cons_succ];refine wpAnyH_take (i:=3) (v:=?_) rfl (by kernel_rfl) (by kernel_rfl) (by kernel_rfl) (fun _ _ _ h=>h) (Or.inl ⟨by rfl,?_⟩) (by assumption) ?_
       case refine_2=>(intro w hSw;(try dsimp only at hSw);go_simp;(try with_reducible rfl))
       simp only[Act.put,List.setIfInBounds_toArray,List.set_cons_zero,List.set_cons_succ];refine wpAnyH_take (i:=4) (v:=?_) rfl (by kernel_rfl) (by kernel_rfl) (by kernel_rfl) (fun _ _ _ h=>h) (Or.inl ⟨by rfl,?_⟩) (by assumption) ?_
       case refine_2=>(intro w hSw;(try dsimp only at hSw);go_simp;(try with_reducible rfl))
       simp only[Act.put,List.setIfInBounds_toArray,List.set_cons_zero,List.set_cons_succ];refine wpAnyH_take (i:=5) (v:=?_) rfl (by kernel_rfl) (by kernel_rfl) (by kernel_rfl) (fun _ _ _ h=>h) (Or.inl ⟨by rfl,?_⟩) (by assumption) ?_
       case refine_2=>(intro w hSw;(try dsimp only at hSw);go_simp;(try with_reducible rfl))
       simp only[Act.put,List.setIfInBounds_toArray,List.set_cons_zero,List.set_cons_succ];refine wpAnyH_take (i:=6) (v:=?_) rfl (by kernel_rfl) (by kernel_rfl) (by kernel_rfl) (fun _ _ _ h=>h) (Or.inl ⟨by rfl,?_⟩) (by assumption) ?_
       case refine_2=>(intro w hSw;(try dsimp only at hSw);go_simp;(try with_reducible rfl))
       simp only[Act.put,List.setIfInBounds_toArray,List.set_cons_zero,List.set_cons_succ];refine wpAnyH_take (i:=7) (v:=?_) rfl (by kernel_rfl) (by kernel_rfl) (by kernel_rfl) (fun _ _ _ h=>h) (Or.inl ⟨by rfl,?_⟩) (by assumption) ?_
       case refine_2=>(intro w hSw;(try dsimp only at hSw);go_simp;(try with_reducible rfl))
       simp only[Act.put,List.setIfInBounds_toArray,List.set_cons_zero,List.set_cons_succ];refine wpAnyH_take (i:=8) (v:=?_) rfl (by kernel_rfl) (by kernel_rfl) (by kernel_rfl) (fun _ _ _ h=>h) (Or.inl ⟨by rfl,?_⟩) (by assumption) ?_
       case refine_2=>(intro w hSw;(try dsimp only at hSw);go_simp;(try with_reducible rfl))
       simp only[Act.put,List.setIfInBounds_toArray,List.set_cons_zero,List.set_cons_succ];refine wpAnyH_take (i:=9) (v:=?_) rfl (by kernel_rfl) (by kernel_rfl) (by kernel_rfl) (fun _ _ _ h=>h) (Or.inl ⟨by rfl,?_⟩) (by assumption) ?_
       case refine_2=>(intro w hSw;(try dsimp only at hSw);go_simp;(try with_reducible rfl))
       simp only[Act.put,List.setIfInBounds_toArray,List.set_cons_zero,List.set_cons_succ];refine wpAnyH_take (i:=10) (v:=?_) rfl (by kernel_rfl) (by kernel_rfl) (by kernel_rfl) (fun _ _ _ h=>h) (Or.inl ⟨by rfl,?_⟩) (by assumption) ?_
       case refine_2=>(intro w hSw;(try dsimp only at hSw);go_simp;(try with_reducible rfl))
       simp only[Act.put,List.setIfInBounds_toArray,List.set_cons_zero,List.set_cons_succ];refine wpAnyH_take (i:=11) (v:=?_) rfl (by kernel_rfl) (by kernel_rfl) (by kernel_rfl) (fun _ _ _ h=>h) (Or.inl ⟨by rfl,?_⟩) (by assumption) ?_
       case refine_2=>(intro w hSw;(try dsimp only at hSw);go_simp;(try with_reducible rfl))
       simp only[Act.put,List.setIfInBounds_toArray,List.set_cons_zero,List.set_cons_succ];refine wpAnyH_take (i:=12) (v:=?_) rfl (by kernel_rfl) (by kernel_rfl) (by kernel_rfl) (fun _ _ _ h=>h) (Or.inl ⟨by rfl,?_⟩) (by assumption) ?_
       case refine_2=>(intro w hSw;(try dsimp only at hSw);go_simp;(try with_reducible rfl))
       simp only[Act.put,List.setIfInBounds_toArray,List.set_cons_zero,List.set_cons_succ];refine wpAnyH_take (i:=13) (v:=?_) rfl (by kernel_rfl) (by kernel_rfl) (by kernel_rfl) (fun _ _ _ h=>h) (Or.inl ⟨by rfl,?_⟩) (by assumption) ?_
       case refine_2=>(intro w hSw;(try dsimp only at hSw);go_simp;(try with_reducible rfl))
       simp only[Act.put,List.setIfInBounds_toArray,List.set_cons_zero,List.set_cons_succ];refine wpAnyH_take (i:=14) (v:=?_) rfl (by kernel_rfl) (by kernel_rfl) (by kernel_rfl) (fun _ _ _ h=>h) (Or.inl ⟨by rfl,?_⟩) (by assumption) ?_
       case refine_2=>(intro w hSw;(try dsimp only at hSw);go_simp;(try with_reducible rfl))
       simp only[Act.put,List.setIfInBounds_toArray,List.set_cons_zero,List.set_cons_succ];refine wpAnyH_take (i:=15) (v:=?_) rfl (by kernel_rfl) (by kernel_rfl) (by kernel_rfl) (fun _ _ _ h=>h) (Or.inl ⟨by rfl,?_⟩) (by assumption) ?_
       case refine_2=>(intro w hSw;(try dsimp only at hSw);go_simp;(try with_reducible rfl))
       simp only[Act.put,List.setIfInBounds_toArray,List.set_cons_zero,List.set_cons_succ];refine wpAnyH_take (i:=16) (v:=?_) rfl (by kernel_rfl) (by kernel_rfl) (by kernel_rfl) (fun _ _ _ h=>h) (Or.inl ⟨by rfl,?_⟩) (by assumption) ?_
       case refine_2=>(intro w hSw;(try dsimp only at hSw);go_simp;(try with_reducible rfl))
       simp only[Act.put,List.setIfInBounds_toArray,List.set_cons_zero,List.set_cons_succ];refine wpAnyH_ready (rs:=[17]) (by kernel_rfl) (by simp) ?_;refine AllReadyH.cons rfl (fun K hK=>?_) AllReadyH.nil;go_simp;refine hK.out _ _ (⟨d5b,HK.out _ ((Fr.refl _ w6).drew.alloc _)⟩) (fun hHeld=>?_);clear hK K;try simp only[Act.put,List.setIfInBounds_toArray,List.set_cons_zero,List.set_cons_succ]
       refine wpAnyH_ready (rs:=[18]) (by kernel_rfl) (by simp) ?_;refine AllReadyH.cons rfl (fun K hK=>?_) AllReadyH.nil;refine step_append (v:= .slice A v.length C) (n:=v.length) (m:=1) (xs:=bB v) (news:=[.string (bs nm),.int .i64 (t:Nat),.int .i64 (k:Nat)]) (by rfl) _ _ (by rfl) aOt (by rfl) (by rfl) HV.out HR.out (by simp[Value.oneCell']) (by omega) (by unfold maxLen;omega) ?_;intro A3 c3 w8 ho8 hf8 hv8;have X:=HARM.out A3 c3 w8 ho8 hf8 hv8;have S9:=hD X.1.1;have f8:=X.1.2.1;have vlt:=X.1.2.2.1;have v5:=X.1.2.2.2;have K8:=HK.out _ X.2.1;clear ho8 hf8 hv8 X;refine hK.out _ _ (⟨v5,K8⟩) (fun hHeld=>?_);clear hK K;try simp only[Act.put,List.setIfInBounds_toArray,List.set_cons_zero,List.set_cons_succ]
       clear K8 hHeld d5a d5b KK HK HARM HV HR;refine wpAnyH_done (by kernel_rfl) ?_ _;refine aEa (L:=19) rfl (fun K hK=>?_);go_simp;refine hK _ _ ?_;clear hK K;go_wp2_with fail
       go_roundw
       case rel=>exact⟨j+1,v++[⟨nm,t,k⟩],by have:=HJ.out;omega,by go_num,EV2,hD (by rw[List.length_append,List.length_singleton];have:=LN.out;omega),S9⟩
       case measure=>simp[intOf];have:=HJ.out;omega
      | test kind line a q hk hb hq3 hq0=>
       have EV2:=hD (EV.out.trans (aFa v HYN.out hk HND.out));obtain⟨ab,e9,nc0⟩:=(HNO.out.fr S6.out.fr (fun _ _ x=>x)).some (by simp);subst e9;obtain⟨b1,q,rfl⟩:∃b1 q',q=b1 :: q':=by
         cases q with
         | nil=>simp at hq0
         | cons b1 q=>exact⟨b1,q,rfl⟩
       have S7:=hD (S6.out.no (fR w6).drew);have CT:=hD (aEi (F:=63) (caps:=pR V P N FN) (S:=fun v w=>Vw g w0 V P N FN node v w) (rec:=rec) (vs:=v) (l:=b1 :: q) (b:=ab) (o:=1) (c:=NC - 1) zV
         (fun b hbm w' hw'=>HREC.out b v w' (by have:=(hb b hbm).1;have:=HYX.out;omega) (hb b hbm).2 (by have:=LN.out;have:=HM.out;have:=HJ.out;omega) hw')
         (fun b _ h=>HFIX.out b v h)
         (fun w' hw' j b hjb=>by
           obtain⟨ab',e9,nc1⟩:=(HNO.out.fr hw'.fr (fun _ _ x=>x)).some (by simp);injection e9 with e9;injection e9 with e9;subst e9;rw[Nat.add_comm 1 j];exact nc1 (j+1) (.int .i64 (b:Nat)) (by show (List.map (fun x:Nat=>Value.int .i64 (x:Nat)) (b1 :: q))[j]?=_;rw[List.getElem?_map,hjb];rfl))
         hq3 S7.out)
       have d4:w6.cell? ⟨T,4,none⟩=some (.slice (some ⟨ab,0,none⟩) (a :: b1 :: q).length NC):=(BN.out.cell 4).trans rfl;obtain⟨n,hn⟩:∃n,(b1 :: q).length=n:=⟨_,rfl⟩;have hn2:(a :: b1 :: q).length=n+1:=by rw[←hn];rfl
       rw[hn2] at d4 hnc;rw[hn] at CT hq3;have hnc2:((n+1:Nat):Int)≤(NC:Int):=by omega
       have hn1:(1:Int)≤(n:Int)+1:=by omega
       have hnc3:(n:Int)+1≤(NC:Int):=by omega
       have hnc4:2≤NC:=by have:(b1 :: q).length=n:=hn;simp at this;omega
       clear nc0 HNO EV hvo hvn hb hn hn2 hq0 S7;rcases hk with rfl|rfl
       · go_wp2_with fail
         refine wp_region_still_tail 13 (by kernel_rfl) (by kernel_rfl) ?_;simp only[List.take_succ_cons,List.take_zero,List.drop_succ_cons,List.drop_zero];iterate 4 still_step
         iterate 3 (with_reducible refine fQ (by kernel_rfl) ?_;simp only[Act.put,List.setIfInBounds_toArray,List.set_cons_zero,List.set_cons_succ])
         iterate 2 still_step
         iterate 4 (with_reducible refine fP (by kernel_rfl) (fun K hK=>?_);go_simp;refine hK _ ?_;clear hK K)
         refine wpStill_nil ?_;change wpList _ _ _ _ _ w6.drew;clear d0 d4 d5 p0 p2 p3 pn pf BN S6 heb;generalize w6.drew=w7 at *;go_wp2_with fail
         refine CT.out.mono ?_;rintro en w8 ⟨rfl,h8⟩;obtain⟨bb,hbb⟩:∃bb,(oD rec (b1 :: q) v).1=bb:=⟨_,rfl⟩;rw[hbb];rw[hbb] at EV2;have S8:=hD h8;have HBB:=hD hbb;clear h8 hbb CT;cases bb with
         | true=>
           go_wp2_with fail
           go_ret;rw[rG (EV2.out.trans (by first|exact if_pos rfl|exact if_pos trivial|simp))];exact⟨rfl,S8.out⟩
         | false=>
           have EV3:=hD (EV2.out.trans (by first|exact if_neg (by decide)|exact if_neg not_false));have FX:=hD (vJ HFIX.out _ _ HBB.out);go_wp2_with fail
           go_roundw
           case rel=>exact⟨j+1,(oD rec (b1 :: q) v).2,by have:=HJ.out;omega,by go_num,EV3,hD (by rw[FX.out];have:=LN.out;omega),S8⟩
           case measure=>simp[intOf];have:=HJ.out;omega
       · go_wp2_with fail
         refine wp_region_still_tail 13 (by kernel_rfl) (by kernel_rfl) ?_;simp only[List.take_succ_cons,List.take_zero,List.drop_succ_cons,List.drop_zero];iterate 4 still_step
         iterate 3 (with_reducible refine fP (by kernel_rfl) (fun K hK=>?_);go_simp;refine hK _ ?_;clear hK K)
         iterate 2 still_step
         iterate 4 (with_reducible refine fP (by kernel_rfl) (fun K hK=>?_);go_simp;refine hK _ ?_;clear hK K)
         refine wpStill_nil ?_;change wpList _ _ _ _ _ w6.drew;clear d0 d4 d5 p0 p2 p3 pn pf BN S6 heb;generalize w6.drew=w7 at *;go_wp2_with fail
         refine CT.out.mono ?_;rintro en w8 ⟨rfl,h8⟩;obtain⟨bb,hbb⟩:∃bb,(oD rec (b1 :: q) v).1=bb:=⟨_,rfl⟩;rw[hbb];rw[hbb] at EV2;have S8:=hD h8;have HBB:=hD hbb;clear h8 hbb CT;cases bb with
         | true=>
           go_wp2_with fail
           go_ret;rw[rG (EV2.out.trans (by first|exact if_pos rfl|exact if_pos trivial|simp))];exact⟨rfl,S8.out⟩
         | false=>
           have EV3:=hD (EV2.out.trans (by first|exact if_neg (by decide)|exact if_neg not_false));have FX:=hD (vJ HFIX.out _ _ HBB.out);go_wp2_with fail
           go_roundw
           case rel=>exact⟨j+1,(oD rec (b1 :: q) v).2,by have:=HJ.out;omega,by go_num,EV3,hD (by rw[FX.out];have:=LN.out;omega),S8⟩
           case measure=>simp[intOf];have:=HJ.out;omega
      | other nd h0 h1 h2=>
       have EV2:=hD (EV.out.trans (aCh v HYN.out HND.out h0 h1 h2));have i0:((nd.kind:Int)==10)=false:=bN.2 (by omega);have i1:((nd.kind:Int)==15)=false:=bN.2 (by omega);have i2:((nd.kind:Int)==16)=false:=bN.2 (by omega);clear h0 h1 h2 EV HNO hvo hvn;go_wp2_with fail
       go_quiet (fail)
       have S7:=hD (S6.out.no ((fR w6).drewN nq));clear d0 d5 p0 p2 p3 pn pf BN S6 heb i0 i1 i2;generalize w6.drewN nq=w7 at *;go_wp2_with fail
       go_roundw
       case rel=>exact⟨j+1,v,by have:=HJ.out;omega,by go_num,EV2,hD (by have:=LN.out;omega),S7⟩
       case measure=>simp[intOf];have:=HJ.out;omega
  · have hlt2:¬(j:Int)<(l.length:Int):=by omega
    have HF:=hD (show mD g.p.ns g.p.types g.p.slots node rec l vs=(false,v) from by rw[EQ.out,List.drop_of_length_le (by omega)];rfl);obtain⟨-,-,-,-,-,A,C,d5,ho,hc,hnew⟩:=SS.out.cells;obtain⟨A',c',hb,-,-⟩:=SS.out.vc;have f5:=hb.frozen 0;have vlt:=hb.lt;have hmv:(m:Int)≤(C:Int):=by have:=LN.out;omega
    have hm0:(0:Int)≤(m:Int):=by omega
    have FIN:=hD (show Vw g w0 V P N FN node (v.take m) (wr.setCell ⟨V,0,none⟩ (.slice A m C)) from by
      have e:(v.take m).length=m:=by rw[List.length_take];have:=LN.out;omega
      have o2:=ho.cut (m:=m) LN.out.1;rw[mG] at o2;have:=SS.out.set (us:=v.take m) (A:=A) (c:=C) (by rw[e];exact o2) (by rw[e];intro b hb;exact hnew b (by cases A<;>first|(simp[blk] at hb;done)|exact hb));rw[e] at this;exact this)
    clear hb ho hc hnew SS EQ hj hlt LN;go_wp2_with fail
    go_ret;rw[aEu HF.out,HM.out];exact⟨rfl,FIN.out⟩
end
section
variable {g:PgV}{w0 w w1:World}{V P N FN node:Nat}{vs:List dL}
theorem aPf (hi:nC g.p){x y:Nat} (hk:Kid (g.p.ns.take x) xG y):y<x∧∃nd,g.p.ns[y]?=some nd∧StV g.p y nd:=by
 obtain⟨hlt,c,hc1,hc2⟩:=hk.take;refine⟨hlt,c,hc1,?_⟩;have hy:y<g.p.ns.length:=(gK hc1);have hok:=hi.tree.ok.nodes y c hc1;have kb:∀{b:Nat},Kid (g.p.ns.take y) nY b→b<y∧∃nd,g.p.ns[b]?=some nd∧nd.kind=18:=fun {b} hb=>by
  obtain⟨h1,d,hd1,hd2⟩:=hb.take;exact⟨h1,d,hd1,by simpa[nY] using hd2⟩
 cases hok with
 | let_ line nm a ha=>
  obtain⟨k,v,_,_,_,hs,_⟩:=aFm hi hc1 rfl;have hlt:=ha.take.1;obtain⟨t,ht⟩:∃t,g.p.types[a]?=some t:=⟨_,gE (by have:=hi.lt;omega)⟩;exact .let_ line nm a t v ht hs (by omega)
 | if2 line a b ha hb=>exact .test 15 line a [b] (.inl rfl) (fun c hc=>by rw[List.mem_singleton.1 hc];exact kb hb) (by simp) (by simp)
 | if3 line a b d ha hb hd=>exact .test 15 line a [b,d] (.inl rfl) (fun c hc=>by
   rcases List.mem_cons.1 hc with e|hc
   · rw[e];exact kb hb
   · rw[List.mem_singleton.1 hc];exact kb hd) (by simp) (by simp)
 | loop line a b ha hb=>exact .test 16 line a [b] (.inr rfl) (fun c hc=>by rw[List.mem_singleton.1 hc];exact kb hb) (by simp) (by simp)
 | set line nm a ha=>exact .other _ (by simp) (by simp) (by simp)
 | put line nm a b ha hb=>exact .other _ (by simp) (by simp) (by simp)
 | do_ line a ha=>exact .other _ (by simp) (by simp) (by simp)
 | print line a ha=>exact .other _ (by simp) (by simp) (by simp)
 | ret0 line=>exact .other _ (by simp) (by simp) (by simp)
 | ret1 line a ha=>exact .other _ (by simp) (by simp) (by simp)
 | _=>simp[xG] at hc2
theorem aAm (PG:xU g w0):∀(f x:Nat) (vs:List dL) (w:World),x<f→(∃nd,g.p.ns[x]?=some nd∧nd.kind=18)→vs.length+300*f≤190000→Vw g w0 V P N FN node vs w →
  Calls Tryz.prog 63 (#[.int .i64 (x:Nat)]++pR V P N FN) w fun en w'=>en = .returned (.bool (vL g.p.ns g.p.types g.p.slots node f x vs).1)∧Vw g w0 V P N FN node (vL g.p.ns g.p.types g.p.slots node f x vs).2 w'
 | 0,x,_,_,h,_,_,_=>absurd h (Nat.not_lt_zero _)
 | f+1,x,vs,w,hx,⟨nd,hnd,hk⟩,hlen,h=>by
  have hok:=PG.is.tree.ok.nodes x nd hnd;have h3:=PG.is.tree.rows nd (List.mem_of_getElem? hnd);cases hok with
  | block line l hl=>
   have e:∀v,vL g.p.ns g.p.types g.p.slots node (f+1) x v=aOq g.p.ns g.p.types g.p.slots node (vL g.p.ns g.p.types g.p.slots node f) l v:=fun v=>by
    rw[vL,hnd];rfl
   rw[e];exact aFb PG hnd h3 (by omega) (fun y v w' hy hb hv hw=>aAm PG f y v w' (by omega) hb (by omega) hw) (fun y v h=>aKc f y v h) (fun y hy=>aPf PG.is (hl y hy)) h
  | _=>simp at hk
def xS (ps:List (List UInt8×Nat)):List dL:=ps.zipIdx.map fun q=>⟨q.1.1,q.1.2,q.2⟩
theorem aHe (ps:List (List UInt8×Nat)) (q:List UInt8×Nat):xS (ps++[q])=xS ps++[⟨q.1,q.2,ps.length⟩]:=by
 unfold xS;rw[List.zipIdx_append];simp
theorem aBd (ps:List (List UInt8×Nat)):(xS ps).length=ps.length:=by unfold xS;simp
def xY (p:fK) (node:Nat) (f:aD):List dL:=
 if (vL p.ns p.types p.slots node p.ns.length f.body (xS f.params)).1=true then (vL p.ns p.types p.slots node p.ns.length f.body (xS f.params)).2 else []
structure Vr (w0:World) (V:Nat) (RS:List (Nat×TypeId×Array Value)) (vs:List dL) (w:World):Prop where
 fr:Fr nob w0 w
 vc:∃A c,Blk w V 58 #[.slice A vs.length c]∧Own w 62 3 (.slice A vs.length c) vs.length (bB vs)∧∀b,blk (.slice A vs.length c)=some b→w0.heap.size≤b
 hV:w0.heap.size≤V
 rc:∀q∈RS,Blk w q.1 q.2.1 q.2.2∧q.2.1≠62∧q.2.1≠58
theorem Vr.no {RS:List (Nat×TypeId×Array Value)} (h:Vr w0 V RS vs w) (f:Fr nob w w1):Vr w0 V RS vs w1:=by
 obtain⟨A,c,hb,ho,hn⟩:=h.vc;exact⟨h.fr.tr f,⟨A,c,hb.fr f (fun x=>x),ho.fr f (fun _ _ x=>x),hn⟩,h.hV,fun q hq=>⟨(h.rc q hq).1.fr f (fun x=>x),(h.rc q hq).2⟩⟩
theorem Vr.app {RS:List (Nat×TypeId×Array Value)} (h:Vr w0 V RS vs w){A:Option Addr}{c:Nat} (hc:w.cell? ⟨V,0,none⟩=some (.slice A vs.length c)) (f1:Fr nob w w1){v:dL}{A6:Option Addr}{c6:Nat}{w6:World} (ho6:Own w6 62 3 (.slice A6 (vs.length+1) c6) (vs.length+1) (bB vs++[.string (bs v.name),.int .i64 (v.ty:Nat),.int .i64 (v.slot:Nat)]))
  (hf6:Fr (obl (blk (.slice A vs.length c))) w1 w6) (hv6:blk (.slice A6 (vs.length+1) c6)=blk (.slice A vs.length c)∨blk (.slice A6 (vs.length+1) c6)=some w1.heap.size):
  Vr w0 V RS (vs++[v]) (w6.setCell ⟨V,0,none⟩ (.slice A6 (vs.length+1) c6))∧w6.frozen? ⟨V,0,none⟩=false∧V<w6.heap.size∧w6.cell? ⟨V,0,none⟩=some (.slice A vs.length c)∧∀q∈RS,Blk w6 q.1 q.2.1 q.2.2:=by
 have h1:=h.no f1;obtain⟨A',c',hb,ho,hn⟩:=h.vc;have e:w.cell? ⟨V,0,none⟩=some (.slice A' vs.length c'):=(hb.cell 0).trans rfl;rw[hc] at e;injection e with e;injection e with e1 _ e2;subst e1;subst e2;have ho1:=ho.fr f1 (fun _ _ x=>x);have hb1:=hb.fr f1 (fun x=>x);have hb6:=hb1.fr hf6 (fun hm=>ho1.aG hb1 (by decide) hm);have n1:∀b,blk (.slice A6 (vs.length+1) c6)=some b→w0.heap.size≤b:=fun b hb=>by
  rcases hv6 with e|e
  · exact hn b (e ▸ hb)
  · rw[e] at hb;injection hb with hb
    have:=h1.fr.size;omega
 have hlen:(vs++[v]).length=vs.length+1:=by simp
 have f6:Fr nob w0 w6:=h1.fr.trans hf6 (fun _ _ x=>x) (fun b hlt hm=>by have:=hn b hm;omega);have f:Fr (bZ V) w6 (w6.setCell ⟨V,0,none⟩ (.slice A6 (vs.length+1) c6)):=(Fr.refl _ w6).setCell _ _ (fun _=>rfl);have rc6:∀q∈RS,Blk w6 q.1 q.2.1 q.2.2:=fun q hq=>(h1.rc q hq).1.fr hf6 (fun hm=>ho1.aG (h1.rc q hq).1 (fun e=>(h1.rc q hq).2.1 e.symm) hm)
 refine⟨⟨f6.trans f (fun _ _ x=>x) (fun b hlt hm=>by have hm:b=V:=hm;have:=h.hV;omega),⟨A6,c6,by rw[hlen];exact hb6.setCell 0 _,?_,by rw[hlen];exact n1⟩,h.hV,
  fun q hq=>⟨(rc6 q hq).far (p:=⟨V,0,none⟩) ((rc6 q hq).ne hb6 (h.rc q hq).2.2) _,(h.rc q hq).2⟩⟩,hb6.frozen 0,hb6.lt,(hb6.cell 0).trans rfl,rc6⟩
 rw[hlen,jE];exact ho6.far (p:=⟨V,0,none⟩) (ho6.aG hb6 (by decide)) _
end
section
variable {g:PgV}{w:World}{ub zb:Nat}
def aEz (g:PgV) (P N F node:Nat) (cs:Array Value):List (Nat×TypeId×Array Value):=
 [(P,29,#[.slice (some ⟨g.nb,0,none⟩) g.p.ns.length g.nc,.slice (some ⟨g.fb,0,none⟩) g.p.fs.length g.fc,.slice (some ⟨g.tb,0,none⟩) g.p.ns.length g.tc,.slice (some ⟨g.sb,0,none⟩) g.p.ns.length g.sc,.slice g.ua g.un g.uc,.slice g.za g.zn g.zc]),(N,3,#[.int .i64 (node:Nat)]),(F,48,cs)]
theorem Vr.blks {w0 w1:World}{V P N F node:Nat}{vs:List dL}{cs:Array Value} (h:Vr w0 V (aEz g P N F node cs) vs w1):
  Blk w1 P 29 #[.slice (some ⟨g.nb,0,none⟩) g.p.ns.length g.nc,.slice (some ⟨g.fb,0,none⟩) g.p.fs.length g.fc,.slice (some ⟨g.tb,0,none⟩) g.p.ns.length g.tc,.slice (some ⟨g.sb,0,none⟩) g.p.ns.length g.sc,.slice g.ua g.un g.uc,.slice g.za g.zn g.zc]∧Blk w1 N 3 #[.int .i64 (node:Nat)]∧Blk w1 F 48 cs:=
 ⟨(h.rc _ (List.mem_cons_self ..)).1,(h.rc _ (List.mem_cons_of_mem _ (List.mem_cons_self ..))).1,(h.rc _ (List.mem_cons_of_mem _ (List.mem_cons_of_mem _ (List.mem_cons_self ..)))).1⟩
theorem Vr.start {w0 w1:World}{P N F node:Nat}{cs:Array Value} (f:Fr nob w0 w1) (hP:Blk w1 P 29 #[.slice (some ⟨g.nb,0,none⟩) g.p.ns.length g.nc,.slice (some ⟨g.fb,0,none⟩) g.p.fs.length g.fc,.slice (some ⟨g.tb,0,none⟩) g.p.ns.length g.tc,.slice (some ⟨g.sb,0,none⟩) g.p.ns.length g.sc,.slice g.ua g.un g.uc,.slice g.za g.zn g.zc]) (hN:Blk w1 N 3 #[.int .i64 (node:Nat)]) (hF:Blk w1 F 48 cs):
   Vr w0 w1.heap.size (aEz g P N F node cs) [] (w1.alloc (.cells #[.slice none 0 0] 58)):=by
 refine⟨f.alloc _,⟨none,0,Blk.new _ _ _,Own.nil _ _ _,fun b hb=>by simp[blk] at hb⟩,f.size,fun q hq=>?_⟩;unfold aEz at hq;simp only[List.mem_cons,List.not_mem_nil,or_false] at hq;rcases hq with rfl|rfl|rfl
 · exact⟨hP.alloc _,(by decide:(29:Nat)≠62),(by decide:(29:Nat)≠58)⟩
 · exact⟨hN.alloc _,(by decide:(3:Nat)≠62),(by decide:(3:Nat)≠58)⟩
 · exact⟨hF.alloc _,(by decide:(48:Nat)≠62),(by decide:(48:Nat)≠58)⟩
theorem Vr.cell {w0 w1:World}{V:Nat}{vs:List dL}{RS:List (Nat×TypeId×Array Value)} (h:Vr w0 V RS vs w1):∃A c,w1.cell? ⟨V,0,none⟩=some (.slice A vs.length c)∧Own w1 62 3 (.slice A vs.length c) vs.length (bB vs)∧w1.frozen? ⟨V,0,none⟩=false∧V<w1.heap.size:=by
 obtain⟨A,c,hb,ho,_⟩:=h.vc;exact⟨A,c,(hb.cell 0).trans rfl,ho,hb.frozen 0,hb.lt⟩
theorem xX (PF:PgF g ub zb w){node k:Nat}{f:aD} (hk:g.p.fn[node]?=some k) (hf:g.p.fs[k]?=some f):
  Calls Tryz.prog 34 #[.agg #[.slice (some ⟨g.nb,0,none⟩) g.p.ns.length g.nc,.slice (some ⟨g.fb,0,none⟩) g.p.fs.length g.fc,.slice (some ⟨g.tb,0,none⟩) g.p.ns.length g.tc,.slice (some ⟨g.sb,0,none⟩) g.p.ns.length g.sc,.slice g.ua g.un g.uc,.slice g.za g.zn g.zc],.int .i64 (node:Nat)] w fun en w'=>∃A n c,en = .returned (.slice A n c)∧n=(xY g.p node f).length∧Own w' 62 3 (.slice A n c) n (bB (xY g.p node f))∧Fr nob w w':=by
 have hn:node<g.p.ns.length:=by rw[←PF.pg.is.lf];exact (gK hk)
 have hkf:k<g.p.fs.length:=(gK hf);have hf6:g.p.fs.length≤6:=PF.pg.is.tree.ok.fewf;have hn3:g.p.ns.length≤300:=PF.pg.is.tree.ok.few;have hp3:f.params.length≤3:=PF.pg.is.tree.ok.pars f (List.mem_of_getElem? hf);have HUA:=hD PF.ua;have HUN:=hD PF.un;have hbod:∃nd,g.p.ns[f.body]?=some nd∧nd.kind=18:=by
  obtain⟨c,h1,h2⟩:=PF.pg.is.tree.ok.bodies f (List.mem_of_getElem? hf);exact⟨c,h1,by simpa[nY] using h2⟩
 have hbl:f.body<g.p.ns.length:=by obtain⟨nd,h,_⟩:=hbod;exact (gK h)
 -- the world behind the two boxes
 have B0:=Blk.new w 29 #[.slice (some ⟨g.nb,0,none⟩) g.p.ns.length g.nc,.slice (some ⟨g.fb,0,none⟩) g.p.fs.length g.fc,.slice (some ⟨g.tb,0,none⟩) g.p.ns.length g.tc,.slice (some ⟨g.sb,0,none⟩) g.p.ns.length g.sc,.slice g.ua g.un g.uc,.slice g.za g.zn g.zc];have BP:=hD (B0.alloc (.cells #[.int .i64 (node:Nat)] 3));have BN:=hD (show Blk ((w.alloc (.cells #[.slice (some ⟨g.nb,0,none⟩) g.p.ns.length g.nc,.slice (some ⟨g.fb,0,none⟩) g.p.fs.length g.fc,.slice (some ⟨g.tb,0,none⟩) g.p.ns.length g.tc,.slice (some ⟨g.sb,0,none⟩) g.p.ns.length g.sc,.slice g.ua g.un g.uc,.slice g.za g.zn g.zc] 29)).alloc (.cells #[.int .i64 (node:Nat)] 3)) (w.heap.size+1) 3 #[.int .i64 (node:Nat)] from by
  have:=Blk.new (w.alloc (.cells #[.slice (some ⟨g.nb,0,none⟩) g.p.ns.length g.nc,.slice (some ⟨g.fb,0,none⟩) g.p.fs.length g.fc,.slice (some ⟨g.tb,0,none⟩) g.p.ns.length g.tc,.slice (some ⟨g.sb,0,none⟩) g.p.ns.length g.sc,.slice g.ua g.un g.uc,.slice g.za g.zn g.zc] 29)) 3 #[.int .i64 (node:Nat)];rw[World.size_alloc] at this;exact this)
 have F1:=hD (((fR w).alloc (.cells #[.slice (some ⟨g.nb,0,none⟩) g.p.ns.length g.nc,.slice (some ⟨g.fb,0,none⟩) g.p.fs.length g.fc,.slice (some ⟨g.tb,0,none⟩) g.p.ns.length g.tc,.slice (some ⟨g.sb,0,none⟩) g.p.ns.length g.sc,.slice g.ua g.un g.uc,.slice g.za g.zn g.zc] 29)).alloc (.cells #[.int .i64 (node:Nat)] 3));have HPF:=hD PF;have HK:=hD hk;have HF:=hD hf;have HBOD:=hD hbod;have HBL:=hD hbl;clear B0 PF hk hf hbod hbl;go_enter Tryz.func34,Tryz.ntmps34;go_upto_region 1 with fail;generalize (w.alloc (.cells #[.slice (some ⟨g.nb,0,none⟩) g.p.ns.length g.nc,.slice (some ⟨g.fb,0,none⟩) g.p.fs.length g.fc,.slice (some ⟨g.tb,0,none⟩) g.p.ns.length g.tc,.slice (some ⟨g.sb,0,none⟩) g.p.ns.length g.sc,.slice g.ua g.un g.uc,.slice g.za g.zn g.zc] 29)).alloc (.cells #[.int .i64 (node:Nat)] 3)=w1 at *;generalize w.heap.size+1=N at *;generalize w.heap.size=P at *;obtain⟨pv,hpo,d0,d1,d2,d3,d4⟩:=HPF.out.pg.tree.fn HF.out;obtain⟨PA,PC,rfl,hpc,-⟩:=hpo.cap;have u0:=HPF.out.fnc HK.out;have HPO:=hD hpo;obtain⟨p0,p1,p2,p3,p4,p5,-⟩:=BP.out.sixth;have n0:=(BN.out.cell 0).trans rfl;rw[HUA.out,HUN.out] at p4;have hn5:(node:Int)<(g.p.ns.length:Int):=by omega
 have hk5:(k:Int)<(g.p.fs.length:Int):=by omega
 have HK2:=hD (show ∀wx,Fr nob w1 wx→wx.cell? ⟨P,1,none⟩=some (.slice (some ⟨g.fb,0,none⟩) g.p.fs.length g.fc)∧wx.cell? ⟨P,4,none⟩=some (.slice (some ⟨ub,0,none⟩) g.p.ns.length g.uc)∧wx.cell? ⟨N,0,none⟩=some (.int .i64 (node:Nat))∧wx.cell? ⟨ub,node,none⟩=some (.int .i64 (k:Nat))∧wx.cell? ⟨g.fb,k*5,none⟩=some (.string (bs f.name))∧wx.cell? ⟨g.fb,k*5+1,none⟩=some (.int .i64 f.line)∧wx.cell? ⟨g.fb,k*5+2,none⟩=some (.slice PA f.params.length PC)∧wx.cell? ⟨g.fb,k*5+3,none⟩=some (.int .i64 f.ret)∧wx.cell? ⟨g.fb,k*5+4,none⟩=some (.int .i64 f.body) from fun wx fx=>by
  have c:∀{b o:Nat} {v:Value},w1.cell? ⟨b,o,none⟩=some v→wx.cell? ⟨b,o,none⟩=some v:=fun h=>(fx.cell (World.block_lt_of_cell? _ _ h) (fun x=>x)).trans h
  have d:∀{b o:Nat} {v:Value},w.cell? ⟨b,o,none⟩=some v→wx.cell? ⟨b,o,none⟩=some v:=fun h=>((F1.out.tr fx).cell (World.block_lt_of_cell? _ _ h) (fun x=>x)).trans h
  exact⟨c p1,c p4,c n0,d u0,d d0,d d1,d d2,d d3,d d4⟩)
 have BP3:=hD ((BP.out.alloc (.cells #[.string (bs f.name),.int .i64 (f.line:Nat),.slice PA f.params.length PC,.int .i64 (f.ret:Nat),.int .i64 (f.body:Nat)] 48)).fr ((fR _).drew) (fun x=>x));have BN3:=hD ((BN.out.alloc (.cells #[.string (bs f.name),.int .i64 (f.line:Nat),.slice PA f.params.length PC,.int .i64 (f.ret:Nat),.int .i64 (f.body:Nat)] 48)).fr ((fR _).drew) (fun x=>x));have F3:=hD ((F1.out.alloc (.cells #[.string (bs f.name),.int .i64 (f.line:Nat),.slice PA f.params.length PC,.int .i64 (f.ret:Nat),.int .i64 (f.body:Nat)] 48)).tr ((fR _).drew));have BF3:=hD ((Blk.new w1 48 #[.string (bs f.name),.int .i64 (f.line:Nat),.slice PA f.params.length PC,.int .i64 (f.ret:Nat),.int .i64 (f.body:Nat)]).fr ((fR _).drew) (fun x=>x));clear hpo;go_wp2_with fail
 go_region_held3 (fun wx=>wx.cell? ⟨P,1,none⟩=some (.slice (some ⟨g.fb,0,none⟩) g.p.fs.length g.fc)∧wx.cell? ⟨P,4,none⟩=some (.slice (some ⟨ub,0,none⟩) g.p.ns.length g.uc)∧wx.cell? ⟨N,0,none⟩=some (.int .i64 (node:Nat))∧wx.cell? ⟨ub,node,none⟩=some (.int .i64 (k:Nat))∧wx.cell? ⟨g.fb,k*5,none⟩=some (.string (bs f.name))∧wx.cell? ⟨g.fb,k*5+1,none⟩=some (.int .i64 f.line)∧wx.cell? ⟨g.fb,k*5+2,none⟩=some (.slice PA f.params.length PC)∧wx.cell? ⟨g.fb,k*5+3,none⟩=some (.int .i64 f.ret)∧wx.cell? ⟨g.fb,k*5+4,none⟩=some (.int .i64 f.body)) (first|exact HK2.out _ ((fR w1).drew)|exact HK2.out _ (((fR w1).drew).alloc _)) (fail)
 clear HK2 d0 d1 d2 d3 d4 u0 p0 p1 p2 p3 p4 p5 n0 BP BN F1 hn5 hk5;generalize (w1.alloc (.cells #[.string (bs f.name),.int .i64 (f.line:Nat),.slice PA f.params.length PC,.int .i64 (f.ret:Nat),.int .i64 (f.body:Nat)] 48)).drew=w3 at *;generalize w1.heap.size=FB at *;have V0:=hD (Vr.start F3.out BP3.out BN3.out BF3.out);clear BP3 BN3 F3;go_upto_region 3 with fail;generalize w3.alloc (.cells #[.slice none 0 0] 58)=w4 at *;generalize w3.heap.size=V at *;obtain⟨m,hm⟩:∃m,f.params.length=m:=⟨_,rfl⟩;have HM:=hD hm;rw[hm] at V0 HPO BF3 hpc hp3;have q2:=(V0.out.blks.2.2.cell 2).trans rfl;have hpcI:(m:Int)≤(PC:Int):=by omega
 have hp3I:(m:Int)≤3:=by omega
 clear hm BF3;go_wp2_with fail
 clear q2;go_loopw [23] (fun i wr=>∃j:Nat,j≤m∧i = .int .i64 j∧Hid (Vr w V (aEz g P N FB node #[.string (bs f.name),.int .i64 (f.line:Nat),.slice PA m PC,.int .i64 (f.ret:Nat),.int .i64 (f.body:Nat)]) (xS (f.params.take j)) wr) ) (fun i _=>m - (intOf i).toNat)
 case atStart=>exact⟨0,Nat.zero_le _,rfl,V0⟩
 case round=>
  clear V0;obtain⟨j,hj,rfl,SS⟩:=hrel;by_cases hlt:j<m
  · obtain⟨q,hq⟩:∃q,f.params[j]?=some q:=⟨_,gE (by rw[HM.out];exact hlt)⟩
    obtain⟨vs,hvs⟩:∃vs,xS (f.params.take j)=vs:=⟨_,rfl⟩;have hl:vs.length=j:=by rw[←hvs,aBd,List.length_take];have:=HM.out;omega
    have NX:=hD (show xS (f.params.take (j+1))=vs++[⟨q.1,q.2,j⟩] from by
     rw[List.take_add_one,hq]
     show xS (f.params.take j++[q])=_
     rw[aHe,hvs,List.length_take,Nat.min_eq_left (by have:=HM.out;omega)])
    rw[hvs] at SS;clear hvs;subst hl;obtain⟨pb,e,pc⟩:=(HPO.out.fr SS.out.fr (fun _ _ x=>x)).some (by omega);have q0:=pc _ _ (dQ hq).1;have q1:=pc _ _ (dQ hq).2;subst e;obtain⟨A,C,v0,hvo,-,-⟩:=SS.out.cell;have hlt2:(vs.length:Int)<(m:Int):=by omega
    have hvs3:vs.length≤3:=by omega
    have HJ:=hD hlt;have HVS:=hD hvs3;have HHV:=hD v0;have HV:=hD ((hvo.alloc (.cells #[.string (bs q.1),.int .i64 (q.2:Nat)] 101)).alloc (.cells #[.string (bs q.1),.int .i64 (q.2:Nat),.int .i64 (vs.length:Nat)] 62));have HR:=hD (Rd.fC (n:=1) (size:=3) (cs:=[.string (bs q.1),.int .i64 (q.2:Nat),.int .i64 (vs.length:Nat)]) (Blk.new (wr.alloc (.cells #[.string (bs q.1),.int .i64 (q.2:Nat)] 101)) 62 [.string (bs q.1),.int .i64 (q.2:Nat),.int .i64 (vs.length:Nat)].toArray) rfl (by decide));have v0b:(wr.alloc (.cells #[.string (bs q.1),.int .i64 (q.2:Nat)] 101)).cell? ⟨V,0,none⟩=some (.slice A vs.length C):=((fR wr).alloc _).cell (World.block_lt_of_cell? _ _ v0) (fun x=>x) |>.trans v0;clear hq pc hvo hlt hj v0;go_wp2_with (at_builtin;revert HJ)
    intro HJ;rw[World.size_alloc] at HR;refine aL (v:= .slice A vs.length C) (n:=vs.length) (m:=1) (xs:=bB vs) (news:=[.string (bs q.1),.int .i64 (q.2:Nat),.int .i64 (vs.length:Nat)]) rfl _ _ rfl aOt rfl rfl HV.out HR.out (by simp[Value.oneCell']) (by have:=HVS.out;omega) (by unfold maxLen;have:=HVS.out;omega) ?_;intro A6 c6 w6 ho6 hf6 hv6;obtain⟨av,f0,vlt,c0,-⟩:=SS.out.app (v:=⟨q.1,q.2,vs.length⟩) HHV.out (((fR wr).alloc (.cells #[.string (bs q.1),.int .i64 (q.2:Nat)] 101)).alloc (.cells #[.string (bs q.1),.int .i64 (q.2:Nat),.int .i64 (vs.length:Nat)] 62)) ho6 hf6 hv6;have AV:=hD av;clear av ho6 hf6 hv6 SS HV HR q0 q1 v0b hvs3;go_wp2_with fail
    go_roundw
    case rel=>exact⟨vs.length+1,by have:=HJ.out;omega,by go_num,by rw[NX.out];exact AV⟩
    case measure=>simp[intOf];have:=HJ.out;omega
  · have hjm:j=m:=by omega
    subst hjm;have hlt2:¬(j:Int)<(j:Int):=by omega
    have SS2:=hD (show Vr w V (aEz g P N FB node #[.string (bs f.name),.int .i64 (f.line:Nat),.slice PA j PC,.int .i64 (f.ret:Nat),.int .i64 (f.body:Nat)]) (xS f.params) wr from by have:=SS.out;rw[List.take_of_length_le (Nat.le_of_eq HM.out)] at this;exact this);clear SS hlt hj;go_upto_region 9 with fail;have F5:=hD ((fR wr).alloc (.cells #[.nilFunc] 74));have B5:=hD (Blk.new wr 74 #[.nilFunc]);have hw:=Nat.le_refl wr.heap.size;generalize hFN:wr.heap.size=FN at *;generalize wr.alloc (.cells #[.nilFunc] 74)=w5 at *;have F6:=hD (show Fr nob wr (w5.setCell ⟨FN,0,none⟩ (.func (.func 63) #[] (pR V P N FN))) from F5.out.trans ((Fr.refl (bZ FN) w5).setCell _ _ (fun _=>rfl)) (fun _ _ x=>x) (fun b hlt hm=>by have hm:b=FN:=hm;omega));have B6:=hD (show Blk (w5.setCell ⟨FN,0,none⟩ (.func (.func 63) #[] (pR V P N FN))) FN 74 #[.func (.func 63) #[] (pR V P N FN)] from B5.out.setCell 0 _);have W6:=hD (show Vw g w V P N FN node (xS f.params) (w5.setCell ⟨FN,0,none⟩ (.func (.func 63) #[] (pR V P N FN))) from ⟨(SS2.out.no F6.out).fr,(SS2.out.no F6.out).vc,(SS2.out.no F6.out).hV,(SS2.out.no F6.out).blks.1,(SS2.out.no F6.out).blks.2.1,B6.out⟩);have BF6:=hD (SS2.out.no F6.out).blks.2.2;have hmf:∀(fn:Fn) (first cap:Array Value) (w:World),(Instr.makeFunc fn first cap).run Tryz.prog w = .ok (.func fn first cap) w:=fun _ _ _ _=>rfl
    have g0:=(B5.out.cell 0).trans rfl;have g1:=B5.out.frozen 0;have g2:=B5.out.lt;clear F5 B5 hFN SS2 hw F6;have HV:=hD (aAm HPF.out.pg g.p.ns.length f.body (xS f.params) _ HBL.out HBOD.out (by rw[aBd];have:=HM.out;omega) W6.out);clear W6;go_upto_region 10 with fail;unfold pR at HV BF6 B6;generalize w5.setCell ⟨FN,0,none⟩ (.func (.func 63) #[] #[.pointer (some ⟨V,0,none⟩),.pointer (some ⟨P,0,none⟩),.pointer (some ⟨N,0,none⟩),.pointer (some ⟨FN,0,none⟩)])=w6 at *;have r0:=(B6.out.cell 0).trans rfl;have r4:=(BF6.out.cell 4).trans rfl;clear B6 BF6 g0 g1 g2 hmf;go_wp2_with fail
    clear r0 r4;refine HV.out.mono ?_;rintro en w7 ⟨rfl,h7⟩;obtain⟨bb,hbb⟩:∃bb,(vL g.p.ns g.p.types g.p.slots node g.p.ns.length f.body (xS f.params)).1=bb:=⟨_,rfl⟩;rw[hbb];have HBB:=hD hbb;have W7:=hD h7;clear h7 hbb HV;cases bb with
    | true=>
     obtain⟨vs,hvs⟩:∃vs,(vL g.p.ns g.p.types g.p.slots node g.p.ns.length f.body (xS f.params)).2=vs:=⟨_,rfl⟩;have HE:=hD (show xY g.p node f=vs from by unfold xY;rw[HBB.out,if_pos rfl,hvs]);rw[hvs] at W7;clear hvs;obtain⟨-,-,-,-,-,A,C,d5,ho,-,-⟩:=W7.out.cells;have HO:=hD ho;clear ho;go_wp2_with fail
     go_ret;rw[HE.out];exact⟨A,vs.length,C,rfl,rfl,HO.out,W7.out.fr⟩
    | false=>
     have HE:=hD (show xY g.p node f=[] from by unfold xY;rw[HBB.out,if_neg (by decide)]);go_wp2_with fail
     go_ret;rw[HE.out];exact⟨none,0,0,rfl,rfl,Own.nil _ _ _,W7.out.fr⟩
end
def ex4:List UInt8:=[102,110,32,109,97,105,110,40,41,32,123,32,108,101,116,32,97,32,61,32,49,59,32,112,114,105,110,116,32,97,59,32,125]
def aPw:fK:=⟨[⟨1,1,1,[],[]⟩,⟨10,1,0,[97],[0]⟩,⟨4,1,0,[97],[]⟩,⟨14,1,0,[],[2]⟩,⟨18,1,0,[],[1,3]⟩],[⟨[109,97,105,110],1,[],0,4⟩],[1,0,1,0,0],[-1,0,0,-1,-1],[0,0,0,0,0],[1]⟩
theorem aIt:eX ex4=some (.good aPw):=by kernel_rfl
theorem aOl:(xY aPw 3 ⟨[109,97,105,110],1,[],0,4⟩).length=1:=by kernel_rfl
theorem aCr {V:World→Prop} (HQ:aRg V) (w:World) (hv:V w):Calls Tryz.prog 26 #[] w fun e w'=>e = .returned (.bool true)∧Fr nob w w':=by
 have HS:=hD (HQ.src ⟨#[102,110,32,109,97,105,110,40,41,32,123,32,108,101,116,32,97,32,61,32,49,59,32,112,114,105,110,116,32,97,59,32,125]⟩ w hv (by decide) (.good aPw) aIt);have HI:=hD (mI aIt).1;clear hv HQ;go_enter Tryz.func26,Tryz.ntmps26;go_wp2_with fail
 refine HS.out.mono ?_;rintro e w1 ⟨hs,hf⟩;obtain⟨g,ub,zb,hg,pf,rfl⟩:=jG hs HI.out;have P1:=hD pf;have F1:=hD hf;have HG:=hD hg;rw[pf.val];clear hs hf pf hg HS;have FA:=hD (show Fr nob w1 (w1.alloc (.cells #[.slice (some ⟨g.nb,0,none⟩) g.p.ns.length g.nc,.slice (some ⟨g.fb,0,none⟩) g.p.fs.length g.fc,.slice (some ⟨g.tb,0,none⟩) g.p.ns.length g.tc,.slice (some ⟨g.sb,0,none⟩) g.p.ns.length g.sc,.slice (some ⟨ub,0,none⟩) g.p.ns.length g.uc,.slice (some ⟨zb,0,none⟩) g.p.fs.length g.zc] 29)) from (fR w1).alloc _);have P2:=hD (P1.out.no FA.out);have F2:=hD (F1.out.tr FA.out);have BP:=hD (Blk.new w1 29 #[.slice (some ⟨g.nb,0,none⟩) g.p.ns.length g.nc,.slice (some ⟨g.fb,0,none⟩) g.p.fs.length g.fc,.slice (some ⟨g.tb,0,none⟩) g.p.ns.length g.tc,.slice (some ⟨g.sb,0,none⟩) g.p.ns.length g.sc,.slice (some ⟨ub,0,none⟩) g.p.ns.length g.uc,.slice (some ⟨zb,0,none⟩) g.p.fs.length g.zc]);have HV:=hD (xX P2.out (node:=3) (k:=0) (f:=⟨[109,97,105,110],1,[],0,4⟩) (by rw[HG.out];rfl) (by rw[HG.out];rfl));rw[P2.out.ua,P2.out.za,P2.out.un,P2.out.zn,HG.out,aOl] at HV;have y0:=P2.out.tyc (x:=2) (k:=1) (by rw[HG.out];rfl);have y1:=P2.out.slc (x:=1) (k:=0) (by rw[HG.out];rfl);have y2:=P2.out.szc (x:=0) (k:=1) (by rw[HG.out];rfl);rw[HG.out] at BP FA P2 F2 y0 y1 y2;rw[HG.out];clear P1 FA F1;rw[show aPw.ns.length=5 from rfl,show aPw.fs.length=1 from rfl] at *;go_wp2_with fail
 generalize w1.alloc (.cells #[.slice (some ⟨g.nb,0,none⟩) 5 g.nc,.slice (some ⟨g.fb,0,none⟩) 1 g.fc,.slice (some ⟨g.tb,0,none⟩) 5 g.tc,.slice (some ⟨g.sb,0,none⟩) 5 g.sc,.slice (some ⟨ub,0,none⟩) 5 g.uc,.slice (some ⟨zb,0,none⟩) 1 g.zc] 29)=w2 at *;generalize w1.heap.size=PB at *;obtain⟨p0,p1,p2,p3,p4,p5,_⟩:=BP.out.sixth;go_wp2_with fail
 refine HV.out.mono ?_;rintro e w3 ⟨A,n,c,rfl,hn,-,hf⟩;subst hn;have F3:=hD (F2.out.tr hf);clear hf;go_wp2_with fail
 go_ret;exact⟨rfl,F3.out⟩
def RK {α β:Type} (d:Nat) (P:α→β→Prop) (r:CkR α) (q:CkR β):Prop:=match r,q with
 | .good a,.good b=>P a b
 | .bad e x,.bad e' x'=>e=e'∧x'=x+d
 | _,_=>False
theorem RK.bind {α β γ δ:Type}{d:Nat}{P:α→β→Prop}{Q:γ→δ→Prop}{r:CkR α}{q:CkR β}{f:α→CkR γ}{g:β→CkR δ} (h:RK d P r q) (hf:∀a b,P a b→RK d Q (f a) (g b)):RK d Q (r.bind f) (q.bind g):=by
 cases r with
 | bad e x=>
  cases q with
  | bad e' x'=>exact h
  | good b=>exact h.elim
 | good a=>
  cases q with
  | bad e' x'=>exact h.elim
  | good b=>exact hf a b h
theorem RK.map {α β γ δ:Type}{d:Nat}{P:α→β→Prop}{Q:γ→δ→Prop}{r:CkR α}{q:CkR β}{f:α→γ}{g:β→δ} (h:RK d P r q) (hf:∀a b,P a b→Q (f a) (g b)):RK d Q (r.map f) (q.map g):=by
 cases r with
 | bad e x=>
  cases q with
  | bad e' x'=>exact h
  | good b=>exact h.elim
 | good a=>
  cases q with
  | bad e' x'=>exact h.elim
  | good b=>exact hf a b h
theorem RK.bad {α β:Type}{d:Nat}{P:α→β→Prop} (e x:Nat):RK d P (.bad e x:CkR α) (.bad e (x+d):CkR β):=⟨rfl,rfl⟩
structure SS (N d c:Nat) (s s':CkS):Prop where
 vars:s'.vars=s.vars
 size:s'.size=s.size
 lt:s.types.length=N
 ls:s.slots.length=N
 lf:s.fn.length=N
 lt':N+d≤s'.types.length
 ls':N+d≤s'.slots.length
 lf':N+d≤s'.fn.length
 ty:∀i,i<N→s'.types[i+d]?=s.types[i]?
 sl:∀i,i<N→s'.slots[i+d]?=s.slots[i]?
 fn:c=0→∀i,i<N→s'.fn[i+d]?=s.fn[i]?
section
variable {N d c k x:Nat}{s s':CkS}{ns ns':List aF}{fs fs':List aD}{ex ex':Nat→CkS→CkR (Nat×CkS)}{bl bl':Nat→CkS→CkR CkS}
theorem yK {α:Type}{l l':List α}{f:α→α}{N d x:Nat}{v:α} (hl:l.length=N) (hl':N+d≤l'.length) (h:∀i,i<N→l'[i+d]?=l[i]?.map f):∀i,i<N→(l'.set (x+d) (f v))[i+d]?=(l.set x v)[i]?.map f:=fun i hi=>by
 rw[List.getElem?_set,List.getElem?_set];by_cases e:x=i
 · subst e
   rw[if_pos rfl,if_pos rfl,if_pos (by omega),if_pos (by omega)];rfl
 · rw[if_neg (by omega),if_neg e];exact h i hi
theorem map_id' {α:Type} (o:Option α):o.map (fun a=>a)=o:=by cases o<;>rfl
theorem SS.aQt (h:SS N d c s s') (x t:Nat):SS N d c { s with types:=s.types.set x t } { s' with types:=s'.types.set (x+d) t }:=
 ⟨h.vars,h.size,by simpa using h.lt,h.ls,h.lf,by simpa using h.lt',h.ls',h.lf',fun i hi=>by
  have:=yK (f:=fun a=>a) (x:=x) (v:=t) h.lt h.lt' (fun i hi=>by rw[map_id'];exact h.ty i hi) i hi;rw[map_id'] at this;exact this,h.sl,h.fn⟩
theorem SS.aPg (h:SS N d c s s') (x:Nat) (t:Int):SS N d c { s with slots:=s.slots.set x t } { s' with slots:=s'.slots.set (x+d) t }:=
 ⟨h.vars,h.size,h.lt,by simpa using h.ls,h.lf,h.lt',by simpa using h.ls',h.lf',h.ty,fun i hi=>by
  have:=yK (f:=fun a=>a) (x:=x) (v:=t) h.ls h.ls' (fun i hi=>by rw[map_id'];exact h.sl i hi) i hi;rw[map_id'] at this;exact this,h.fn⟩
theorem SS.mE (h:SS N d c s s') (x t:Nat):SS N d c { s with fn:=s.fn.set x t } { s' with fn:=s'.fn.set (x+d) (t+c) }:=
 ⟨h.vars,h.size,h.lt,h.ls,by simpa using h.lf,h.lt',h.ls',by simpa using h.lf',h.ty,h.sl,fun e i hi=>by
  subst e;have:=yK (f:=fun a=>a) (x:=x) (v:=t) h.lf h.lf' (fun i hi=>by rw[map_id'];exact h.fn rfl i hi) i hi;rw[map_id'] at this;exact this⟩
theorem SS.aQs (h:SS N d c s s') (vs:List dL) (z:Nat):SS N d c { s with vars:=vs,size:=z } { s' with vars:=vs,size:=z }:=⟨rfl,rfl,h.lt,h.ls,h.lf,h.lt',h.ls',h.lf',h.ty,h.sl,h.fn⟩
def PA (N d c:Nat) (a b:Nat×CkS):Prop:=a.1=b.1∧SS N d c a.2 b.2
def aOu (N d c:Nat) (ex ex':Nat→CkS→CkR (Nat×CkS)) (x:Nat):Prop:=∀s s',SS N d c s s'→RK d (PA N d c) (ex x s) (ex' (x+d) s')
def aRe (N d c:Nat) (bl bl':Nat→CkS→CkR CkS) (x:Nat):Prop:=∀s s',SS N d c s s'→RK d (SS N d c) (bl x s) (bl' (x+d) s')
def NS (d:Nat) (ns ns':List aF):Prop:=∀(x:Nat) (nd:aF),ns[x]?=some nd→∃line,ns'[x+d]?=some ⟨nd.kind,line,nd.n,nd.name,nd.l.map (· + d)⟩
structure FS (d c:Nat) (zz:List UInt8) (fs fs':List aD):Prop where
 find:∀nm,nm≠zz→findF fs' nm=(findF fs nm).map (· + c)
 at_:∀(j:Nat) (f:aD),fs[j]?=some f→∃g,fs'[j+c]?=some g∧g.params=f.params∧g.ret=f.ret∧g.body=f.body+d
theorem pF (h:SS N d c s s') (x:Nat) (nm:List UInt8):RK d (PA N d c) (dV x nm s) (dV (x+d) nm s'):=by
 unfold dV;rw[show dR s'.vars nm=dR s.vars nm by rw[h.vars]];cases dR s.vars nm with
 | none=>exact RK.bad _ _
 | some v=>exact⟨rfl,h.aPg x v.slot⟩
theorem aJj:∀(l:List Nat),(∀a∈l,aOu N d c ex ex' a)→∀s s',SS N d c s s'→RK d (fun a b=>a.1=b.1∧SS N d c a.2 b.2) (dG ex l s) (dG ex' (l.map (· + d)) s')
 | [],_,s,s',h=>⟨rfl,h⟩
 | a :: l,hl,s,s',h=>(hl a (by simp) s s' h).bind fun u v ⟨h1,h2⟩=>(aJj l (fun b hb=>hl b (by simp[hb])) u.2 v.2 h2).map fun p q ⟨h3,h4⟩=>⟨by rw[h1,h3],h4⟩
theorem RK.ite {α β:Type}{d:Nat}{P:α→β→Prop}{p q:Prop} [Decidable p] [Decidable q] (h:p↔q){a b:CkR α}{a' b':CkR β} (h1:p→RK d P a a') (h2:¬p→RK d P b b'):RK d P (if p then a else b) (if q then a' else b'):=by
 by_cases hp:p
 · rw[if_pos hp,if_pos (h.1 hp)];exact h1 hp
 · rw[if_neg hp,if_neg (fun e=>hp (h.2 e))];exact h2 hp
theorem RK.fin {d:Nat}{p q:Prop} [Decidable p] [Decidable q] (h:p↔q){t e x:Nat}{u v:CkS} (hs:SS N d c u v):RK d (PA N d c) (if p then .good (t,u) else .bad e x) (if q then .good (t,v) else .bad e (x+d)):=RK.ite h (fun _=>⟨rfl,hs⟩) (fun _=>RK.bad _ _)
theorem aOo {zz:List UInt8} (hF:FS d c zz fs fs'){x line line':Nat}{nm:List UInt8}{l:List Nat} (hn:nm≠zz) (hl:∀a∈l,aOu N d c ex ex' a) (h:SS N d c s s'):
  RK d (PA N d c) (mY fs ex x ⟨21,line,0,nm,l⟩ s) (mY fs' ex' (x+d) ⟨21,line',0,nm,l.map (· + d)⟩ s'):=by
 unfold mY;dsimp only;rw[hF.find nm hn];cases hf:findF fs nm with
 | none=>exact RK.bad _ _
 | some j=>
  obtain⟨f,hj⟩:∃f,fs[j]?=some f:=⟨_,gE (by unfold findF at hf;exact (List.findIdx?_eq_some_iff_getElem.1 hf).1)⟩;obtain⟨g,g1,g2,g3,_⟩:=hF.at_ j f hj;simp only[Option.map_some];rw[hj,g1];refine (aJj l hl s s' h).bind fun u v ⟨h1,h2⟩=>?_
  simp only[Option.map_some,Option.getD_some];rw[g2,g3,h1];exact RK.ite Iff.rfl (fun _=>RK.bad _ _) fun _=>RK.ite Iff.rfl (fun _=>RK.bad _ _) fun _=>⟨rfl,h2⟩
theorem aKj {zz:List UInt8} (hF:FS d c zz fs fs'){x line':Nat}{nd:aF}{ms:List aF} (hok:dO ms nd) (hR:nH nd.kind=true) (hz:nd.name≠zz) (hl:∀a∈nd.l,aOu N d c ex ex' a) (h:SS N d c s s'):
  RK d (PA N d c) (dB fs ex x nd s) (dB fs' ex' (x+d) ⟨nd.kind,line',nd.n,nd.name,nd.l.map (· + d)⟩ s'):=by
 cases hok with
 | int line n hn=>exact⟨rfl,h⟩
 | bool line n hn=>exact⟨rfl,h⟩
 | text line nm=>exact⟨rfl,h⟩
 | input line=>exact⟨rfl,h⟩
 | var line nm=>exact pF h x nm
 | index line nm a ha=>exact (pF h x nm).bind fun t t' ⟨h1,h2⟩=>(hl a (by simp) _ _ h2).bind fun r r' ⟨h3,h4⟩=>RK.fin (by rw[h1,h3]) h4
 | len line a ha=>exact (hl a (by simp) _ _ h).bind fun r r' ⟨h3,h4⟩=>RK.fin (by rw[h3]) h4
 | neg line a ha=>exact (hl a (by simp) _ _ h).bind fun r r' ⟨h3,h4⟩=>RK.fin (by rw[h3]) h4
 | not line a ha=>exact (hl a (by simp) _ _ h).bind fun r r' ⟨h3,h4⟩=>RK.fin (by rw[h3]) h4
 | new line a ha=>exact (hl a (by simp) _ _ h).bind fun r r' ⟨h3,h4⟩=>RK.fin (by rw[h3]) h4
 | bin line nm a b hs ha hb=>
  refine (hl a (by simp) _ _ h).bind ?_;rintro r r' ⟨h3,h4⟩;refine (hl b (by simp) _ _ h4).bind ?_;rintro q q' ⟨h5,h6⟩;rw[h3,h5];exact RK.ite Iff.rfl (fun _=>RK.bad _ _) fun _=>⟨rfl,h6⟩
 | call line nm l hk=>exact aOo hF hz hl h
 | _=>simp[nH,iQ] at hR
theorem aIq {zz:List UInt8} (hn:aZ ns) (hN:NS d ns ns') (hF:FS d c zz fs fs') (hz:∀nd∈ns,nd.name≠zz):∀(f f' x:Nat) (nd:aF),ns[x]?=some nd→nH nd.kind=true→x<f→x+d<f'→aOu N d c (gJ ns fs k f) (gJ ns' fs' (k+c) f') x
 | 0,_,_,_,_,_,h,_=>absurd h (Nat.not_lt_zero _)
 | _,0,_,_,_,_,_,h=>absurd h (Nat.not_lt_zero _)
 | f+1,f'+1,x,nd,hx,hR,h1,h2=>fun s s' h=>by
  obtain⟨line,hx'⟩:=hN x nd hx;unfold gJ;rw[hx,hx'];refine (aKj hF (hn x nd hx) hR (hz nd (List.mem_of_getElem? hx)) (fun a ha=>?_) h).map fun u v ⟨h3,h4⟩=>⟨h3,?_⟩
  · have hlt:=wU hn hx a ha
    obtain⟨na,hna⟩:∃na,ns[a]?=some na:=⟨_,gE (by have:=(gK hx);omega)⟩;refine aIq hn hN hF hz f f' a na hna ?_ (by omega) (by omega);have hE:∀n,iQ n=true→nH n=true:=fun n h=>by unfold nH;rw[h];rfl
    have key:∀{b:Nat},Kid (ns.take x) iQ b→b=a→nH na.kind=true:=fun {b} hb e=>by
     subst e;obtain⟨_,cc,hc1,hc2⟩:=hb.take;rw[hna] at hc1;injection hc1 with hc1;subst hc1;exact hE _ hc2
    cases hn x nd hx with
    | int line n hn=>cases ha
    | bool line n hn=>cases ha
    | text line nm=>cases ha
    | var line nm=>cases ha
    | input line=>cases ha
    | index line nm b hb=>exact key hb (List.mem_singleton.1 ha).symm
    | len line b hb=>exact key hb (List.mem_singleton.1 ha).symm
    | neg line b hb=>exact key hb (List.mem_singleton.1 ha).symm
    | not line b hb=>exact key hb (List.mem_singleton.1 ha).symm
    | new line b hb=>exact key hb (List.mem_singleton.1 ha).symm
    | bin line nm b cc hs hb hc=>
     rcases List.mem_cons.1 ha with e|ha
     · exact key hb e.symm
     · exact key hc (List.mem_singleton.1 ha).symm
    | call line nm l hk=>exact key (hk a ha) rfl
    | _=>simp[nH,iQ] at hR
  · have:=(h4.aQt x u.1).mE x k
    rw[←h3];exact this
end
end Go.Proofs.YtlbjicjinnnboaaGreatDoor
