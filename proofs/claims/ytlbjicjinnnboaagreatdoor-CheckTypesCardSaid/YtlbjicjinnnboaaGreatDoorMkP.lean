/- MkP: CsE, KsA, KsB, KsQ, KqVa, KqVb, RgLast, KqVc, KqVd, KqVe, KsH, QLaid. -/
import Derived.Test.YtlbjicjinnnboaaGreatDoorMkO
import Derived.Test.YtlbjicjinnnboaaGreatDoorMkG
import Derived.Test.YtlbjicjinnnboaaGreatDoorMkJ
import Derived.StillTailTactics
import Derived.Laws.EntriesVeiled
import Derived.Test.YtlbjicjinnnboaaGreatDoorMkH
import Derived.BigQuiet
import Derived.Test.YtlbjicjinnnboaaGreatDoorMkA
import Derived.Deep.RegionHeld
import Derived.StillTail
import Derived.Test.YtlbjicjinnnboaaGreatDoorMkF
import Derived.Test.YtlbjicjinnnboaaGreatDoorMkN
import Derived.Test.YtlbjicjinnnboaaGreatDoorVShelf
import Derived.Test.YtlbjicjinnnboaaGreatDoorRows
import Derived.ProofKit
import Derived.OpenShut
import Derived.LaidMore
import Derived.Lay
import Derived.HandedShaped
import Derived.Stop.Joined
set_option linter.unusedVariables false
set_option linter.unusedSimpArgs false
/- The checker: what is counted of a program's lets. -/
namespace Go.Proofs.YtlbjicjinnnboaaGreatDoor
open Go.RowKit
open Pw
theorem FnsDone.fn_of {ns:List NodeM}{fs l:List FuncM}{s:CkS}{k a b:Nat}{zs:List Nat} (h:FnsDone ns fs s k l zs a b) (hb:b≤ns.length):
  zs.length=l.length∧a≤b∧(∀y,a≤y→y<b→∃j,s.fn[y]?=some j∧k≤j∧j<k+l.length) ∧
  ∀(i:Nat) (f:FuncM),l[i]?=some f→∃z c d,zs[i]?=some z∧FnDone ns fs s (k+i) z f c d∧a≤c∧d≤b∧∀y,a≤y→y<b→(s.fn[y]?=some (k+i)↔(c≤y∧y<d)):=by
 induction h with
 | nil k a=>exact⟨rfl,Nat.le_refl _,fun y h1 h2=>by omega,fun i f hi=>by simp at hi⟩
 | cons k z f l zs a c b h h2 ih=>
  obtain⟨i1,i2,i3,i4⟩:=ih hb;have hle:=h.le;have fa:∀y,a≤y→y<c→s.fn[y]?=some k:=fun y h3 h4=>(h.at_ y _ h3 h4 (List.getElem?_eq_getElem (by omega))).fn
  refine⟨by simp[i1],by omega,fun y h3 h4=>?_,fun i g hi=>?_⟩
  · by_cases hy:y<c
    · exact⟨k,fa y h3 hy,Nat.le_refl _,by simp⟩
    · obtain⟨j,j1,j2,j3⟩:=i3 y (by omega) h4
      exact⟨j,j1,by omega,by simp only[List.length_cons];omega⟩
  · cases i with
    | zero=>
      simp at hi
      subst hi;refine⟨z,a,c,rfl,h,Nat.le_refl _,i2,fun y h3 h4=>⟨fun e=>⟨h3,?_⟩,fun e=>fa y h3 e.2⟩⟩;by_cases hy:y<c
      · exact hy
      · obtain⟨j,j1,j2,_⟩:=i3 y (by omega) h4
        rw[j1] at e;injection e with e;simp at e;omega
    | succ i=>
      simp at hi
      obtain⟨z',c',d',e1,e2,e3,e4,e5⟩:=i4 i g hi;rw[show k+1+i=k+(i+1) by omega] at e2 e5;refine⟨z',c',d',by simpa using e1,e2,by omega,e4,fun y h3 h4=>?_⟩;by_cases hy:y<c
      · have:=fa y h3 hy
        rw[this];exact⟨fun e=>by injection e with e;omega,fun e=>by omega⟩
      · exact e5 y (by omega) h4
section
variable {p:ProgM}
def cntL (p:ProgM) (i k:Nat):Nat:=(List.range' 0 i).countP fun y=>decide (kindN p.ns y=10) && decide (p.fn[y]?=some k)
def parL (p:ProgM) (k:Nat):Nat:=(p.fs[k]?.map (·.params.length)).getD 0
def nextL (p:ProgM) (i:Nat):List Nat:=(List.range p.fs.length).map fun k=>parL p k+cntL p i k
theorem nextL_get {i k:Nat} (hk:k<p.fs.length):(nextL p i)[k]?=some (parL p k+cntL p i k):=by
 unfold nextL;rw[List.getElem?_map,List.getElem?_range hk];rfl
theorem cntL_succ (i k:Nat):cntL p (i+1) k=cntL p i k+if kindN p.ns i=10∧p.fn[i]?=some k then 1 else 0:=by
 unfold cntL;rw[show List.range' 0 (i+1)=List.range' 0 i++[i] by
  have:=List.range'_append (s:=0) (m:=i) (n:=1) (step:=1);rw[←this];simp]
 rw[List.countP_append,List.countP_singleton];by_cases h1:kindN p.ns i=10<;>by_cases h2:p.fn[i]?=some k<;>simp[h1,h2]
theorem cntL_eq {k c d:Nat} (hin:∀y,y<p.ns.length→(p.fn[y]?=some k↔(c≤y∧y<d))) (hcd:c≤d):∀i,i≤p.ns.length→cntL p i k=if i≤c then 0 else letsN p.ns c (min i d)
 | 0,_=>by simp[cntL]
 | i+1,hi=>by
  rw[cntL_succ,cntL_eq hin hcd i (by omega)];have e:=hin i (by omega);by_cases h1:i+1≤c
  · rw[if_pos h1,if_pos (by omega),if_neg (show ¬(kindN p.ns i=10∧p.fn[i]?=some k) from fun h=>by have:=e.1 h.2;omega)]
  · rw[if_neg h1]
    by_cases h2:i<d
    · have e2:p.fn[i]?=some k:=e.2 ⟨by omega,h2⟩
      rw[Nat.min_eq_left (by omega:i+1≤d)];have e3:letsN p.ns c (i+1)=letsN p.ns c i+letsN p.ns i (i+1):=letsN_app (by omega) (by omega);rw[e3,letsN_one (List.getElem?_eq_getElem (by omega:i<p.ns.length))];have e4:kindN p.ns i=p.ns[i].kind:=by unfold kindN;rw[List.getElem?_eq_getElem (by omega:i<p.ns.length)];rfl
      rw[e4];by_cases h3:i≤c
      · have:i=c:=by omega
        subst this;rw[if_pos (Nat.le_refl _),letsN_self];simp[e2]
      · rw[if_neg h3,Nat.min_eq_left (by omega:i≤d)]
        simp[e2]
    · rw[if_neg (show ¬(kindN p.ns i=10∧p.fn[i]?=some k) from fun h=>h2 (e.1 h.2).2),Nat.min_eq_right (by omega:d≤i+1)]
      by_cases h3:i≤c
      · have:c=d:=by omega
        subst this;rw[if_pos h3,letsN_self]
      · rw[if_neg h3,Nat.min_eq_right (by omega:d≤i)];rfl
theorem sizes_start:nextL p 0=p.fs.map fun f=>f.params.length:=by
 apply List.ext_getElem?
 intro k;by_cases hk:k<p.fs.length
 · rw[nextL_get hk,List.getElem?_map,List.getElem?_eq_getElem hk]
   simp[parL,cntL,List.getElem?_eq_getElem hk]
 · rw[List.getElem?_eq_none (by unfold nextL;simp;omega),List.getElem?_eq_none (by simp;omega)]
theorem nextL_len (i:Nat):(nextL p i).length=p.fs.length:=by unfold nextL;simp
theorem sizes_other {i:Nat}{nd:NodeM} (hx:p.ns[i]?=some nd) (h:nd.kind≠10):nextL p (i+1)=nextL p i:=by
 unfold nextL;apply List.map_congr_left
 intro k _;rw[cntL_succ,if_neg (fun e=>h (by have:=e.1;unfold kindN at this;rw[hx] at this;exact this))];rfl
theorem sizes_let (hi:ProgIs p){i:Nat}{nd:NodeM} (hx:p.ns[i]?=some nd) (h:nd.kind=10):∃k v,p.fn[i]?=some k∧k<p.fs.length∧(nextL p i)[k]?=some v∧p.slots[i]?=some (v:Int)∧nextL p (i+1)=(nextL p i).set k (v+1):=by
 have hlt:=(List.getElem?_eq_some_iff.1 hx).1;obtain⟨h1,h2,h3,h4⟩:=hi.done.fn_of (Nat.le_refl _);obtain⟨k,hk,_,hk2⟩:=h3 i (Nat.zero_le _) hlt;have hk3:k<p.fs.length:=by omega
 obtain⟨z,c,d,e1,e2,e3,e4,e5⟩:=h4 k p.fs[k] (List.getElem?_eq_getElem hk3);rw[Nat.zero_add] at e2 e5;have hin:∀y,y<p.ns.length→(p.fn[y]?=some k↔(c≤y∧y<d)):=fun y hy=>e5 y (Nat.zero_le _) hy
 have hcd:=(hin i hlt).1 hk;have e6:=e2.lets i nd hcd.1 hcd.2 hx h;have e7:cntL p i k=letsN p.ns c i:=by
   rw[cntL_eq hin e2.le i (by omega)];by_cases h5:i≤c
   · have:i=c:=by omega
     subst this;rw[if_pos (Nat.le_refl _),letsN_self]
   · rw[if_neg h5,Nat.min_eq_left (by omega)]
 have e8:parL p k=p.fs[k].params.length:=by unfold parL;rw[List.getElem?_eq_getElem hk3];rfl
 refine⟨k,parL p k+cntL p i k,hk,hk3,nextL_get hk3,by rw[e7,e8];exact e6,?_⟩;apply List.ext_getElem?
 intro j;by_cases hj:j<p.fs.length
 · rw[nextL_get hj,List.getElem?_set,cntL_succ]
   have hkn:kindN p.ns i=10:=by unfold kindN;rw[hx];exact h
   by_cases hjk:k=j
   · subst hjk
     have hk':p.fn[i]?=some k:=hk;simp only[if_true];rw[if_pos (⟨hkn,hk'⟩:kindN p.ns i=10∧p.fn[i]?=some k),if_pos (by rw[nextL_len];exact hk3),Nat.add_assoc]
   · rw[if_neg hjk,if_neg (show ¬(kindN p.ns i=10∧p.fn[i]?=some j) from fun e=>hjk (by have h9:p.st.fn[i]?=some j:=e.2;rw[hk] at h9;injection h9)),nextL_get hj];rfl
 · rw[List.getElem?_eq_none (by rw[nextL_len];omega),List.getElem?_eq_none (by simp[nextL_len];omega)]
theorem sizes_end (hi:ProgIs p):nextL p p.ns.length=p.sizes:=by
 obtain⟨h1,h2,h3,h4⟩:=hi.done.fn_of (Nat.le_refl _);apply List.ext_getElem?
 intro k;by_cases hk:k<p.fs.length
 · obtain⟨z,c,d,e1,e2,e3,e4,e5⟩:=h4 k p.fs[k] (List.getElem?_eq_getElem hk)
   rw[Nat.zero_add] at e2 e5;have hin:∀y,y<p.ns.length→(p.fn[y]?=some k↔(c≤y∧y<d)):=fun y hy=>e5 y (Nat.zero_le _) hy
   rw[nextL_get hk,e1,e2.size,cntL_eq hin e2.le _ (Nat.le_refl _)];have e8:parL p k=p.fs[k].params.length:=by unfold parL;rw[List.getElem?_eq_getElem hk];rfl
   rw[e8];have:=e2.body;have hle:=e2.le;by_cases h5:p.ns.length≤c
   · have:c=d:=by omega
     subst this;rw[if_pos h5,letsN_self]
   · rw[if_neg h5,Nat.min_eq_right e4]
 · rw[List.getElem?_eq_none (by rw[nextL_len];omega),List.getElem?_eq_none (by omega)]
theorem node_is (hi:ProgIs p){i:Nat}{nd:NodeM} (hx:p.ns[i]?=some nd):∃k z,p.fn[i]?=some k∧k<p.fs.length∧p.sizes[k]?=some z∧NodeAt p.fs k z p.st i nd:=by
 have hlt:=(List.getElem?_eq_some_iff.1 hx).1;obtain⟨h1,h2,h3,h4⟩:=hi.done.fn_of (Nat.le_refl _);obtain⟨k,hk,_,hk2⟩:=h3 i (Nat.zero_le _) hlt;have hk3:k<p.fs.length:=by omega
 obtain⟨z,c,d,e1,e2,e3,e4,e5⟩:=h4 k p.fs[k] (List.getElem?_eq_getElem hk3);rw[Nat.zero_add] at e2 e5;have hcd:=(e5 i (Nat.zero_le _) hlt).1 hk;exact⟨k,z,hk,hk3,e1,e2.at_ i nd hcd.1 hcd.2 hx⟩
theorem sizes_len (hi:ProgIs p):p.sizes.length=p.fs.length:=(hi.done.fn_of (Nat.le_refl _)).1
end
theorem source_is {src:List UInt8}{p:ProgM} (h:sourceM src=some (.good p)):ProgIs p∧parseM src=some (.good p.ns p.fs)∧checkT p.ns p.fs = .good p:=by
 unfold sourceM at h;rw[Option.map_eq_some_iff] at h;obtain⟨r,hr,h⟩:=h;cases r with
 | bad p e=>cases h
 | good ns fs=>
  cases hc:checkT ns fs with
  | bad e x=>
   simp only[hc] at h;split at h<;>cases h
  | good q=>
   simp only[hc] at h;injection h with h;subst h;obtain⟨h1,h2,h3⟩:=check_is (parse_is hr) hc;rw[h2,h3];exact⟨h1,hr,hc⟩
theorem prog_pos {p:ProgM} (hi:ProgIs p):0<p.fs.length∧0<p.ns.length:=by
 have hh:=hi.heads;unfold headsC at hh;have hf:0<p.fs.length:=by
  cases hfs:p.fs with
  | nil=>rw[hfs] at hh;simp[twiceC] at hh
  | cons f l=>simp
 refine⟨hf,?_⟩;obtain⟨c,hc,_⟩:=hi.tree.ok.bodies p.fs[0] (List.getElem_mem hf);have:=(List.getElem?_eq_some_iff.1 hc).1;omega
structure PgF (g:PgV) (ub zb:Nat) (w:World):Prop where
 pg:PgAt g w
 ua:g.ua=some ⟨ub,0,none⟩
 un:g.un=g.p.ns.length
 za:g.za=some ⟨zb,0,none⟩
 zn:g.zn=g.p.fs.length
 fn:Own w 3 1 (.slice (some ⟨ub,0,none⟩) g.p.ns.length g.uc) g.p.ns.length (ints g.p.fn)
 sz:Own w 3 1 (.slice (some ⟨zb,0,none⟩) g.p.fs.length g.zc) g.p.fs.length (ints g.p.sizes)
section
variable {g:PgV}{ub zb:Nat}{w w':World}
theorem PgF.no (h:PgF g ub zb w) (f:Fr nob w w'):PgF g ub zb w':=⟨h.pg.no f,h.ua,h.un,h.za,h.zn,h.fn.fr f (fun _ _ x=>x),h.sz.fr f (fun _ _ x=>x)⟩
theorem row_cell {t b n c x k:Nat}{l:List Nat} (h:Own w t 1 (.slice (some ⟨b,0,none⟩) n c) n (ints l)) (hx:l[x]?=some k) (hl:x<n):w.cell? ⟨b,x,none⟩=some (.int .i64 (k:Nat)):=by
 obtain⟨b',e,hc⟩:=h.some (by omega);injection e with e;injection e with e;subst e;have:=hc x (.int .i64 (k:Nat)) (by unfold ints;rw[List.getElem?_map,hx];rfl);simpa using this
theorem PgF.fnc (h:PgF g ub zb w){x k:Nat} (hx:g.p.fn[x]?=some k):w.cell? ⟨ub,x,none⟩=some (.int .i64 (k:Nat)):=
 row_cell h.fn hx (by rw[←h.pg.is.lf];exact (List.getElem?_eq_some_iff.1 hx).1)
theorem PgF.szc (h:PgF g ub zb w){x k:Nat} (hx:g.p.sizes[x]?=some k):w.cell? ⟨zb,x,none⟩=some (.int .i64 (k:Nat)):=
 row_cell h.sz hx (by rw[←sizes_len h.pg.is];exact (List.getElem?_eq_some_iff.1 hx).1)
theorem PgF.tyc (h:PgF g ub zb w){x k:Nat} (hx:g.p.types[x]?=some k):w.cell? ⟨g.tb,x,none⟩=some (.int .i64 (k:Nat)):=
 row_cell h.pg.types hx (by rw[←h.pg.is.lt];exact (List.getElem?_eq_some_iff.1 hx).1)
theorem PgF.slc (h:PgF g ub zb w){x:Nat}{k:Int} (hx:g.p.slots[x]?=some k):w.cell? ⟨g.sb,x,none⟩=some (.int .i64 k):=by
 have hl:x<g.p.ns.length:=by rw[←h.pg.is.ls];exact (List.getElem?_eq_some_iff.1 hx).1
 rw[h.pg.slot hl];unfold slotP;rw[List.getD_eq_getElem?_getD,hx];rfl
theorem PgF.val (h:PgF g ub zb w):g.val = .agg #[.slice (some ⟨g.nb,0,none⟩) g.p.ns.length g.nc,.slice (some ⟨g.fb,0,none⟩) g.p.fs.length g.fc,.slice (some ⟨g.tb,0,none⟩) g.p.ns.length g.tc,.slice (some ⟨g.sb,0,none⟩) g.p.ns.length g.sc,.slice (some ⟨ub,0,none⟩) g.p.ns.length g.uc,.slice (some ⟨zb,0,none⟩) g.p.fs.length g.zc]:=by
 unfold PgV.val;rw[h.ua,h.un,h.za,h.zn]
end
theorem source_prog {w:World}{en:Ending}{p:ProgM} (h:SourceAt w en (.good p)) (hi:ProgIs p):∃(g:PgV) (ub zb:Nat),g.p=p∧PgF g ub zb w∧en = .returned (.tuple #[g.val,.int .i64 0,.int .i64 0]):=by
 obtain⟨nv,fv,tv,sv,uv,zv,lvs,pvs,he,h⟩:=h;obtain⟨h1,h2⟩:=prog_pos hi;obtain⟨A1,c1,rfl,_,_⟩:=h.tree.nodes.cap;obtain⟨A2,c2,rfl,_,_⟩:=h.tree.fns.cap;obtain⟨A3,c3,rfl,_,_⟩:=h.types.cap;obtain⟨A4,c4,rfl,_,_⟩:=h.slots.cap;obtain⟨A5,c5,rfl,_,_⟩:=h.fn.cap;obtain⟨A6,c6,rfl,_,_⟩:=h.sizes.cap;have ht:=h.types;have hs:=h.slots;have hu:=h.fn;have hz:=h.sizes;rw[hi.lt] at ht;rw[hi.ls] at hs;rw[hi.lf] at hu;rw[sizes_len hi] at hz;obtain⟨b1,rfl,_⟩:=h.tree.nodes.some h2;obtain⟨b2,rfl,_⟩:=h.tree.fns.some h1;obtain⟨b3,rfl,_⟩:=ht.some h2;obtain⟨b4,rfl,_⟩:=hs.some h2;obtain⟨b5,rfl,_⟩:=hu.some h2;obtain⟨b6,rfl,_⟩:=hz.some h1;refine⟨⟨b1,c1,b2,c2,b3,c3,b4,c4,some ⟨b5,0,none⟩,p.ns.length,c5,some ⟨b6,0,none⟩,p.fs.length,c6,lvs,pvs,p⟩,b5,b6,rfl,⟨⟨hi,h.tree,ht,hs⟩,rfl,rfl,rfl,rfl,hu,hz⟩,?_⟩;rw[he,hi.lt,hi.ls,hi.lf,sizes_len hi];rfl
theorem source_some (src:List UInt8):∃r,sourceM src=some r:=by
 obtain⟨r,hr⟩:=parse_some src;unfold sourceM;rw[hr];exact⟨_,rfl⟩
theorem intsI_get (l:List Int) (k:Nat):(intsI l)[k]?=l[k]?.map (Value.int .i64):=by unfold intsI;rw[List.getElem?_map]
theorem Rd.at4 {w:World}{A:Option Addr}{n c:Nat}{xs:List Value} (h:Rd w 1 (.slice A n c) n xs){k:Nat}{u:Value} (hu:xs[k]?=some u):
  ∃g o,A=some ⟨g,o,none⟩∧w.cell? ⟨g,o+k,none⟩=some u:=by
 obtain⟨hl,A',c',hv,_,_,h3⟩:=h;injection hv with hA _ _;subst hA;have:=(List.getElem?_eq_some_iff.1 hu).1;obtain⟨ad,rfl,hsp,hc⟩:=h3 (by omega);obtain⟨g,o,s⟩:=ad;simp only at hsp;subst hsp;exact⟨g,o,rfl,hc k u hu⟩
set_option maxHeartbeats 800000 in
theorem ints4_any (A B:Option Addr) (n m c d:Nat) (l1 l2:List Int) (w:World) (h1:Rd w 1 (.slice A n c) n (intsI l1)) (h2:Rd w 1 (.slice B m d) m (intsI l2)):
   Calls Tryz.prog 37 #[.slice A n c,.slice B m d] w fun e w'=>e = .returned (.bool (decide (l1=l2)))∧∃k,w'=w.drewN k:=by
 have hn:l1.length=n:=by have:=h1.1;simpa[intsI] using this
 have hm:l2.length=m:=by have:=h2.1;simpa[intsI] using this
 have hcap:n≤9223372036854775807:=by
   obtain⟨_,_,hv,h3,h4⟩:=h1.slice;injection hv with _ _ hv;subst hv;unfold maxLen at h4;omega
 have HN:=hid hn;have HM:=hid hm;have H1:=hid h1;have H2:=hid h2;clear h1 h2 hn hm;by_cases hnm:n=m
 · subst hnm
   go_enter Tryz.func37,Tryz.ntmps37;go_wp2
   go_loopw [5] (fun i w'=>∃k:Nat,k≤n∧i = .int .i64 k∧l1.take k=l2.take k∧∃q,w'=w.drewN q) (fun i _=>n - (intOf i).toNat)
   case atStart=>exact⟨0,Nat.zero_le _,rfl,rfl,0,rfl⟩
   case round=>
    obtain⟨k,hk,rfl,ht,q,rfl⟩:=hrel;have HT:=hid ht;clear ht;by_cases hlt:k<n
    · obtain⟨v1,hv1⟩:∃v1,l1[k]?=some v1:=⟨_,List.getElem?_eq_getElem (by have:=HN.out;omega)⟩
      obtain⟨v2,hv2⟩:∃v2,l2[k]?=some v2:=⟨_,List.getElem?_eq_getElem (by have:=HM.out;omega)⟩;obtain⟨g1,o1,rfl,c1⟩:=H1.out.at4 (k:=k) (u:= .int .i64 v1) (by simp[intsI_get,hv1]);obtain⟨g2,o2,rfl,c2⟩:=H2.out.at4 (k:=k) (u:= .int .i64 v2) (by simp[intsI_get,hv2]);have hi:(k:Int)<(n:Int):=by omega
      have hi0:(0:Int)≤(k:Int):=by omega
      have V1:=hid hv1;have V2:=hid hv2;clear hv1 hv2;by_cases hv:v1=v2
      · subst hv
        go_wp2
        go_quiet (fail)
        go_wp2
        go_roundw
        case rel=>
         refine⟨k+1,by omega,by go_num,?_,_,rfl⟩;rw[List.take_add_one,List.take_add_one,HT.out,V1.out,V2.out]
        case measure=>simp[intOf];omega
      · have hb:(v1 != v2)=true:=by simpa using hv
        have HV:=hid hv;clear hv;go_wp2
        go_quiet (fail)
        go_wp2
        go_ret;refine⟨?_,_,World.drewN_drewN _ _ _⟩;have:¬l1=l2:=fun e=>by
         have a:=V1.out;have b:=V2.out;rw[e,b] at a;injection a with a;exact HV.out a.symm
        simp[this]
    · go_wp2
      go_ret;refine⟨?_,_,rfl⟩;have e:=HT.out;rw[List.take_of_length_le (by have:=HN.out;omega),List.take_of_length_le (by have:=HM.out;omega)] at e;simp[e]
 · have hb:((n:Int) != (m:Int))=true:=by simp;omega
   have HB:=hid hnm;clear hnm;go_enter Tryz.func37,Tryz.ntmps37;go_wp2
   go_ret;refine⟨?_,0,rfl⟩;have:¬l1=l2:=fun e=>HB.out (by rw[←HN.out,←HM.out,e])
   simp[this]
theorem ext_take4 (s:ByteArray):s.extract 0 700=bs (s.data.toList.take 700):=by
 have h:(s.extract 0 700).data.toList=s.data.toList.take 700:=by rw[Lib.extract_data];simp
 rw[←h]
 show s.extract 0 700=⟨(s.extract 0 700).data.toList.toArray⟩
 rw[Array.toArray_toList]
theorem short4_any (s:ByteArray) (w:World):Calls Tryz.prog 27 #[.string s] w fun e w'=>e = .returned (.string (bs (s.data.toList.take 700)))∧w'=w:=by
 by_cases h:s.size≤700
 · have e:bs (s.data.toList.take 700)=s:=by
    rw[List.take_of_length_le (by simpa using h)]
    show (⟨s.data.toList.toArray⟩:ByteArray)=s
    simp
   rw[e];clear e;go_enter Tryz.func27,Tryz.ntmps27;go_wp2
   go_ret;exact⟨rfl,rfl⟩
 · have h2:700<s.size:=by omega
   go_enter Tryz.func27,Tryz.ntmps27;go_wp2
   go_ret;refine⟨?_,rfl⟩;rw[←ext_take4 s];rfl
structure QSrc (V:World→Prop):Prop where
 no:∀w w',V w→Fr nob w w'→V w'
 src:∀(src:ByteArray) (w:World),V w→src.size≤281474976710656→∀r:SourceR,sourceM src.data.toList=some r→Calls Tryz.prog 28 #[.string src] w fun en w'=>SourceAt w' en r∧Fr nob w w'
end Go.Proofs.YtlbjicjinnnboaaGreatDoor
/- The program's Source, as the laws' walks ask for it. -/
namespace Go.Proofs.YtlbjicjinnnboaaGreatDoor
open Go.RowKit
theorem qsrcV:QSrc PVars:=⟨fun _ _ h f=>h.no f,fun src w hv hs _ hr=>qsource_any src w hv hs hr⟩
open Pw
section
variable (ns:List NodeM) (types:List Nat) (slots:List Int) (node:Nat)
def anyV (rec:Nat→List VarM→Bool×List VarM):List Nat→List VarM→Bool×List VarM
 | [],vs=>(false,vs)
 | y :: l,vs=>if (rec y vs).1=true then (true,(rec y vs).2) else anyV rec l (rec y vs).2
def letV (nd:NodeM) (x:Nat):VarM:=⟨nd.name,types.getD (nd.l.headD 0) 0,(slots.getD x 0).toNat⟩
def visL (rec:Nat→List VarM→Bool×List VarM):List Nat→List VarM→Bool×List VarM
 | [],vs=>(false,vs)
 | x :: l,vs=>if x=node then (true,vs) else match ns[x]? with
  | none=>(false,vs)
  | some nd=>if nd.kind=10 then visL rec l (vs++[letV types slots nd x])
   else if nd.kind=15∨nd.kind=16 then (if (anyV rec nd.l.tail vs).1=true then (true,(anyV rec nd.l.tail vs).2) else visL rec l (anyV rec nd.l.tail vs).2)
   else visL rec l vs
def visB:Nat→Nat→List VarM→Bool×List VarM
 | 0,_,vs=>(false,vs)
 | f+1,x,vs=>match ns[x]? with
  | none=>(false,vs)
  | some nd=>if (visL ns types slots node (visB f) nd.l vs).1=true then (true,(visL ns types slots node (visB f) nd.l vs).2) else (false,(visL ns types slots node (visB f) nd.l vs).2.take vs.length)
def PreV (r:Bool×List VarM) (vs:List VarM):Prop:=∃t,r.2=vs++t
variable {ns types slots node}
theorem anyV_pre {rec:Nat→List VarM→Bool×List VarM} (h:∀y v,PreV (rec y v) v):∀(l:List Nat) (vs:List VarM),PreV (anyV rec l vs) vs
 | [],vs=>⟨[],by simp[anyV]⟩
 | y :: l,vs=>by
  obtain⟨t,ht⟩:=h y vs;unfold anyV;split
  · exact⟨t,ht⟩
  · obtain⟨t2,h2⟩:=anyV_pre h l (rec y vs).2
    exact⟨t++t2,by rw[h2,ht,List.append_assoc]⟩
theorem visL_pre {rec:Nat→List VarM→Bool×List VarM} (h:∀y v,PreV (rec y v) v):∀(l:List Nat) (vs:List VarM),PreV (visL ns types slots node rec l vs) vs
 | [],vs=>⟨[],by simp[visL]⟩
 | x :: l,vs=>by
  unfold visL;split
  · exact⟨[],by simp⟩
  · split
    · exact⟨[],by simp⟩
    · rename_i nd _
      split
      · obtain⟨t,ht⟩:=visL_pre h l (vs++[letV types slots nd x])
        exact⟨[letV types slots nd x]++t,by rw[ht,List.append_assoc]⟩
      · split
        · obtain⟨t,ht⟩:=anyV_pre h nd.l.tail vs
          split
          · exact⟨t,ht⟩
          · obtain⟨t2,h2⟩:=visL_pre h l (anyV rec nd.l.tail vs).2
            exact⟨t++t2,by rw[h2,ht,List.append_assoc]⟩
        · exact visL_pre h l vs
theorem visB_pre:∀(f x:Nat) (vs:List VarM),PreV (visB ns types slots node f x vs) vs
 | 0,x,vs=>⟨[],by simp[visB]⟩
 | f+1,x,vs=>by
  unfold visB;split
  · exact⟨[],by simp⟩
  · rename_i nd _
    obtain⟨t,ht⟩:=visL_pre (ns:=ns) (types:=types) (slots:=slots) (node:=node) (visB_pre f) nd.l vs;split
    · exact⟨t,ht⟩
    · exact⟨[],by dsimp only;rw[ht];simp⟩
theorem visB_fix (f x:Nat) (vs:List VarM) (h:(visB ns types slots node f x vs).1=false):(visB ns types slots node f x vs).2=vs:=by
 cases f with
 | zero=>rfl
 | succ f=>
  unfold visB at h ⊢;split
  · rfl
  · rename_i nd hnd
    rw[hnd] at h;dsimp only at h;obtain⟨t,ht⟩:=visL_pre (ns:=ns) (types:=types) (slots:=slots) (node:=node) (visB_pre f) nd.l vs;split
    · rename_i h1;rw[if_pos h1] at h;cases h
    · dsimp only;rw[ht];simp
theorem anyV_hit {rec:Nat→List VarM→Bool×List VarM}{vs:List VarM}:∀{l:List Nat}{j y:Nat},(∀g∈l.take j,(rec g vs).1=false∧(rec g vs).2=vs)→l[j]?=some y→(rec y vs).1=true→anyV rec l vs=(true,(rec y vs).2)
 | [],j,y,_,h,_=>by simp at h
 | a :: l,0,y,_,h,h1=>by simp at h;subst h;unfold anyV;rw[if_pos h1]
 | a :: l,j+1,y,hg,h,h1=>by
  obtain⟨q1,q2⟩:=hg a (by simp);unfold anyV;rw[if_neg (by rw[q1];decide),q2];exact anyV_hit (j:=j) (fun g hg'=>hg g (by rw[List.take_succ_cons];exact List.mem_cons_of_mem _ hg')) (by simpa using h) h1
theorem anyV_miss {rec:Nat→List VarM→Bool×List VarM}{vs:List VarM}:∀{l:List Nat},(∀g∈l,(rec g vs).1=false∧(rec g vs).2=vs)→anyV rec l vs=(false,vs)
 | [],_=>rfl
 | a :: l,hg=>by
  obtain⟨q1,q2⟩:=hg a (by simp);unfold anyV;rw[if_neg (by rw[q1];decide),q2];exact anyV_miss (fun g hg'=>hg g (by simp[hg']))
end
section
variable {F:Nat}{caps:Array Value}{S:List VarM→World→Prop}{rec:Nat→List VarM→Bool×List VarM}{vs:List VarM}{w:World}{b o c:Nat}{l:List Nat}
set_option maxHeartbeats 1600000 in
set_option maxRecDepth 100000 in
theorem idxst_any (hen:Enters Tryz.prog F) (hone:∀y∈l,∀w',S vs w'→Calls Tryz.prog F (#[.int .i64 (y:Nat)]++caps) w' fun en w2=>en = .returned (.bool (rec y vs).1)∧S (rec y vs).2 w2)
  (hfix:∀y∈l,(rec y vs).1=false→(rec y vs).2=vs) (hrow:∀w',S vs w'→∀j y,l[j]?=some y→w'.cell? ⟨b,o+j,none⟩=some (.int .i64 (y:Nat))) (hl:l.length≤300) (h:S vs w):
  Calls Tryz.prog 102 #[.slice (some ⟨b,o,none⟩) l.length c,.func (.func F) #[] caps] w fun en w'=>∃z:Int,en = .returned (.int .i64 z)∧decide (0≤z)=(anyV rec l vs).1∧S (anyV rec l vs).2 w':=by
 have HONE:=hid hone;have HFIX:=hid hfix;have HROW:=hid hrow;have S0:=hid h;have hml:(l.length:Int)≤300:=by omega
 generalize hm:l.length=m at *;have HMM:=hid hm;clear hone hfix hrow h hm;go_enter Tryz.func102,Tryz.ntmps102;go_wp2_with fail
 go_loopw [8] (fun i wr=>∃j:Nat,j≤m∧i = .int .i64 j∧Hid (∀g∈l.take j,(rec g vs).1=false∧(rec g vs).2=vs)∧Hid (S vs wr)) (fun i _=>m - (intOf i).toNat)
 case atStart=>exact⟨0,Nat.zero_le _,rfl,hid (by simp),S0⟩
 case round=>
  clear S0;obtain⟨j,hj,rfl,HA,SS⟩:=hrel;by_cases hlt:j<m
  · have hlt2:(j:Int)<(m:Int):=by omega
    obtain⟨y,hy⟩:∃y,l[j]?=some y:=⟨_,List.getElem?_eq_getElem (by have:=HMM.out;omega)⟩;have e0:=HROW.out wr SS.out j y hy;have HC:=hid (HONE.out y (List.mem_of_getElem? hy) wr SS.out);have HY:=hid hy;have HJ:=hid hlt;obtain⟨z,hz⟩:∃z,(rec y vs).1=z:=⟨_,rfl⟩;rw[hz] at HC;have HQ:=hid hz;clear hy hz hlt hj;cases z with
    | true=>
     go_wp2_with fail
     rw[hen];go_wp2_with fail
     refine HC.out.mono ?_;rintro e w2 ⟨rfl,hf2⟩;have S2:=hid hf2;clear hf2;go_wp2_with fail
     go_ret;rw[anyV_hit HA.out HY.out HQ.out];exact⟨_,rfl,by simp,S2.out⟩
    | false=>
     have HR:=hid (HFIX.out y (List.mem_of_getElem? HY.out) HQ.out);go_wp2_with fail
     rw[hen];go_wp2_with fail
     refine HC.out.mono ?_;rintro e w2 ⟨rfl,hf2⟩;have S2:=hid (show S vs w2 from by rw[HR.out] at hf2;exact hf2);have HA2:=hid (show ∀g∈l.take (j+1),(rec g vs).1=false∧(rec g vs).2=vs from fun g hg=>by
      rw[List.take_add_one,HY.out] at hg;rcases List.mem_append.1 hg with hg|hg
      · exact HA.out g hg
      · simp at hg;subst hg;exact⟨HQ.out,HR.out⟩)
     clear hf2 e0 HC HA SS;go_wp2_with fail
     go_roundw
     case rel=>exact⟨j+1,by have:=HJ.out;omega,by go_num,HA2,S2⟩
     case measure=>simp[intOf];have:=HJ.out;omega
  · have hlt2:¬(j:Int)<(m:Int):=by omega
    have hj2:j=m:=by omega
    subst hj2;clear hj hlt;go_wp2_with fail
    go_ret;rw[anyV_miss (fun g hg=>HA.out g (by rw[List.take_of_length_le (by have:=HMM.out;omega)];exact hg))];exact⟨_,rfl,by simp,SS.out⟩
set_option maxHeartbeats 1600000 in
set_option maxRecDepth 100000 in
theorem contst_any (hen:Enters Tryz.prog F) (hone:∀y∈l,∀w',S vs w'→Calls Tryz.prog F (#[.int .i64 (y:Nat)]++caps) w' fun en w2=>en = .returned (.bool (rec y vs).1)∧S (rec y vs).2 w2)
  (hfix:∀y∈l,(rec y vs).1=false→(rec y vs).2=vs) (hrow:∀w',S vs w'→∀j y,l[j]?=some y→w'.cell? ⟨b,o+j,none⟩=some (.int .i64 (y:Nat))) (hl:l.length≤300) (h:S vs w):
  Calls Tryz.prog 64 #[.slice (some ⟨b,o,none⟩) l.length c,.func (.func F) #[] caps] w fun en w'=>en = .returned (.bool (anyV rec l vs).1)∧S (anyV rec l vs).2 w':=by
 have HC:=hid (idxst_any (c:=c) hen hone hfix hrow hl h);generalize l.length=m at *;clear hone hfix hrow hl h;go_enter Tryz.func64,Tryz.ntmps64;go_wp2_with fail
 refine HC.out.mono ?_;rintro en w2 ⟨z,rfl,hz,hs⟩;have HZ:=hid hz;have S2:=hid hs;clear hz hs HC;go_wp2_with fail
 go_ret;refine⟨?_,S2.out⟩;rw[←HZ.out]
 first|rfl|simp
end
def vCaps (V P N FN:Nat):Array Value:=#[.pointer (some ⟨V,0,none⟩),.pointer (some ⟨P,0,none⟩),.pointer (some ⟨N,0,none⟩),.pointer (some ⟨FN,0,none⟩)]
structure Vw (g:PgV) (w0:World) (V P N FN node:Nat) (vs:List VarM) (w:World):Prop where
 fr:Fr nob w0 w
 vc:∃A c,Blk w V 58 #[.slice A vs.length c]∧Own w 62 3 (.slice A vs.length c) vs.length (varCells vs)∧∀b,blk (.slice A vs.length c)=some b→w0.heap.size≤b
 hV:w0.heap.size≤V
 pc:Blk w P 29 #[.slice (some ⟨g.nb,0,none⟩) g.p.ns.length g.nc,.slice (some ⟨g.fb,0,none⟩) g.p.fs.length g.fc,.slice (some ⟨g.tb,0,none⟩) g.p.ns.length g.tc,.slice (some ⟨g.sb,0,none⟩) g.p.ns.length g.sc,.slice g.ua g.un g.uc,.slice g.za g.zn g.zc]
 nc:Blk w N 3 #[.int .i64 (node:Nat)]
 fc:Blk w FN 74 #[.func (.func 63) #[] (vCaps V P N FN)]
section
variable {g:PgV}{w0 w w1 w':World}{V P N FN node:Nat}{vs:List VarM}
theorem Vw.no (h:Vw g w0 V P N FN node vs w) (f:Fr nob w w'):Vw g w0 V P N FN node vs w':=by
 obtain⟨A,c,hb,ho,hn⟩:=h.vc;exact⟨h.fr.tr f,⟨A,c,hb.fr f (fun x=>x),ho.fr f (fun _ _ x=>x),hn⟩,h.hV,h.pc.fr f (fun x=>x),h.nc.fr f (fun x=>x),h.fc.fr f (fun x=>x)⟩
theorem Vw.set (h:Vw g w0 V P N FN node vs w){A:Option Addr}{c:Nat}{us:List VarM} (ho:Own w 62 3 (.slice A us.length c) us.length (varCells us)) (hn:∀b,blk (.slice A us.length c)=some b→w0.heap.size≤b):Vw g w0 V P N FN node us (w.setCell ⟨V,0,none⟩ (.slice A us.length c)):=by
 obtain⟨A',c',hb,_,_⟩:=h.vc;have f:Fr (oneb V) w (w.setCell ⟨V,0,none⟩ (.slice A us.length c)):=(Fr.refl _ w).setCell _ _ (fun _=>rfl);exact⟨h.fr.trans f (fun _ _ x=>x) (fun b hlt hm=>by have hm:b=V:=hm;have:=h.hV;omega),⟨A,c,hb.setCell 0 _,ho.far (p:=⟨V,0,none⟩) (ho.blk_ne hb (by decide)) _,hn⟩,h.hV,
  h.pc.far (p:=⟨V,0,none⟩) (h.pc.ne hb (by decide)) _,h.nc.far (p:=⟨V,0,none⟩) (h.nc.ne hb (by decide)) _,h.fc.far (p:=⟨V,0,none⟩) (h.fc.ne hb (by decide)) _⟩
theorem Vw.app (h:Vw g w0 V P N FN node vs w){A:Option Addr}{c:Nat} (hc:w.cell? ⟨V,0,none⟩=some (.slice A vs.length c)) (f1:Fr nob w w1){v:VarM}{A6:Option Addr}{c6:Nat}{w6:World} (ho6:Own w6 62 3 (.slice A6 (vs.length+1) c6) (vs.length+1) (varCells vs++[.string (bs v.name),.int .i64 (v.ty:Nat),.int .i64 (v.slot:Nat)]))
  (hf6:Fr (obl (blk (.slice A vs.length c))) w1 w6) (hv6:blk (.slice A6 (vs.length+1) c6)=blk (.slice A vs.length c)∨blk (.slice A6 (vs.length+1) c6)=some w1.heap.size):
  Vw g w0 V P N FN node (vs++[v]) (w6.setCell ⟨V,0,none⟩ (.slice A6 (vs.length+1) c6))∧w6.frozen? ⟨V,0,none⟩=false∧V<w6.heap.size∧w6.cell? ⟨V,0,none⟩=some (.slice A vs.length c):=by
 have h1:=h.no f1;obtain⟨A',c',hb,ho,hn⟩:=h.vc;have e:w.cell? ⟨V,0,none⟩=some (.slice A' vs.length c'):=(hb.cell 0).trans rfl;rw[hc] at e;injection e with e;injection e with e1 _ e2;subst e1;subst e2;have ho1:=ho.fr f1 (fun _ _ x=>x);have hb1:=hb.fr f1 (fun x=>x);have hb6:=hb1.fr hf6 (fun hm=>ho1.blk_ne hb1 (by decide) hm);have n1:∀b,blk (.slice A6 (vs.length+1) c6)=some b→w0.heap.size≤b:=fun b hb=>by
  rcases hv6 with e|e
  · exact hn b (e ▸ hb)
  · rw[e] at hb;injection hb with hb
    have:=h1.fr.size;omega
 have hlen:(vs++[v]).length=vs.length+1:=by simp
 have f6:Fr nob w0 w6:=h1.fr.trans hf6 (fun _ _ x=>x) (fun b hlt hm=>by have:=hn b hm;omega);have f:Fr (oneb V) w6 (w6.setCell ⟨V,0,none⟩ (.slice A6 (vs.length+1) c6)):=(Fr.refl _ w6).setCell _ _ (fun _=>rfl);have p6:=h1.pc.fr hf6 (fun hm=>ho1.blk_ne h1.pc (by decide) hm);have q6:=h1.nc.fr hf6 (fun hm=>ho1.blk_ne h1.nc (by decide) hm);have r6:=h1.fc.fr hf6 (fun hm=>ho1.blk_ne h1.fc (by decide) hm);refine⟨⟨f6.trans f (fun _ _ x=>x) (fun b hlt hm=>by have hm:b=V:=hm;have:=h.hV;omega),⟨A6,c6,by rw[hlen];exact hb6.setCell 0 _,?_,by rw[hlen];exact n1⟩,h.hV,
  p6.far (p:=⟨V,0,none⟩) (p6.ne hb6 (by decide)) _,q6.far (p:=⟨V,0,none⟩) (q6.ne hb6 (by decide)) _,r6.far (p:=⟨V,0,none⟩) (r6.ne hb6 (by decide)) _⟩,hb6.frozen 0,hb6.lt,(hb6.cell 0).trans rfl⟩
 rw[hlen,varCells_snoc];exact ho6.far (p:=⟨V,0,none⟩) (ho6.blk_ne hb6 (by decide)) _
theorem Vw.cells (h:Vw g w0 V P N FN node vs w):w.cell? ⟨P,0,none⟩=some (.slice (some ⟨g.nb,0,none⟩) g.p.ns.length g.nc)∧w.cell? ⟨P,2,none⟩=some (.slice (some ⟨g.tb,0,none⟩) g.p.ns.length g.tc)∧w.cell? ⟨P,3,none⟩=some (.slice (some ⟨g.sb,0,none⟩) g.p.ns.length g.sc) ∧
  w.cell? ⟨N,0,none⟩=some (.int .i64 (node:Nat))∧w.cell? ⟨FN,0,none⟩=some (.func (.func 63) #[] (vCaps V P N FN))∧∃A c,w.cell? ⟨V,0,none⟩=some (.slice A vs.length c)∧Own w 62 3 (.slice A vs.length c) vs.length (varCells vs)∧vs.length≤c∧∀b,blk (.slice A vs.length c)=some b→w0.heap.size≤b:=by
 obtain⟨A,c,hb,ho,hn⟩:=h.vc;exact⟨(h.pc.cell 0).trans rfl,(h.pc.cell 2).trans rfl,(h.pc.cell 3).trans rfl,(h.nc.cell 0).trans rfl,(h.fc.cell 0).trans rfl,A,c,(hb.cell 0).trans rfl,ho,ho.capn.1,hn⟩
theorem PgAt.nodeRow (PG:PgAt g w0){x:Nat}{nd:NodeM} (hx:g.p.ns[x]?=some nd):∃A c,Own w0 3 1 (.slice A nd.l.length c) nd.l.length (ints nd.l)∧nd.l.length≤c∧∀w,Fr nob w0 w→w.cell? ⟨g.nb,x*5,none⟩=some (.int .i64 nd.kind)∧w.cell? ⟨g.nb,x*5+1,none⟩=some (.int .i64 nd.line)∧w.cell? ⟨g.nb,x*5+2,none⟩=some (.int .i64 nd.n)∧w.cell? ⟨g.nb,x*5+3,none⟩=some (.string (bs nd.name))∧w.cell? ⟨g.nb,x*5+4,none⟩=some (.slice A nd.l.length c):=by
 have T:=PG.tree;have hlt:=(List.getElem?_eq_some_iff.1 hx).1;obtain⟨lv,hlv⟩:∃lv,g.lvs[x]?=some lv:=⟨_,List.getElem?_eq_getElem (by have:=T.same;omega)⟩;obtain⟨ho,-⟩:=T.node3 hx hlv;obtain⟨A,c,rfl,hc,_⟩:=ho.cap;exact⟨A,c,ho,hc,fun w f=>((T.no f).node3 hx hlv).2⟩
theorem enters_vis1:Enters Tryz.prog 63:=enters_of Tryz.func63 (by kernel_rfl) rfl
inductive StV (p:ProgM) (y:Nat):NodeM→Prop where
 | let_ (line:Nat) (nm:List UInt8) (a t k:Nat) (h:p.types[a]?=some t) (h2:p.slots[y]?=some (k:Int)) (ha:a<p.ns.length):StV p y ⟨10,line,0,nm,[a]⟩
 | test (kind line:Nat) (a:Nat) (m:List Nat) (hk:kind=15∨kind=16) (h:∀b∈m,b<y∧∃nd,p.ns[b]?=some nd∧nd.kind=18) (hm:m.length≤300) (hm0:1≤m.length):StV p y ⟨kind,line,0,[],a :: m⟩
 | other (nd:NodeM) (h0:nd.kind≠10) (h1:nd.kind≠15) (h2:nd.kind≠16):StV p y nd
end
end Go.Proofs.YtlbjicjinnnboaaGreatDoor
/- A region whose last operation waits for all others: what is held needs not to be held behind it. -/
namespace Go.Proofs.YtlbjicjinnnboaaGreatDoor
open Go
section
variable {P:Program}{ops:Array Oper}{Q:Exit→Act→World→Prop}{md:Region.Mode}{S:World→Prop}
def backB (md:Region.Mode) (ops:Array Oper):Bool:=
 (List.range ops.size).all fun j=>((ops[j]?).map fun o=>o.after.all fun e=> !Region.binds md e || decide (e.on<j)).getD true
theorem backB_spec (h:backB md ops=true){j:Nat}{o:Oper} (ho:ops[j]?=some o):∀e∈o.after,Region.binds md e=true→e.on<j:=by
 intro e he hb;have hj:j<ops.size:=(Array.getElem?_eq_some_iff.1 ho).1;have h1:=List.all_eq_true.1 h j (List.mem_range.2 hj);rw[ho] at h1;simp only[Option.map_some,Option.getD_some] at h1;have h2:=Array.all_eq_true_iff_forall_mem.1 h1 e he;rw[hb] at h2;simpa using h2
def lastB (md:Region.Mode) (ops:Array Oper) (L:Nat):Bool:=decide (L+1=ops.size) && backB md ops && Region.sinkB md ops L
structure LInv (md:Region.Mode) (ops:Array Oper) (L:Nat) (listed:Array Bool):Prop where
 size:listed.size=ops.size
 closed:∀j oj,ops[j]?=some oj→listed.getD j false=true→∀e∈oj.after,Region.binds md e=true→listed.getD e.on false=true
 last:listed.getD L true=false
def lastQ (P:Program) (ops:Array Oper) (Q:Exit→Act→World→Prop) (L:Nat):Exit→Act→World→Prop
 | .normal,a,w=>wpOp P ops Q L (fun a w=>Q .normal a w) a w
 | e,a,w=>Q e a w
theorem getD_true_of {listed:Array Bool}{i:Nat} (hi:i<listed.size) (h:listed.getD i true=true):listed.getD i false=true:=by
 simp[hi] at h ⊢;exact h
theorem LInv.full {L:Nat}{listed:Array Bool} (hs:Region.sinkB md ops L=true) (hL:L+1=ops.size) (inv:LInv md ops L listed) (hr:L∈Region.ready md ops listed):∀k i,i+k=L→0<k→listed.getD i false=true:=by
 intro k;induction k using Nat.strongRecOn with
 | ind k ih=>
  intro i hik hk;have h1:=List.all_eq_true.1 hs i (List.mem_range.2 (by omega));obtain⟨j,hj,hw⟩:=List.any_eq_true.1 h1;rw[List.mem_range] at hj;simp only[Bool.and_eq_true,decide_eq_true_eq] at hw;obtain⟨oj,hoj,e,he,hb,rfl⟩:=Region.waitsFor_spec hw.2;by_cases hjL:j=L
  · subst hjL
    obtain⟨_,o,ho,hall⟩:=mem_ready.1 hr;rw[hoj] at ho;injection ho with ho;subst ho;exact hall e he hb
  · exact inv.closed j oj hoj (ih (L - j) (by omega) j (by omega) (by omega)) e he hb
theorem LInv.set {L i:Nat}{listed:Array Bool} (inv:LInv md ops L listed) (hi:i∈Region.ready md ops listed) (hiL:i≠L):LInv md ops L (listed.setIfInBounds i true):=by
 obtain⟨_,oi,hoi,hall⟩:=mem_ready.1 hi;refine⟨by simp[inv.size],fun j oj hj hl e he hb=>?_,by rw[getD_set_ne true hiL];exact inv.last⟩;have up:∀m,listed.getD m false=true→(listed.setIfInBounds i true).getD m false=true:=fun m hm=>by
   by_cases h:i=m
   · subst h
     have:i<listed.size:=by
      rcases Nat.lt_or_ge i listed.size with h'|h'
      · exact h'
      · simp[Array.getElem?_eq_none h'] at hm
     simp[this]
   · rw[getD_set_ne false h];exact hm
 by_cases hij:i=j
 · subst hij
   have:oj=oi:=Option.some.inj (hj.symm.trans hoi);subst this;exact up _ (hall e he hb)
 · rw[getD_set_ne false hij] at hl
   exact up _ (inv.closed j oj hj hl e he hb)
theorem ready_last {L:Nat}{listed:Array Bool} (hb:backB md ops=true) (hL:L+1=ops.size) (inv:LInv md ops L listed){i:Nat} (hiL:i≠L) (h:i∈Region.ready md ops listed):i∈Region.ready md ops (listed.setIfInBounds L true):=by
 obtain⟨h0,o,ho,hall⟩:=mem_ready.1 h;have hlt:i<ops.size:=(Array.getElem?_eq_some_iff.1 ho).1;refine mem_ready.2 ⟨by rw[getD_set_ne true (Ne.symm hiL)];exact h0,o,ho,fun e he hbe=>?_⟩;have:=backB_spec hb ho e he hbe;rw[getD_set_ne false (by omega)];exact hall e he hbe
theorem ready_back {L:Nat}{listed:Array Bool} (hb:backB md ops=true) (hL:L+1=ops.size) (inv:LInv md ops L listed){i:Nat} (h:i∈Region.ready md ops (listed.setIfInBounds L true)):i≠L∧i∈Region.ready md ops listed:=by
 obtain⟨h0,o,ho,hall⟩:=mem_ready.1 h;have hlt:i<ops.size:=(Array.getElem?_eq_some_iff.1 ho).1;have hiL:i≠L:=fun e=>by
  subst e;have:=inv.size;simp[show i<listed.size by omega] at h0
 refine⟨hiL,mem_ready.2 ⟨by rw[getD_set_ne true (Ne.symm hiL)] at h0;exact h0,o,ho,fun e he hbe=>?_⟩⟩;have:=backB_spec hb ho e he hbe;have h2:=hall e he hbe;rw[getD_set_ne false (by omega)] at h2;exact h2
theorem ready_some {L:Nat}{listed:Array Bool} (hb:backB md ops=true) (hL:L+1=ops.size) (inv:LInv md ops L listed):Region.ready md ops listed≠[]:=by
 intro h;have key:∀k,k<ops.size→listed.getD k false=true:=by
  intro k;induction k using Nat.strongRecOn with
  | ind k ih=>
   intro hk;cases hc:listed.getD k true with
   | true=>exact getD_true_of (by have:=inv.size;omega) hc
   | false=>
    obtain⟨o,ho⟩:∃o,ops[k]?=some o:=⟨_,Array.getElem?_eq_getElem hk⟩;have:k∈Region.ready md ops listed:=mem_ready.2 ⟨hc,o,ho,fun e he hbe=>ih e.on (backB_spec hb ho e he hbe) (by have:=backB_spec hb ho e he hbe;omega)⟩;rw[h] at this;cases this
 have h1:=key L (by omega);have h2:=inv.last;have:=inv.size;simp[show L<listed.size by omega] at h1 h2
 rw[h1] at h2;cases h2
theorem wpOp_lastQ {L i:Nat}{K:Act→World→Prop}{a:Act}{w:World} (h:wpOp P ops (lastQ P ops Q L) i K a w):wpOp P ops Q i K a w:=by
 unfold wpOp at *;split
 · rename_i ho;simpa[ho] using h
 · rename_i o ho
   simp only[ho] at h;split
   · rename_i hw
     simp only[hw,if_true] at h;refine h.imp (fun h=>?_) (fun h=>h);unfold Oper.wp at *;generalize (execOp a.eval o).run P w=r at *;cases r with
     | ok n w'=>
      cases n<;>simp only[Oper.upon] at h ⊢ <;>first
       | exact h
       | exact Calls.mono h (fun e w'' he=>by cases e<;>exact he)
     | halt x w'=>cases x<;>simp only[Oper.upon] at h ⊢ <;>exact h
   · rename_i hw;simpa[hw] using h
theorem wpAny_last {L:Nat} (hB:lastB md ops L=true):∀(fuel:Nat) (listed:Array Bool) (a:Act) (w:World),LInv md ops L listed →
  wpAny P md ops (lastQ P ops Q L) fuel (listed.setIfInBounds L true) a w→wpAny P md ops Q (fuel+1) listed a w:=by
 simp only[lastB,Bool.and_eq_true,decide_eq_true_eq] at hB;obtain⟨⟨hL,hb⟩,hs⟩:=hB;intro fuel;induction fuel with
 | zero=>
  intro listed a w inv H;refine⟨fun h=>absurd h (ready_some hb hL inv),fun i hi=>?_⟩;by_cases hiL:i=L
  · subst hiL
    exact wpOp_mono (fun a' w' hq=>⟨H.1,hq⟩) H.2
  · have:=ready_last hb hL inv hiL hi
    rw[H.1] at this;cases this
 | succ fuel ih=>
  intro listed a w inv H;refine⟨fun h=>absurd h (ready_some hb hL inv),fun i hi=>?_⟩;by_cases hiL:i=L
  · subst hiL
    have full:=inv.full hs hL hi;have hnone:Region.ready md ops (listed.setIfInBounds i true)=[]:=by
     rw[List.eq_nil_iff_forall_not_mem];intro j hj;obtain⟨hji,hjr⟩:=ready_back hb hL inv hj;obtain⟨h0,o,ho,_⟩:=mem_ready.1 hjr;have hlt:j<ops.size:=(Array.getElem?_eq_some_iff.1 ho).1;have h1:=full (i - j) j (by omega) (by omega);have:=inv.size;simp[show j<listed.size by omega] at h0 h1
     rw[h0] at h1;cases h1
    exact wpOp_mono (fun a' w' hq=>⟨fun _=>hq,by rw[hnone];simp⟩) (H.1 hnone)
  · have h1:=wpOp_lastQ (H.2 i (ready_last hb hL inv hiL hi))
    refine wpOp_mono (fun a' w' h2=>ih _ a' w' (inv.set hi hiL) ?_) h1;rw[Array.setIfInBounds_comm _ _ hiL];exact h2
theorem wp_region_last {id:Nat}{a:Act}{w:World} (S:World→Prop) (L:Nat) (hm:P.follows .mixedOrders=true) (hB:lastB .any ops L=true) (hS:S w.drew)
  (h:S w.drew→wpAnyH P .any ops (lastQ P ops Q L) S L ((Array.replicate ops.size false).setIfInBounds L true) a w.drew):(Code.region id ops true).wp P Q a w:=by
 have hL:L+1=ops.size:=by
  simp only[lastB,Bool.and_eq_true,decide_eq_true_eq] at hB;exact hB.1.1
 refine wp_region_any hm ?_;have inv:LInv .any ops L (Array.replicate ops.size false):=⟨by simp,fun j oj hj hl=>by
  exfalso
  have hlt:j<ops.size:=(Array.getElem?_eq_some_iff.1 hj).1;simp[hlt] at hl,by simp[show L<ops.size by omega]⟩
 have:=wpAny_last hB L _ a w.drew inv (wpAny_of_held _ _ _ _ (h hS));rw[hL] at this;exact this
theorem lastQ_step {L:Nat}{o:Oper}{a:Act}{w:World} (ho:ops[L]?=some o)
 (h:∀K:Act→World→Prop,(∀a w,Q .normal a w→K a w)→if Region.wanted o (yielded ops a.tmps)=true then Oper.wp P o a w K Q else K (a.put o.dst undef) w):lastQ P ops Q L .normal a w:=wpOp_step ho h
end
end Go.Proofs.YtlbjicjinnnboaaGreatDoor
/- The program's Visible: its closure walked. -/
namespace Go.Proofs.YtlbjicjinnnboaaGreatDoor
open Go.RowKit
open Pw
section
variable {g:PgV}{w0 w:World}{V P N FN node:Nat}{vs:List VarM}
variable {ns:List NodeM}{types:List Nat}{slots:List Int}{rec:Nat→List VarM→Bool×List VarM}
theorem visL_hit {l:List Nat}{y:Nat} (v:List VarM) (h:y=node):visL ns types slots node rec (y :: l) v=(true,v):=by
 unfold visL;rw[if_pos h]
theorem visL_let {l:List Nat}{y line a:Nat}{nm:List UInt8} (v:List VarM) (h:y≠node) (hy:ns[y]?=some ⟨10,line,0,nm,[a]⟩){t k:Nat} (ht:types[a]?=some t) (hk:slots[y]?=some (k:Int)):
  visL ns types slots node rec (y :: l) v=visL ns types slots node rec l (v++[⟨nm,t,k⟩]):=by
 conv=>lhs;unfold visL
 rw[if_neg h,hy];dsimp only;rw[if_pos rfl];unfold letV;dsimp only;rw[show [a].headD 0=a from rfl,List.getD_eq_getElem?_getD,ht,List.getD_eq_getElem?_getD,hk];rfl
theorem visL_test {l m:List Nat}{y kind line a:Nat} (v:List VarM) (h:y≠node) (hk:kind=15∨kind=16) (hy:ns[y]?=some ⟨kind,line,0,[],a :: m⟩):
  visL ns types slots node rec (y :: l) v=if (anyV rec m v).1=true then (true,(anyV rec m v).2) else visL ns types slots node rec l (anyV rec m v).2:=by
 conv=>lhs;unfold visL
 rw[if_neg h,hy];dsimp only;rw[if_neg (by omega),if_pos hk];rfl
theorem visL_other {l:List Nat}{y:Nat}{nd:NodeM} (v:List VarM) (h:y≠node) (hy:ns[y]?=some nd) (h0:nd.kind≠10) (h1:nd.kind≠15) (h2:nd.kind≠16):
  visL ns types slots node rec (y :: l) v=visL ns types slots node rec l v:=by
 conv=>lhs;unfold visL
 rw[if_neg h,hy];dsimp only;rw[if_neg h0,if_neg (by omega)]
theorem anyV_fix (hfix:∀y v,(rec y v).1=false→(rec y v).2=v):∀(l:List Nat) (v:List VarM),(anyV rec l v).1=false→(anyV rec l v).2=v
 | [],v,_=>rfl
 | y :: l,v,h=>by
  unfold anyV at h ⊢;split
  · rename_i h1;rw[if_pos h1] at h;cases h
  · rename_i h1
    rw[if_neg h1] at h;have e:=hfix y v (by simpa using h1);rw[e] at h ⊢;exact anyV_fix hfix l v h
def blkV (ns:List NodeM) (types:List Nat) (slots:List Int) (node:Nat) (rec:Nat→List VarM→Bool×List VarM) (l:List Nat) (vs:List VarM):Bool×List VarM:=
 if (visL ns types slots node rec l vs).1=true then (true,(visL ns types slots node rec l vs).2) else (false,(visL ns types slots node rec l vs).2.take vs.length)
theorem blkV_true {l:List Nat}{v:List VarM} (h:visL ns types slots node rec l vs=(true,v)):blkV ns types slots node rec l vs=(true,v):=by
 unfold blkV;rw[h,if_pos rfl]
theorem blkV_false {l:List Nat}{v:List VarM} (h:visL ns types slots node rec l vs=(false,v)):blkV ns types slots node rec l vs=(false,v.take vs.length):=by
 unfold blkV;rw[h,if_neg (by simp)]
set_option maxHeartbeats 3200000 in
set_option maxRecDepth 100000 in
theorem vis1_step (PG:PgAt g w0){x line:Nat}{l:List Nat} (hx:g.p.ns[x]?=some ⟨18,line,0,[],l⟩) (hl3:l.length≤300) (hvs:vs.length≤190000)
  (hrec:∀y v w,y<x→(∃nd,g.p.ns[y]?=some nd∧nd.kind=18)→v.length≤vs.length+300→Vw g w0 V P N FN node v w→Calls Tryz.prog 63 (#[.int .i64 (y:Nat)]++vCaps V P N FN) w fun en w'=>en = .returned (.bool (rec y v).1)∧Vw g w0 V P N FN node (rec y v).2 w')
  (hfix:∀y v,(rec y v).1=false→(rec y v).2=v) (hst:∀y∈l,y<x∧∃nd,g.p.ns[y]?=some nd∧StV g.p y nd) (h:Vw g w0 V P N FN node vs w):
  Calls Tryz.prog 63 (#[.int .i64 (x:Nat)]++vCaps V P N FN) w fun en w'=>en = .returned (.bool (blkV g.p.ns g.p.types g.p.slots node rec l vs).1)∧Vw g w0 V P N FN node (blkV g.p.ns g.p.types g.p.slots node rec l vs).2 w':=by
 show Calls Tryz.prog 63 #[.int .i64 (x:Nat),.pointer (some ⟨V,0,none⟩),.pointer (some ⟨P,0,none⟩),.pointer (some ⟨N,0,none⟩),.pointer (some ⟨FN,0,none⟩)] w _
 have hx5:x<g.p.ns.length:=(List.getElem?_eq_some_iff.1 hx).1;have hx4:(g.p.ns.length:Int)≤300:=by have:=PG.is.tree.ok.few;omega
 have hx3:(x:Int)<(g.p.ns.length:Int):=by omega
 have hl4:(l.length:Int)≤300:=by omega
 obtain⟨c0,-,-,-,-,A0,C0,c5,-,hc5,-⟩:=h.cells;obtain⟨LA,LC,hlo,-,ncx⟩:=PG.nodeRow hx;obtain⟨-,-,-,-,n4⟩:=ncx w h.fr;have HLO:=hid hlo;have h4:x*5+4<g.p.ns.length*5:=by omega
 have HPG:=hid PG;have HX:=hid hx;have HREC:=hid hrec;have HFIX:=hid hfix;have HST:=hid hst;have HS:=hid h;have hv3:(vs.length:Int)≤190000:=by omega
 obtain⟨m,hm⟩:∃m,vs.length=m:=⟨_,rfl⟩;have HM:=hid hm;rw[hm] at c5 hc5 hv3 hvs;dsimp only at n4 HLO;clear ncx hlo h hx hrec hfix hst PG hm;go_enter Tryz.func63,Tryz.ntmps63;go_wp2_with fail
 go_loopw [21] (fun i wr=>∃(j:Nat) (v:List VarM),j≤l.length∧i = .int .i64 j∧Hid (visL g.p.ns g.p.types g.p.slots node rec l vs=visL g.p.ns g.p.types g.p.slots node rec (l.drop j) v)∧Hid (m≤v.length∧v.length≤m+j)∧Hid (Vw g w0 V P N FN node v wr)) (fun i _=>l.length - (intOf i).toNat)
 case atStart=>exact⟨0,vs,Nat.zero_le _,rfl,hid (by rw[List.drop_zero]),hid (by have:=HM.out;omega),HS⟩
 case round=>
  clear HS;obtain⟨j,v,hj,rfl,EQ,LN,SS⟩:=hrel;by_cases hlt:j<l.length
  · have hlt2:(j:Int)<(l.length:Int):=by omega
    obtain⟨y,hy⟩:∃y,l[j]?=some y:=⟨_,List.getElem?_eq_getElem hlt⟩;have HD:=hid (show l.drop j=y :: l.drop (j+1) from by
      obtain⟨h1,h2⟩:=List.getElem?_eq_some_iff.1 hy;rw[List.drop_eq_getElem_cons h1,h2])
    obtain⟨hyx,nd,hnd,hs⟩:=HST.out y (List.mem_of_getElem? hy);obtain⟨p0,-⟩:=SS.out.cells;obtain⟨kb,e9,kc⟩:=(HLO.out.fr SS.out.fr (fun _ _ x=>x)).some (by omega);subst e9;have k0:=kc j (.int .i64 (y:Nat)) (by simp[ints,hy]);obtain⟨NA,NC,hno,hnc,ncell⟩:=HPG.out.nodeRow hnd;obtain⟨e0,e1,e2,e3,e4⟩:=ncell wr SS.out.fr;have hy5:y<g.p.ns.length:=by omega
    have hy3:(y:Int)<(g.p.ns.length:Int):=by omega
    have S6:=hid (show Vw g w0 V P N FN node v (wr.alloc (.cells #[.int .i64 (nd.kind:Nat),.int .i64 (nd.line:Nat),.int .i64 (nd.n:Nat),.string (bs nd.name),.slice NA nd.l.length NC] 50)) from SS.out.no ((Fr.refl nob wr).alloc _));have BN:=hid (Blk.new wr 50 #[.int .i64 (nd.kind:Nat),.int .i64 (nd.line:Nat),.int .i64 (nd.n:Nat),.string (bs nd.name),.slice NA nd.l.length NC]);have HNO:=hid hno;have HND:=hid hnd;have HJ:=hid hlt;have HYX:=hid hyx;have HSV:=hid hs;have EV:=hid (show visL g.p.ns g.p.types g.p.slots node rec l vs=visL g.p.ns g.p.types g.p.slots node rec (y :: l.drop (j+1)) v from by rw[←HD.out];exact EQ.out);clear hy hlt hj hyx hnd hs ncell hno kc EQ SS HD;go_upto_region 6 with fail;clear p0 k0 e0 e1 e2 e3 e4;generalize wr.alloc (.cells #[.int .i64 (nd.kind:Nat),.int .i64 (nd.line:Nat),.int .i64 (nd.n:Nat),.string (bs nd.name),.slice NA nd.l.length NC] 50)=w6 at *;generalize wr.heap.size=T at *;have d0:w6.cell? ⟨T,0,none⟩=some (.int .i64 (nd.kind:Nat)):=(BN.out.cell 0).trans rfl;obtain⟨p0,p2,p3,pn,pf,A,C,d5,hvo,hvc,hvn⟩:=S6.out.cells;by_cases hyn:y=node
    · have heb:((y:Int)==(node:Int))=true:=by simp[hyn]
      have HYN:=hid hyn;clear hyn;go_wp2_with fail
      go_ret;rw[blkV_true (EV.out.trans (visL_hit v HYN.out))];exact⟨rfl,S6.out⟩
    · have heb:((y:Int)==(node:Int))=false:=by simp;omega
      have HYN:=hid hyn;clear hyn;cases HSV.out with
      | let_ line nm a t k ht hk ha=>
       obtain⟨ab,e9,nc0⟩:=(HNO.out.fr S6.out.fr (fun _ _ x=>x)).some (by simp);subst e9;have a0:=nc0 0 (.int .i64 (a:Nat)) rfl;obtain⟨tb',e9,tc0⟩:=(HPG.out.types.fr S6.out.fr (fun _ _ x=>x)).some (by omega);injection e9 with e9;injection e9 with e9;subst e9;have t0:=tc0 a (.int .i64 (t:Nat)) (by simp[ints,ht]);obtain⟨sb',e9,sc0⟩:=(HPG.out.slots.fr S6.out.fr (fun _ _ x=>x)).some (by omega);injection e9 with e9;injection e9 with e9;subst e9;have s0:=sc0 y (.int .i64 (k:Nat)) (by simp[intsI,hk]);have ha3:(a:Int)<(g.p.ns.length:Int):=by omega
       have d3:w6.cell? ⟨T,3,none⟩=some (.string (bs nm)):=(BN.out.cell 3).trans rfl;have d4:w6.cell? ⟨T,4,none⟩=some (.slice (some ⟨ab,0,none⟩) 1 NC):=(BN.out.cell 4).trans rfl;have EV2:=hid (EV.out.trans (visL_let v HYN.out HND.out ht hk));have hnc1:1≤NC:=hnc;obtain⟨A',c',hvb,-,-⟩:=S6.out.vc;have AB:=hid (show ab<w0.heap.size from HNO.out.blk_lt (blk_rowP (by simp) hnc));have TB:=hid (show g.tb<w0.heap.size from HPG.out.types.blk_lt (blk_rowP (by omega) HPG.out.types.capn.1));have SB:=hid (show g.sb<w0.heap.size from HPG.out.slots.blk_lt (blk_rowP (by omega) HPG.out.slots.capn.1));have HK:=hid (show ∀w',Fr (fun b=>b=V∨obl (blk (.slice A v.length C)) b) w6 w'→w'.cell? ⟨T,3,none⟩=some (.string (bs nm))∧w'.cell? ⟨T,4,none⟩=some (.slice (some ⟨ab,0,none⟩) 1 NC)∧w'.cell? ⟨P,2,none⟩=some (.slice (some ⟨g.tb,0,none⟩) g.p.ns.length g.tc)∧w'.cell? ⟨P,3,none⟩=some (.slice (some ⟨g.sb,0,none⟩) g.p.ns.length g.sc)∧w'.cell? ⟨ab,0,none⟩=some (.int .i64 (a:Nat))∧w'.cell? ⟨g.tb,a,none⟩=some (.int .i64 (t:Nat))∧w'.cell? ⟨g.sb,y,none⟩=some (.int .i64 (k:Nat)) from fun w' f=>by
         have hV:=S6.out.hV;have nT:¬(T=V∨obl (blk (.slice A v.length C)) T):=by
           rintro (e|e)
           · exact BN.out.ne hvb (by decide) e
           · exact hvo.blk_ne BN.out (by decide) e
         have nP:¬(P=V∨obl (blk (.slice A v.length C)) P):=by
           rintro (e|e)
           · exact S6.out.pc.ne hvb (by decide) e
           · exact hvo.blk_ne S6.out.pc (by decide) e
         have low:∀b,b<w0.heap.size→¬(b=V∨obl (blk (.slice A v.length C)) b):=fun b hb=>by
           rintro (e|e)
           · omega
           · have:=hvn b e;omega
         have sz:=S6.out.fr.size;exact⟨(f.cell (p:=⟨T,3,none⟩) BN.out.lt nT).trans d3,(f.cell (p:=⟨T,4,none⟩) BN.out.lt nT).trans d4,(f.cell (p:=⟨P,2,none⟩) S6.out.pc.lt nP).trans p2,(f.cell (p:=⟨P,3,none⟩) S6.out.pc.lt nP).trans p3,
           (f.cell (p:=⟨ab,0,none⟩) (Nat.lt_of_lt_of_le AB.out sz) (low _ AB.out)).trans a0,(f.cell (p:=⟨g.tb,a,none⟩) (Nat.lt_of_lt_of_le TB.out sz) (low _ TB.out)).trans t0,(f.cell (p:=⟨g.sb,y,none⟩) (Nat.lt_of_lt_of_le SB.out sz) (low _ SB.out)).trans s0⟩)
       have HV:=hid ((hvo.alloc (.cells #[.string (bs nm),.int .i64 (t:Nat),.int .i64 (k:Nat)] 62)).fr ((Fr.refl nob _).drew) (fun _ _ x=>x));have HR:=hid (Rd.ofBlk (n:=1) (size:=3) (cs:=[.string (bs nm),.int .i64 (t:Nat),.int .i64 (k:Nat)]) ((Blk.new w6 62 [.string (bs nm),.int .i64 (t:Nat),.int .i64 (k:Nat)].toArray).fr ((Fr.refl nob _).drew) (fun x=>x)) rfl (by decide));have HARM:=hid (fun (A3:Option Addr) (c3:Nat) (w8:World) (ho8:Own w8 62 3 (.slice A3 (v.length+1) c3) (v.length+1) (varCells v++[.string (bs nm),.int .i64 (t:Nat),.int .i64 (k:Nat)])) (hf8:Fr (obl (blk (.slice A v.length C))) ((w6.alloc (.cells #[.string (bs nm),.int .i64 (t:Nat),.int .i64 (k:Nat)] 62)).drew) w8) (hv8:blk (.slice A3 (v.length+1) c3)=blk (.slice A v.length C)∨blk (.slice A3 (v.length+1) c3)=some ((w6.alloc (.cells #[.string (bs nm),.int .i64 (t:Nat),.int .i64 (k:Nat)] 62)).drew).heap.size)=>
         show (Vw g w0 V P N FN node (v++[⟨nm,t,k⟩]) (w8.setCell ⟨V,0,none⟩ (.slice A3 (v.length+1) c3))∧w8.frozen? ⟨V,0,none⟩=false∧V<w8.heap.size∧w8.cell? ⟨V,0,none⟩=some (.slice A v.length C))∧Fr (fun b=>b=V∨obl (blk (.slice A v.length C)) b) w6 w8∧Fr (fun b=>b=V∨obl (blk (.slice A v.length C)) b) w6 (w8.setCell ⟨V,0,none⟩ (.slice A3 (v.length+1) c3)) from by
           have f1:Fr nob w6 ((w6.alloc (.cells #[.string (bs nm),.int .i64 (t:Nat),.int .i64 (k:Nat)] 62)).drew):=((Fr.refl nob w6).alloc _).drew;have f2:Fr (fun b=>b=V∨obl (blk (.slice A v.length C)) b) w6 w8:=f1.trans hf8 (fun _ _ x=>x.elim) (fun _ _ x=> .inr x);exact⟨S6.out.app (v:=⟨nm,t,k⟩) d5 f1 ho8 hf8 hv8,f2,f2.setCell _ _ (fun _=> .inl rfl)⟩)
       have hvl:v.length≤190300:=by have:=LN.out;have:=HJ.out;omega
       have KK:=hid (HK.out _ (Fr.refl _ w6).drew);have d5a:w6.drew.cell? ⟨V,0,none⟩=some (.slice A v.length C):=d5;have d5b:(w6.drew.alloc (.cells #[.string (bs nm),.int .i64 (t:Nat),.int .i64 (k:Nat)] 62)).cell? ⟨V,0,none⟩=some (.slice A v.length C):=(((Fr.refl nob w6).drew.alloc _).cell (p:=⟨V,0,none⟩) hvb.lt (fun x=>x)).trans d5;clear nc0 tc0 sc0 ht hk ha HNO EV hvo hvn hnc hvb S6 BN AB TB SB;go_wp2_with fail
       refine wp_region_last (fun w'=>w'.cell? ⟨V,0,none⟩=some (.slice A v.length C)∧w'.cell? ⟨T,3,none⟩=some (.string (bs nm))∧w'.cell? ⟨T,4,none⟩=some (.slice (some ⟨ab,0,none⟩) 1 NC)∧w'.cell? ⟨P,2,none⟩=some (.slice (some ⟨g.tb,0,none⟩) g.p.ns.length g.tc)∧w'.cell? ⟨P,3,none⟩=some (.slice (some ⟨g.sb,0,none⟩) g.p.ns.length g.sc)∧w'.cell? ⟨ab,0,none⟩=some (.int .i64 (a:Nat))∧w'.cell? ⟨g.tb,a,none⟩=some (.int .i64 (t:Nat))∧w'.cell? ⟨g.sb,y,none⟩=some (.int .i64 (k:Nat))) 19 (by kernel_rfl) (by kernel_rfl) ⟨d5a,KK.out⟩ (fun hHeld=>?_);clear d0 d3 d4 d5 a0 t0 s0 p0 p2 p3 pn pf;refine wpAnyH_take (i:=0) (v:=?_) rfl (by kernel_rfl) (by kernel_rfl) (by kernel_rfl) (fun _ _ _ h=>h) (Or.inl ⟨by rfl,?_⟩) (by assumption) ?_
       case refine_2=>(intro w hSw;(try dsimp only at hSw);go_simp;(try with_reducible rfl))
       simp only[Act.put,List.setIfInBounds_toArray,List.set_cons_zero,List.set_cons_succ];refine wpAnyH_take (i:=1) (v:=?_) rfl (by kernel_rfl) (by kernel_rfl) (by kernel_rfl) (fun _ _ _ h=>h) (Or.inl ⟨by rfl,?_⟩) (by assumption) ?_
       case refine_2=>(intro w hSw;(try dsimp only at hSw);go_simp;(try with_reducible rfl))
       simp only[Act.put,List.setIfInBounds_toArray,List.set_cons_zero,List.set_cons_succ];refine wpAnyH_take (i:=2) (v:=?_) rfl (by kernel_rfl) (by kernel_rfl) (by kernel_rfl) (fun _ _ _ h=>h) (Or.inl ⟨by rfl,?_⟩) (by assumption) ?_
       case refine_2=>(intro w hSw;(try dsimp only at hSw);go_simp;(try with_reducible rfl))
       simp only[Act.put,List.setIfInBounds_toArray,List.set_cons_zero,List.set_cons_succ];refine wpAnyH_take (i:=3) (v:=?_) rfl (by kernel_rfl) (by kernel_rfl) (by kernel_rfl) (fun _ _ _ h=>h) (Or.inl ⟨by rfl,?_⟩) (by assumption) ?_
       case refine_2=>(intro w hSw;(try dsimp only at hSw);go_simp;(try with_reducible rfl))
       simp only[Act.put,List.setIfInBounds_toArray,List.set_cons_zero,List.set_cons_succ];refine wpAnyH_take (i:=4) (v:=?_) rfl (by kernel_rfl) (by kernel_rfl) (by kernel_rfl) (fun _ _ _ h=>h) (Or.inl ⟨by rfl,?_⟩) (by assumption) ?_
       case refine_2=>(intro w hSw;(try dsimp only at hSw);go_simp;(try with_reducible rfl))
       simp only[Act.put,List.setIfInBounds_toArray,List.set_cons_zero,List.set_cons_succ];refine wpAnyH_take (i:=5) (v:=?_) rfl (by kernel_rfl) (by kernel_rfl) (by kernel_rfl) (fun _ _ _ h=>h) (Or.inl ⟨by rfl,?_⟩) (by assumption) ?_
       case refine_2=>(intro w hSw;(try dsimp only at hSw);go_simp;(try with_reducible rfl))
       simp only[Act.put,List.setIfInBounds_toArray,List.set_cons_zero,List.set_cons_succ];refine wpAnyH_take (i:=6) (v:=?_) rfl (by kernel_rfl) (by kernel_rfl) (by kernel_rfl) (fun _ _ _ h=>h) (Or.inl ⟨by rfl,?_⟩) (by assumption) ?_
       case refine_2=>(intro w hSw;(try dsimp only at hSw);go_simp;(try with_reducible rfl))
       simp only[Act.put,List.setIfInBounds_toArray,List.set_cons_zero,List.set_cons_succ];refine wpAnyH_take (i:=7) (v:=?_) rfl (by kernel_rfl) (by kernel_rfl) (by kernel_rfl) (fun _ _ _ h=>h) (Or.inl ⟨by rfl,?_⟩) (by assumption) ?_
       case refine_2=>(intro w hSw;(try dsimp only at hSw);go_simp;(try with_reducible rfl))
       simp only[Act.put,List.setIfInBounds_toArray,List.set_cons_zero,List.set_cons_succ];refine wpAnyH_take (i:=8) (v:=?_) rfl (by kernel_rfl) (by kernel_rfl) (by kernel_rfl) (fun _ _ _ h=>h) (Or.inl ⟨by rfl,?_⟩) (by assumption) ?_
       case refine_2=>(intro w hSw;(try dsimp only at hSw);go_simp;(try with_reducible rfl))
       simp only[Act.put,List.setIfInBounds_toArray,List.set_cons_zero,List.set_cons_succ];refine wpAnyH_take (i:=9) (v:=?_) rfl (by kernel_rfl) (by kernel_rfl) (by kernel_rfl) (fun _ _ _ h=>h) (Or.inl ⟨by rfl,?_⟩) (by assumption) ?_
       case refine_2=>(intro w hSw;(try dsimp only at hSw);go_simp;(try with_reducible rfl))
       simp only[Act.put,List.setIfInBounds_toArray,List.set_cons_zero,List.set_cons_succ];refine wpAnyH_take (i:=10) (v:=?_) rfl (by kernel_rfl) (by kernel_rfl) (by kernel_rfl) (fun _ _ _ h=>h) (Or.inl ⟨by rfl,?_⟩) (by assumption) ?_
       case refine_2=>(intro w hSw;(try dsimp only at hSw);go_simp;(try with_reducible rfl))
       simp only[Act.put,List.setIfInBounds_toArray,List.set_cons_zero,List.set_cons_succ];refine wpAnyH_take (i:=11) (v:=?_) rfl (by kernel_rfl) (by kernel_rfl) (by kernel_rfl) (fun _ _ _ h=>h) (Or.inl ⟨by rfl,?_⟩) (by assumption) ?_
       case refine_2=>(intro w hSw;(try dsimp only at hSw);go_simp;(try with_reducible rfl))
       simp only[Act.put,List.setIfInBounds_toArray,List.set_cons_zero,List.set_cons_succ];refine wpAnyH_take (i:=12) (v:=?_) rfl (by kernel_rfl) (by kernel_rfl) (by kernel_rfl) (fun _ _ _ h=>h) (Or.inl ⟨by rfl,?_⟩) (by assumption) ?_
       case refine_2=>(intro w hSw;(try dsimp only at hSw);go_simp;(try with_reducible rfl))
       simp only[Act.put,List.setIfInBounds_toArray,List.set_cons_zero,List.set_cons_succ];refine wpAnyH_take (i:=13) (v:=?_) rfl (by kernel_rfl) (by kernel_rfl) (by kernel_rfl) (fun _ _ _ h=>h) (Or.inl ⟨by rfl,?_⟩) (by assumption) ?_
       case refine_2=>(intro w hSw;(try dsimp only at hSw);go_simp;(try with_reducible rfl))
       simp only[Act.put,List.setIfInBounds_toArray,List.set_cons_zero,List.set_cons_succ];refine wpAnyH_take (i:=14) (v:=?_) rfl (by kernel_rfl) (by kernel_rfl) (by kernel_rfl) (fun _ _ _ h=>h) (Or.inl ⟨by rfl,?_⟩) (by assumption) ?_
       case refine_2=>(intro w hSw;(try dsimp only at hSw);go_simp;(try with_reducible rfl))
       simp only[Act.put,List.setIfInBounds_toArray,List.set_cons_zero,List.set_cons_succ];refine wpAnyH_take (i:=15) (v:=?_) rfl (by kernel_rfl) (by kernel_rfl) (by kernel_rfl) (fun _ _ _ h=>h) (Or.inl ⟨by rfl,?_⟩) (by assumption) ?_
       case refine_2=>(intro w hSw;(try dsimp only at hSw);go_simp;(try with_reducible rfl))
       simp only[Act.put,List.setIfInBounds_toArray,List.set_cons_zero,List.set_cons_succ];refine wpAnyH_take (i:=16) (v:=?_) rfl (by kernel_rfl) (by kernel_rfl) (by kernel_rfl) (fun _ _ _ h=>h) (Or.inl ⟨by rfl,?_⟩) (by assumption) ?_
       case refine_2=>(intro w hSw;(try dsimp only at hSw);go_simp;(try with_reducible rfl))
       simp only[Act.put,List.setIfInBounds_toArray,List.set_cons_zero,List.set_cons_succ];refine wpAnyH_ready (rs:=[17]) (by kernel_rfl) (by simp) ?_;refine AllReadyH.cons rfl (fun K hK=>?_) AllReadyH.nil;go_simp;refine hK.out _ _ (⟨d5b,HK.out _ ((Fr.refl _ w6).drew.alloc _)⟩) (fun hHeld=>?_);clear hK K;try simp only[Act.put,List.setIfInBounds_toArray,List.set_cons_zero,List.set_cons_succ]
       refine wpAnyH_ready (rs:=[18]) (by kernel_rfl) (by simp) ?_;refine AllReadyH.cons rfl (fun K hK=>?_) AllReadyH.nil;refine step_append (v:= .slice A v.length C) (n:=v.length) (m:=1) (xs:=varCells v) (news:=[.string (bs nm),.int .i64 (t:Nat),.int .i64 (k:Nat)]) (by rfl) _ _ (by rfl) TyVar (by rfl) (by rfl) HV.out HR.out (by simp[Value.oneCell']) (by omega) (by unfold maxLen;omega) ?_;intro A3 c3 w8 ho8 hf8 hv8;have X:=HARM.out A3 c3 w8 ho8 hf8 hv8;have S9:=hid X.1.1;have f8:=X.1.2.1;have vlt:=X.1.2.2.1;have v5:=X.1.2.2.2;have K8:=HK.out _ X.2.1;clear ho8 hf8 hv8 X;refine hK.out _ _ (⟨v5,K8⟩) (fun hHeld=>?_);clear hK K;try simp only[Act.put,List.setIfInBounds_toArray,List.set_cons_zero,List.set_cons_succ]
       clear K8 hHeld d5a d5b KK HK HARM HV HR;refine wpAnyH_done (by kernel_rfl) ?_ _;refine lastQ_step (L:=19) rfl (fun K hK=>?_);go_simp;refine hK _ _ ?_;clear hK K;go_wp2_with fail
       go_roundw
       case rel=>exact⟨j+1,v++[⟨nm,t,k⟩],by have:=HJ.out;omega,by go_num,EV2,hid (by rw[List.length_append,List.length_singleton];have:=LN.out;omega),S9⟩
       case measure=>simp[intOf];have:=HJ.out;omega
      | test kind line a q hk hb hq3 hq0=>
       have EV2:=hid (EV.out.trans (visL_test v HYN.out hk HND.out));obtain⟨ab,e9,nc0⟩:=(HNO.out.fr S6.out.fr (fun _ _ x=>x)).some (by simp);subst e9;obtain⟨b1,q,rfl⟩:∃b1 q',q=b1 :: q':=by
         cases q with
         | nil=>simp at hq0
         | cons b1 q=>exact⟨b1,q,rfl⟩
       have S7:=hid (S6.out.no (Fr.refl nob w6).drew);have CT:=hid (contst_any (F:=63) (caps:=vCaps V P N FN) (S:=fun v w=>Vw g w0 V P N FN node v w) (rec:=rec) (vs:=v) (l:=b1 :: q) (b:=ab) (o:=1) (c:=NC - 1) enters_vis1
         (fun b hbm w' hw'=>HREC.out b v w' (by have:=(hb b hbm).1;have:=HYX.out;omega) (hb b hbm).2 (by have:=LN.out;have:=HM.out;have:=HJ.out;omega) hw')
         (fun b _ h=>HFIX.out b v h)
         (fun w' hw' j b hjb=>by
           obtain⟨ab',e9,nc1⟩:=(HNO.out.fr hw'.fr (fun _ _ x=>x)).some (by simp);injection e9 with e9;injection e9 with e9;subst e9;rw[Nat.add_comm 1 j];exact nc1 (j+1) (.int .i64 (b:Nat)) (by show (List.map (fun x:Nat=>Value.int .i64 (x:Nat)) (b1 :: q))[j]?=_;rw[List.getElem?_map,hjb];rfl))
         hq3 S7.out)
       have d4:w6.cell? ⟨T,4,none⟩=some (.slice (some ⟨ab,0,none⟩) (a :: b1 :: q).length NC):=(BN.out.cell 4).trans rfl;obtain⟨n,hn⟩:∃n,(b1 :: q).length=n:=⟨_,rfl⟩;have hn2:(a :: b1 :: q).length=n+1:=by rw[←hn];rfl
       rw[hn2] at d4 hnc;rw[hn] at CT hq3;have hnc2:((n+1:Nat):Int)≤(NC:Int):=by omega
       have hn1:(1:Int)≤(n:Int)+1:=by omega
       have hnc3:(n:Int)+1≤(NC:Int):=by omega
       have hnc4:2≤NC:=by have:(b1 :: q).length=n:=hn;simp at this;omega
       clear nc0 HNO EV hvo hvn hb hn hn2 hq0 S7;rcases hk with rfl|rfl
       · go_wp2_with fail
         refine wp_region_still_tail 13 (by kernel_rfl) (by kernel_rfl) ?_;simp only[List.take_succ_cons,List.take_zero,List.drop_succ_cons,List.drop_zero];iterate 4 still_step
         iterate 3 (with_reducible refine wpStill_skip (by kernel_rfl) ?_;simp only[Act.put,List.setIfInBounds_toArray,List.set_cons_zero,List.set_cons_succ])
         iterate 2 still_step
         iterate 4 (with_reducible refine wpStill_take (by kernel_rfl) (fun K hK=>?_);go_simp;refine hK _ ?_;clear hK K)
         refine wpStill_nil ?_;change wpList _ _ _ _ _ w6.drew;clear d0 d4 d5 p0 p2 p3 pn pf BN S6 heb;generalize w6.drew=w7 at *;go_wp2_with fail
         refine CT.out.mono ?_;rintro en w8 ⟨rfl,h8⟩;obtain⟨bb,hbb⟩:∃bb,(anyV rec (b1 :: q) v).1=bb:=⟨_,rfl⟩;rw[hbb];rw[hbb] at EV2;have S8:=hid h8;have HBB:=hid hbb;clear h8 hbb CT;cases bb with
         | true=>
           go_wp2_with fail
           go_ret;rw[blkV_true (EV2.out.trans (by first|exact if_pos rfl|exact if_pos trivial|simp))];exact⟨rfl,S8.out⟩
         | false=>
           have EV3:=hid (EV2.out.trans (by first|exact if_neg (by decide)|exact if_neg not_false));have FX:=hid (anyV_fix HFIX.out _ _ HBB.out);go_wp2_with fail
           go_roundw
           case rel=>exact⟨j+1,(anyV rec (b1 :: q) v).2,by have:=HJ.out;omega,by go_num,EV3,hid (by rw[FX.out];have:=LN.out;omega),S8⟩
           case measure=>simp[intOf];have:=HJ.out;omega
       · go_wp2_with fail
         refine wp_region_still_tail 13 (by kernel_rfl) (by kernel_rfl) ?_;simp only[List.take_succ_cons,List.take_zero,List.drop_succ_cons,List.drop_zero];iterate 4 still_step
         iterate 3 (with_reducible refine wpStill_take (by kernel_rfl) (fun K hK=>?_);go_simp;refine hK _ ?_;clear hK K)
         iterate 2 still_step
         iterate 4 (with_reducible refine wpStill_take (by kernel_rfl) (fun K hK=>?_);go_simp;refine hK _ ?_;clear hK K)
         refine wpStill_nil ?_;change wpList _ _ _ _ _ w6.drew;clear d0 d4 d5 p0 p2 p3 pn pf BN S6 heb;generalize w6.drew=w7 at *;go_wp2_with fail
         refine CT.out.mono ?_;rintro en w8 ⟨rfl,h8⟩;obtain⟨bb,hbb⟩:∃bb,(anyV rec (b1 :: q) v).1=bb:=⟨_,rfl⟩;rw[hbb];rw[hbb] at EV2;have S8:=hid h8;have HBB:=hid hbb;clear h8 hbb CT;cases bb with
         | true=>
           go_wp2_with fail
           go_ret;rw[blkV_true (EV2.out.trans (by first|exact if_pos rfl|exact if_pos trivial|simp))];exact⟨rfl,S8.out⟩
         | false=>
           have EV3:=hid (EV2.out.trans (by first|exact if_neg (by decide)|exact if_neg not_false));have FX:=hid (anyV_fix HFIX.out _ _ HBB.out);go_wp2_with fail
           go_roundw
           case rel=>exact⟨j+1,(anyV rec (b1 :: q) v).2,by have:=HJ.out;omega,by go_num,EV3,hid (by rw[FX.out];have:=LN.out;omega),S8⟩
           case measure=>simp[intOf];have:=HJ.out;omega
      | other nd h0 h1 h2=>
       have EV2:=hid (EV.out.trans (visL_other v HYN.out HND.out h0 h1 h2));have i0:((nd.kind:Int)==10)=false:=beq_eq_false_iff_ne.2 (by omega);have i1:((nd.kind:Int)==15)=false:=beq_eq_false_iff_ne.2 (by omega);have i2:((nd.kind:Int)==16)=false:=beq_eq_false_iff_ne.2 (by omega);clear h0 h1 h2 EV HNO hvo hvn;go_wp2_with fail
       go_quiet (fail)
       have S7:=hid (S6.out.no ((Fr.refl nob w6).drewN nq));clear d0 d5 p0 p2 p3 pn pf BN S6 heb i0 i1 i2;generalize w6.drewN nq=w7 at *;go_wp2_with fail
       go_roundw
       case rel=>exact⟨j+1,v,by have:=HJ.out;omega,by go_num,EV2,hid (by have:=LN.out;omega),S7⟩
       case measure=>simp[intOf];have:=HJ.out;omega
  · have hlt2:¬(j:Int)<(l.length:Int):=by omega
    have HF:=hid (show visL g.p.ns g.p.types g.p.slots node rec l vs=(false,v) from by rw[EQ.out,List.drop_of_length_le (by omega)];rfl);obtain⟨-,-,-,-,-,A,C,d5,ho,hc,hnew⟩:=SS.out.cells;obtain⟨A',c',hb,-,-⟩:=SS.out.vc;have f5:=hb.frozen 0;have vlt:=hb.lt;have hmv:(m:Int)≤(C:Int):=by have:=LN.out;omega
    have hm0:(0:Int)≤(m:Int):=by omega
    have FIN:=hid (show Vw g w0 V P N FN node (v.take m) (wr.setCell ⟨V,0,none⟩ (.slice A m C)) from by
      have e:(v.take m).length=m:=by rw[List.length_take];have:=LN.out;omega
      have o2:=ho.cut (m:=m) LN.out.1;rw[varCells_take] at o2;have:=SS.out.set (us:=v.take m) (A:=A) (c:=C) (by rw[e];exact o2) (by rw[e];intro b hb;exact hnew b (by cases A<;>first|(simp[blk] at hb;done)|exact hb));rw[e] at this;exact this)
    clear hb ho hc hnew SS EQ hj hlt LN;go_wp2_with fail
    go_ret;rw[blkV_false HF.out,HM.out];exact⟨rfl,FIN.out⟩
end
section
variable {g:PgV}{w0 w w1:World}{V P N FN node:Nat}{vs:List VarM}
theorem stV_of (hi:ProgIs g.p){x y:Nat} (hk:Kid (g.p.ns.take x) clsS y):y<x∧∃nd,g.p.ns[y]?=some nd∧StV g.p y nd:=by
 obtain⟨hlt,c,hc1,hc2⟩:=hk.take;refine⟨hlt,c,hc1,?_⟩;have hy:y<g.p.ns.length:=(List.getElem?_eq_some_iff.1 hc1).1;have hok:=hi.tree.ok.nodes y c hc1;have kb:∀{b:Nat},Kid (g.p.ns.take y) clsB b→b<y∧∃nd,g.p.ns[b]?=some nd∧nd.kind=18:=fun {b} hb=>by
  obtain⟨h1,d,hd1,hd2⟩:=hb.take;exact⟨h1,d,hd1,by simpa[clsB] using hd2⟩
 cases hok with
 | let_ line nm a ha=>
  obtain⟨k,v,_,_,_,hs,_⟩:=sizes_let hi hc1 rfl;have hlt:=ha.take.1;obtain⟨t,ht⟩:∃t,g.p.types[a]?=some t:=⟨_,List.getElem?_eq_getElem (by have:=hi.lt;omega)⟩;exact .let_ line nm a t v ht hs (by omega)
 | if2 line a b ha hb=>exact .test 15 line a [b] (.inl rfl) (fun c hc=>by rw[List.mem_singleton.1 hc];exact kb hb) (by simp) (by simp)
 | if3 line a b d ha hb hd=>exact .test 15 line a [b,d] (.inl rfl) (fun c hc=>by
   rcases List.mem_cons.1 hc with e|hc
   · rw[e];exact kb hb
   · rw[List.mem_singleton.1 hc];exact kb hd) (by simp) (by simp)
 | loop line a b ha hb=>exact .test 16 line a [b] (.inr rfl) (fun c hc=>by rw[List.mem_singleton.1 hc];exact kb hb) (by simp) (by simp)
 | set line nm a ha=>exact .other _ (by simp) (by simp) (by simp)
 | put line nm a b ha hb=>exact .other _ (by simp) (by simp) (by simp)
 | do_ line a ha=>exact .other _ (by simp) (by simp) (by simp)
 | print line a ha=>exact .other _ (by simp) (by simp) (by simp)
 | ret0 line=>exact .other _ (by simp) (by simp) (by simp)
 | ret1 line a ha=>exact .other _ (by simp) (by simp) (by simp)
 | _=>simp[clsS] at hc2
theorem vis1_any (PG:PgAt g w0):∀(f x:Nat) (vs:List VarM) (w:World),x<f→(∃nd,g.p.ns[x]?=some nd∧nd.kind=18)→vs.length+300*f≤190000→Vw g w0 V P N FN node vs w →
  Calls Tryz.prog 63 (#[.int .i64 (x:Nat)]++vCaps V P N FN) w fun en w'=>en = .returned (.bool (visB g.p.ns g.p.types g.p.slots node f x vs).1)∧Vw g w0 V P N FN node (visB g.p.ns g.p.types g.p.slots node f x vs).2 w'
 | 0,x,_,_,h,_,_,_=>absurd h (Nat.not_lt_zero _)
 | f+1,x,vs,w,hx,⟨nd,hnd,hk⟩,hlen,h=>by
  have hok:=PG.is.tree.ok.nodes x nd hnd;have h3:=PG.is.tree.rows nd (List.mem_of_getElem? hnd);cases hok with
  | block line l hl=>
   have e:∀v,visB g.p.ns g.p.types g.p.slots node (f+1) x v=blkV g.p.ns g.p.types g.p.slots node (visB g.p.ns g.p.types g.p.slots node f) l v:=fun v=>by
    rw[visB,hnd];rfl
   rw[e];exact vis1_step PG hnd h3 (by omega) (fun y v w' hy hb hv hw=>vis1_any PG f y v w' (by omega) hb (by omega) hw) (fun y v h=>visB_fix f y v h) (fun y hy=>stV_of PG.is (hl y hy)) h
  | _=>simp at hk
def parV (ps:List (List UInt8×Nat)):List VarM:=ps.zipIdx.map fun q=>⟨q.1.1,q.1.2,q.2⟩
theorem parV_snoc (ps:List (List UInt8×Nat)) (q:List UInt8×Nat):parV (ps++[q])=parV ps++[⟨q.1,q.2,ps.length⟩]:=by
 unfold parV;rw[List.zipIdx_append];simp
theorem parV_len (ps:List (List UInt8×Nat)):(parV ps).length=ps.length:=by unfold parV;simp
def visOf (p:ProgM) (node:Nat) (f:FuncM):List VarM:=
 if (visB p.ns p.types p.slots node p.ns.length f.body (parV f.params)).1=true then (visB p.ns p.types p.slots node p.ns.length f.body (parV f.params)).2 else []
structure Vr (w0:World) (V:Nat) (RS:List (Nat×TypeId×Array Value)) (vs:List VarM) (w:World):Prop where
 fr:Fr nob w0 w
 vc:∃A c,Blk w V 58 #[.slice A vs.length c]∧Own w 62 3 (.slice A vs.length c) vs.length (varCells vs)∧∀b,blk (.slice A vs.length c)=some b→w0.heap.size≤b
 hV:w0.heap.size≤V
 rc:∀q∈RS,Blk w q.1 q.2.1 q.2.2∧q.2.1≠62∧q.2.1≠58
theorem Vr.no {RS:List (Nat×TypeId×Array Value)} (h:Vr w0 V RS vs w) (f:Fr nob w w1):Vr w0 V RS vs w1:=by
 obtain⟨A,c,hb,ho,hn⟩:=h.vc;exact⟨h.fr.tr f,⟨A,c,hb.fr f (fun x=>x),ho.fr f (fun _ _ x=>x),hn⟩,h.hV,fun q hq=>⟨(h.rc q hq).1.fr f (fun x=>x),(h.rc q hq).2⟩⟩
theorem Vr.app {RS:List (Nat×TypeId×Array Value)} (h:Vr w0 V RS vs w){A:Option Addr}{c:Nat} (hc:w.cell? ⟨V,0,none⟩=some (.slice A vs.length c)) (f1:Fr nob w w1){v:VarM}{A6:Option Addr}{c6:Nat}{w6:World} (ho6:Own w6 62 3 (.slice A6 (vs.length+1) c6) (vs.length+1) (varCells vs++[.string (bs v.name),.int .i64 (v.ty:Nat),.int .i64 (v.slot:Nat)]))
  (hf6:Fr (obl (blk (.slice A vs.length c))) w1 w6) (hv6:blk (.slice A6 (vs.length+1) c6)=blk (.slice A vs.length c)∨blk (.slice A6 (vs.length+1) c6)=some w1.heap.size):
  Vr w0 V RS (vs++[v]) (w6.setCell ⟨V,0,none⟩ (.slice A6 (vs.length+1) c6))∧w6.frozen? ⟨V,0,none⟩=false∧V<w6.heap.size∧w6.cell? ⟨V,0,none⟩=some (.slice A vs.length c)∧∀q∈RS,Blk w6 q.1 q.2.1 q.2.2:=by
 have h1:=h.no f1;obtain⟨A',c',hb,ho,hn⟩:=h.vc;have e:w.cell? ⟨V,0,none⟩=some (.slice A' vs.length c'):=(hb.cell 0).trans rfl;rw[hc] at e;injection e with e;injection e with e1 _ e2;subst e1;subst e2;have ho1:=ho.fr f1 (fun _ _ x=>x);have hb1:=hb.fr f1 (fun x=>x);have hb6:=hb1.fr hf6 (fun hm=>ho1.blk_ne hb1 (by decide) hm);have n1:∀b,blk (.slice A6 (vs.length+1) c6)=some b→w0.heap.size≤b:=fun b hb=>by
  rcases hv6 with e|e
  · exact hn b (e ▸ hb)
  · rw[e] at hb;injection hb with hb
    have:=h1.fr.size;omega
 have hlen:(vs++[v]).length=vs.length+1:=by simp
 have f6:Fr nob w0 w6:=h1.fr.trans hf6 (fun _ _ x=>x) (fun b hlt hm=>by have:=hn b hm;omega);have f:Fr (oneb V) w6 (w6.setCell ⟨V,0,none⟩ (.slice A6 (vs.length+1) c6)):=(Fr.refl _ w6).setCell _ _ (fun _=>rfl);have rc6:∀q∈RS,Blk w6 q.1 q.2.1 q.2.2:=fun q hq=>(h1.rc q hq).1.fr hf6 (fun hm=>ho1.blk_ne (h1.rc q hq).1 (fun e=>(h1.rc q hq).2.1 e.symm) hm)
 refine⟨⟨f6.trans f (fun _ _ x=>x) (fun b hlt hm=>by have hm:b=V:=hm;have:=h.hV;omega),⟨A6,c6,by rw[hlen];exact hb6.setCell 0 _,?_,by rw[hlen];exact n1⟩,h.hV,
  fun q hq=>⟨(rc6 q hq).far (p:=⟨V,0,none⟩) ((rc6 q hq).ne hb6 (h.rc q hq).2.2) _,(h.rc q hq).2⟩⟩,hb6.frozen 0,hb6.lt,(hb6.cell 0).trans rfl,rc6⟩
 rw[hlen,varCells_snoc];exact ho6.far (p:=⟨V,0,none⟩) (ho6.blk_ne hb6 (by decide)) _
end
section
variable {g:PgV}{w:World}{ub zb:Nat}
def visRS (g:PgV) (P N F node:Nat) (cs:Array Value):List (Nat×TypeId×Array Value):=
 [(P,29,#[.slice (some ⟨g.nb,0,none⟩) g.p.ns.length g.nc,.slice (some ⟨g.fb,0,none⟩) g.p.fs.length g.fc,.slice (some ⟨g.tb,0,none⟩) g.p.ns.length g.tc,.slice (some ⟨g.sb,0,none⟩) g.p.ns.length g.sc,.slice g.ua g.un g.uc,.slice g.za g.zn g.zc]),(N,3,#[.int .i64 (node:Nat)]),(F,48,cs)]
theorem Vr.blks {w0 w1:World}{V P N F node:Nat}{vs:List VarM}{cs:Array Value} (h:Vr w0 V (visRS g P N F node cs) vs w1):
  Blk w1 P 29 #[.slice (some ⟨g.nb,0,none⟩) g.p.ns.length g.nc,.slice (some ⟨g.fb,0,none⟩) g.p.fs.length g.fc,.slice (some ⟨g.tb,0,none⟩) g.p.ns.length g.tc,.slice (some ⟨g.sb,0,none⟩) g.p.ns.length g.sc,.slice g.ua g.un g.uc,.slice g.za g.zn g.zc]∧Blk w1 N 3 #[.int .i64 (node:Nat)]∧Blk w1 F 48 cs:=
 ⟨(h.rc _ (List.mem_cons_self ..)).1,(h.rc _ (List.mem_cons_of_mem _ (List.mem_cons_self ..))).1,(h.rc _ (List.mem_cons_of_mem _ (List.mem_cons_of_mem _ (List.mem_cons_self ..)))).1⟩
theorem Vr.start {w0 w1:World}{P N F node:Nat}{cs:Array Value} (f:Fr nob w0 w1) (hP:Blk w1 P 29 #[.slice (some ⟨g.nb,0,none⟩) g.p.ns.length g.nc,.slice (some ⟨g.fb,0,none⟩) g.p.fs.length g.fc,.slice (some ⟨g.tb,0,none⟩) g.p.ns.length g.tc,.slice (some ⟨g.sb,0,none⟩) g.p.ns.length g.sc,.slice g.ua g.un g.uc,.slice g.za g.zn g.zc]) (hN:Blk w1 N 3 #[.int .i64 (node:Nat)]) (hF:Blk w1 F 48 cs):
   Vr w0 w1.heap.size (visRS g P N F node cs) [] (w1.alloc (.cells #[.slice none 0 0] 58)):=by
 refine⟨f.alloc _,⟨none,0,Blk.new _ _ _,Own.nil _ _ _,fun b hb=>by simp[blk] at hb⟩,f.size,fun q hq=>?_⟩;unfold visRS at hq;simp only[List.mem_cons,List.not_mem_nil,or_false] at hq;rcases hq with rfl|rfl|rfl
 · exact⟨hP.alloc _,(by decide:(29:Nat)≠62),(by decide:(29:Nat)≠58)⟩
 · exact⟨hN.alloc _,(by decide:(3:Nat)≠62),(by decide:(3:Nat)≠58)⟩
 · exact⟨hF.alloc _,(by decide:(48:Nat)≠62),(by decide:(48:Nat)≠58)⟩
theorem Vr.cell {w0 w1:World}{V:Nat}{vs:List VarM}{RS:List (Nat×TypeId×Array Value)} (h:Vr w0 V RS vs w1):∃A c,w1.cell? ⟨V,0,none⟩=some (.slice A vs.length c)∧Own w1 62 3 (.slice A vs.length c) vs.length (varCells vs)∧w1.frozen? ⟨V,0,none⟩=false∧V<w1.heap.size:=by
 obtain⟨A,c,hb,ho,_⟩:=h.vc;exact⟨A,c,(hb.cell 0).trans rfl,ho,hb.frozen 0,hb.lt⟩
set_option maxHeartbeats 3200000 in
set_option maxRecDepth 100000 in
theorem visible_any (PF:PgF g ub zb w){node k:Nat}{f:FuncM} (hk:g.p.fn[node]?=some k) (hf:g.p.fs[k]?=some f):
  Calls Tryz.prog 34 #[.agg #[.slice (some ⟨g.nb,0,none⟩) g.p.ns.length g.nc,.slice (some ⟨g.fb,0,none⟩) g.p.fs.length g.fc,.slice (some ⟨g.tb,0,none⟩) g.p.ns.length g.tc,.slice (some ⟨g.sb,0,none⟩) g.p.ns.length g.sc,.slice g.ua g.un g.uc,.slice g.za g.zn g.zc],.int .i64 (node:Nat)] w fun en w'=>∃A n c,en = .returned (.slice A n c)∧n=(visOf g.p node f).length∧Own w' 62 3 (.slice A n c) n (varCells (visOf g.p node f))∧Fr nob w w':=by
 have hn:node<g.p.ns.length:=by rw[←PF.pg.is.lf];exact (List.getElem?_eq_some_iff.1 hk).1
 have hkf:k<g.p.fs.length:=(List.getElem?_eq_some_iff.1 hf).1;have hf6:g.p.fs.length≤6:=PF.pg.is.tree.ok.fewf;have hn3:g.p.ns.length≤300:=PF.pg.is.tree.ok.few;have hp3:f.params.length≤3:=PF.pg.is.tree.ok.pars f (List.mem_of_getElem? hf);have HUA:=hid PF.ua;have HUN:=hid PF.un;have hbod:∃nd,g.p.ns[f.body]?=some nd∧nd.kind=18:=by
  obtain⟨c,h1,h2⟩:=PF.pg.is.tree.ok.bodies f (List.mem_of_getElem? hf);exact⟨c,h1,by simpa[clsB] using h2⟩
 have hbl:f.body<g.p.ns.length:=by obtain⟨nd,h,_⟩:=hbod;exact (List.getElem?_eq_some_iff.1 h).1
 -- the world behind the two boxes
 have B0:=Blk.new w 29 #[.slice (some ⟨g.nb,0,none⟩) g.p.ns.length g.nc,.slice (some ⟨g.fb,0,none⟩) g.p.fs.length g.fc,.slice (some ⟨g.tb,0,none⟩) g.p.ns.length g.tc,.slice (some ⟨g.sb,0,none⟩) g.p.ns.length g.sc,.slice g.ua g.un g.uc,.slice g.za g.zn g.zc];have BP:=hid (B0.alloc (.cells #[.int .i64 (node:Nat)] 3));have BN:=hid (show Blk ((w.alloc (.cells #[.slice (some ⟨g.nb,0,none⟩) g.p.ns.length g.nc,.slice (some ⟨g.fb,0,none⟩) g.p.fs.length g.fc,.slice (some ⟨g.tb,0,none⟩) g.p.ns.length g.tc,.slice (some ⟨g.sb,0,none⟩) g.p.ns.length g.sc,.slice g.ua g.un g.uc,.slice g.za g.zn g.zc] 29)).alloc (.cells #[.int .i64 (node:Nat)] 3)) (w.heap.size+1) 3 #[.int .i64 (node:Nat)] from by
  have:=Blk.new (w.alloc (.cells #[.slice (some ⟨g.nb,0,none⟩) g.p.ns.length g.nc,.slice (some ⟨g.fb,0,none⟩) g.p.fs.length g.fc,.slice (some ⟨g.tb,0,none⟩) g.p.ns.length g.tc,.slice (some ⟨g.sb,0,none⟩) g.p.ns.length g.sc,.slice g.ua g.un g.uc,.slice g.za g.zn g.zc] 29)) 3 #[.int .i64 (node:Nat)];rw[World.size_alloc] at this;exact this)
 have F1:=hid (((Fr.refl nob w).alloc (.cells #[.slice (some ⟨g.nb,0,none⟩) g.p.ns.length g.nc,.slice (some ⟨g.fb,0,none⟩) g.p.fs.length g.fc,.slice (some ⟨g.tb,0,none⟩) g.p.ns.length g.tc,.slice (some ⟨g.sb,0,none⟩) g.p.ns.length g.sc,.slice g.ua g.un g.uc,.slice g.za g.zn g.zc] 29)).alloc (.cells #[.int .i64 (node:Nat)] 3));have HPF:=hid PF;have HK:=hid hk;have HF:=hid hf;have HBOD:=hid hbod;have HBL:=hid hbl;clear B0 PF hk hf hbod hbl;go_enter Tryz.func34,Tryz.ntmps34;go_upto_region 1 with fail;generalize (w.alloc (.cells #[.slice (some ⟨g.nb,0,none⟩) g.p.ns.length g.nc,.slice (some ⟨g.fb,0,none⟩) g.p.fs.length g.fc,.slice (some ⟨g.tb,0,none⟩) g.p.ns.length g.tc,.slice (some ⟨g.sb,0,none⟩) g.p.ns.length g.sc,.slice g.ua g.un g.uc,.slice g.za g.zn g.zc] 29)).alloc (.cells #[.int .i64 (node:Nat)] 3)=w1 at *;generalize w.heap.size+1=N at *;generalize w.heap.size=P at *;obtain⟨pv,hpo,d0,d1,d2,d3,d4⟩:=HPF.out.pg.tree.fn HF.out;obtain⟨PA,PC,rfl,hpc,-⟩:=hpo.cap;have u0:=HPF.out.fnc HK.out;have HPO:=hid hpo;obtain⟨p0,p1,p2,p3,p4,p5,-⟩:=BP.out.sixth;have n0:=(BN.out.cell 0).trans rfl;rw[HUA.out,HUN.out] at p4;have hn5:(node:Int)<(g.p.ns.length:Int):=by omega
 have hk5:(k:Int)<(g.p.fs.length:Int):=by omega
 have HK2:=hid (show ∀wx,Fr nob w1 wx→wx.cell? ⟨P,1,none⟩=some (.slice (some ⟨g.fb,0,none⟩) g.p.fs.length g.fc)∧wx.cell? ⟨P,4,none⟩=some (.slice (some ⟨ub,0,none⟩) g.p.ns.length g.uc)∧wx.cell? ⟨N,0,none⟩=some (.int .i64 (node:Nat))∧wx.cell? ⟨ub,node,none⟩=some (.int .i64 (k:Nat))∧wx.cell? ⟨g.fb,k*5,none⟩=some (.string (bs f.name))∧wx.cell? ⟨g.fb,k*5+1,none⟩=some (.int .i64 f.line)∧wx.cell? ⟨g.fb,k*5+2,none⟩=some (.slice PA f.params.length PC)∧wx.cell? ⟨g.fb,k*5+3,none⟩=some (.int .i64 f.ret)∧wx.cell? ⟨g.fb,k*5+4,none⟩=some (.int .i64 f.body) from fun wx fx=>by
  have c:∀{b o:Nat} {v:Value},w1.cell? ⟨b,o,none⟩=some v→wx.cell? ⟨b,o,none⟩=some v:=fun h=>(fx.cell (World.block_lt_of_cell? _ _ h) (fun x=>x)).trans h
  have d:∀{b o:Nat} {v:Value},w.cell? ⟨b,o,none⟩=some v→wx.cell? ⟨b,o,none⟩=some v:=fun h=>((F1.out.tr fx).cell (World.block_lt_of_cell? _ _ h) (fun x=>x)).trans h
  exact⟨c p1,c p4,c n0,d u0,d d0,d d1,d d2,d d3,d d4⟩)
 have BP3:=hid ((BP.out.alloc (.cells #[.string (bs f.name),.int .i64 (f.line:Nat),.slice PA f.params.length PC,.int .i64 (f.ret:Nat),.int .i64 (f.body:Nat)] 48)).fr ((Fr.refl nob _).drew) (fun x=>x));have BN3:=hid ((BN.out.alloc (.cells #[.string (bs f.name),.int .i64 (f.line:Nat),.slice PA f.params.length PC,.int .i64 (f.ret:Nat),.int .i64 (f.body:Nat)] 48)).fr ((Fr.refl nob _).drew) (fun x=>x));have F3:=hid ((F1.out.alloc (.cells #[.string (bs f.name),.int .i64 (f.line:Nat),.slice PA f.params.length PC,.int .i64 (f.ret:Nat),.int .i64 (f.body:Nat)] 48)).tr ((Fr.refl nob _).drew));have BF3:=hid ((Blk.new w1 48 #[.string (bs f.name),.int .i64 (f.line:Nat),.slice PA f.params.length PC,.int .i64 (f.ret:Nat),.int .i64 (f.body:Nat)]).fr ((Fr.refl nob _).drew) (fun x=>x));clear hpo;go_wp2_with fail
 go_region_held3 (fun wx=>wx.cell? ⟨P,1,none⟩=some (.slice (some ⟨g.fb,0,none⟩) g.p.fs.length g.fc)∧wx.cell? ⟨P,4,none⟩=some (.slice (some ⟨ub,0,none⟩) g.p.ns.length g.uc)∧wx.cell? ⟨N,0,none⟩=some (.int .i64 (node:Nat))∧wx.cell? ⟨ub,node,none⟩=some (.int .i64 (k:Nat))∧wx.cell? ⟨g.fb,k*5,none⟩=some (.string (bs f.name))∧wx.cell? ⟨g.fb,k*5+1,none⟩=some (.int .i64 f.line)∧wx.cell? ⟨g.fb,k*5+2,none⟩=some (.slice PA f.params.length PC)∧wx.cell? ⟨g.fb,k*5+3,none⟩=some (.int .i64 f.ret)∧wx.cell? ⟨g.fb,k*5+4,none⟩=some (.int .i64 f.body)) (first|exact HK2.out _ ((Fr.refl nob w1).drew)|exact HK2.out _ (((Fr.refl nob w1).drew).alloc _)) (fail)
 clear HK2 d0 d1 d2 d3 d4 u0 p0 p1 p2 p3 p4 p5 n0 BP BN F1 hn5 hk5;generalize (w1.alloc (.cells #[.string (bs f.name),.int .i64 (f.line:Nat),.slice PA f.params.length PC,.int .i64 (f.ret:Nat),.int .i64 (f.body:Nat)] 48)).drew=w3 at *;generalize w1.heap.size=FB at *;have V0:=hid (Vr.start F3.out BP3.out BN3.out BF3.out);clear BP3 BN3 F3;go_upto_region 3 with fail;generalize w3.alloc (.cells #[.slice none 0 0] 58)=w4 at *;generalize w3.heap.size=V at *;obtain⟨m,hm⟩:∃m,f.params.length=m:=⟨_,rfl⟩;have HM:=hid hm;rw[hm] at V0 HPO BF3 hpc hp3;have q2:=(V0.out.blks.2.2.cell 2).trans rfl;have hpcI:(m:Int)≤(PC:Int):=by omega
 have hp3I:(m:Int)≤3:=by omega
 clear hm BF3;go_wp2_with fail
 clear q2;go_loopw [23] (fun i wr=>∃j:Nat,j≤m∧i = .int .i64 j∧Hid (Vr w V (visRS g P N FB node #[.string (bs f.name),.int .i64 (f.line:Nat),.slice PA m PC,.int .i64 (f.ret:Nat),.int .i64 (f.body:Nat)]) (parV (f.params.take j)) wr) ) (fun i _=>m - (intOf i).toNat)
 case atStart=>exact⟨0,Nat.zero_le _,rfl,V0⟩
 case round=>
  clear V0;obtain⟨j,hj,rfl,SS⟩:=hrel;by_cases hlt:j<m
  · obtain⟨q,hq⟩:∃q,f.params[j]?=some q:=⟨_,List.getElem?_eq_getElem (by rw[HM.out];exact hlt)⟩
    obtain⟨vs,hvs⟩:∃vs,parV (f.params.take j)=vs:=⟨_,rfl⟩;have hl:vs.length=j:=by rw[←hvs,parV_len,List.length_take];have:=HM.out;omega
    have NX:=hid (show parV (f.params.take (j+1))=vs++[⟨q.1,q.2,j⟩] from by
     rw[List.take_add_one,hq]
     show parV (f.params.take j++[q])=_
     rw[parV_snoc,hvs,List.length_take,Nat.min_eq_left (by have:=HM.out;omega)])
    rw[hvs] at SS;clear hvs;subst hl;obtain⟨pb,e,pc⟩:=(HPO.out.fr SS.out.fr (fun _ _ x=>x)).some (by omega);have q0:=pc _ _ (paramCells_get hq).1;have q1:=pc _ _ (paramCells_get hq).2;subst e;obtain⟨A,C,v0,hvo,-,-⟩:=SS.out.cell;have hlt2:(vs.length:Int)<(m:Int):=by omega
    have hvs3:vs.length≤3:=by omega
    have HJ:=hid hlt;have HVS:=hid hvs3;have HHV:=hid v0;have HV:=hid ((hvo.alloc (.cells #[.string (bs q.1),.int .i64 (q.2:Nat)] 101)).alloc (.cells #[.string (bs q.1),.int .i64 (q.2:Nat),.int .i64 (vs.length:Nat)] 62));have HR:=hid (Rd.ofBlk (n:=1) (size:=3) (cs:=[.string (bs q.1),.int .i64 (q.2:Nat),.int .i64 (vs.length:Nat)]) (Blk.new (wr.alloc (.cells #[.string (bs q.1),.int .i64 (q.2:Nat)] 101)) 62 [.string (bs q.1),.int .i64 (q.2:Nat),.int .i64 (vs.length:Nat)].toArray) rfl (by decide));have v0b:(wr.alloc (.cells #[.string (bs q.1),.int .i64 (q.2:Nat)] 101)).cell? ⟨V,0,none⟩=some (.slice A vs.length C):=((Fr.refl nob wr).alloc _).cell (World.block_lt_of_cell? _ _ v0) (fun x=>x) |>.trans v0;clear hq pc hvo hlt hj v0;go_wp2_with (at_builtin;revert HJ)
    intro HJ;rw[World.size_alloc] at HR;refine wpList_append (v:= .slice A vs.length C) (n:=vs.length) (m:=1) (xs:=varCells vs) (news:=[.string (bs q.1),.int .i64 (q.2:Nat),.int .i64 (vs.length:Nat)]) rfl _ _ rfl TyVar rfl rfl HV.out HR.out (by simp[Value.oneCell']) (by have:=HVS.out;omega) (by unfold maxLen;have:=HVS.out;omega) ?_;intro A6 c6 w6 ho6 hf6 hv6;obtain⟨av,f0,vlt,c0,-⟩:=SS.out.app (v:=⟨q.1,q.2,vs.length⟩) HHV.out (((Fr.refl nob wr).alloc (.cells #[.string (bs q.1),.int .i64 (q.2:Nat)] 101)).alloc (.cells #[.string (bs q.1),.int .i64 (q.2:Nat),.int .i64 (vs.length:Nat)] 62)) ho6 hf6 hv6;have AV:=hid av;clear av ho6 hf6 hv6 SS HV HR q0 q1 v0b hvs3;go_wp2_with fail
    go_roundw
    case rel=>exact⟨vs.length+1,by have:=HJ.out;omega,by go_num,by rw[NX.out];exact AV⟩
    case measure=>simp[intOf];have:=HJ.out;omega
  · have hjm:j=m:=by omega
    subst hjm;have hlt2:¬(j:Int)<(j:Int):=by omega
    have SS2:=hid (show Vr w V (visRS g P N FB node #[.string (bs f.name),.int .i64 (f.line:Nat),.slice PA j PC,.int .i64 (f.ret:Nat),.int .i64 (f.body:Nat)]) (parV f.params) wr from by have:=SS.out;rw[List.take_of_length_le (Nat.le_of_eq HM.out)] at this;exact this);clear SS hlt hj;go_upto_region 9 with fail;have F5:=hid ((Fr.refl nob wr).alloc (.cells #[.nilFunc] 74));have B5:=hid (Blk.new wr 74 #[.nilFunc]);have hw:=Nat.le_refl wr.heap.size;generalize hFN:wr.heap.size=FN at *;generalize wr.alloc (.cells #[.nilFunc] 74)=w5 at *;have F6:=hid (show Fr nob wr (w5.setCell ⟨FN,0,none⟩ (.func (.func 63) #[] (vCaps V P N FN))) from F5.out.trans ((Fr.refl (oneb FN) w5).setCell _ _ (fun _=>rfl)) (fun _ _ x=>x) (fun b hlt hm=>by have hm:b=FN:=hm;omega));have B6:=hid (show Blk (w5.setCell ⟨FN,0,none⟩ (.func (.func 63) #[] (vCaps V P N FN))) FN 74 #[.func (.func 63) #[] (vCaps V P N FN)] from B5.out.setCell 0 _);have W6:=hid (show Vw g w V P N FN node (parV f.params) (w5.setCell ⟨FN,0,none⟩ (.func (.func 63) #[] (vCaps V P N FN))) from ⟨(SS2.out.no F6.out).fr,(SS2.out.no F6.out).vc,(SS2.out.no F6.out).hV,(SS2.out.no F6.out).blks.1,(SS2.out.no F6.out).blks.2.1,B6.out⟩);have BF6:=hid (SS2.out.no F6.out).blks.2.2;have hmf:∀(fn:Fn) (first cap:Array Value) (w:World),(Instr.makeFunc fn first cap).run Tryz.prog w = .ok (.func fn first cap) w:=fun _ _ _ _=>rfl
    have g0:=(B5.out.cell 0).trans rfl;have g1:=B5.out.frozen 0;have g2:=B5.out.lt;clear F5 B5 hFN SS2 hw F6;have HV:=hid (vis1_any HPF.out.pg g.p.ns.length f.body (parV f.params) _ HBL.out HBOD.out (by rw[parV_len];have:=HM.out;omega) W6.out);clear W6;go_upto_region 10 with fail;unfold vCaps at HV BF6 B6;generalize w5.setCell ⟨FN,0,none⟩ (.func (.func 63) #[] #[.pointer (some ⟨V,0,none⟩),.pointer (some ⟨P,0,none⟩),.pointer (some ⟨N,0,none⟩),.pointer (some ⟨FN,0,none⟩)])=w6 at *;have r0:=(B6.out.cell 0).trans rfl;have r4:=(BF6.out.cell 4).trans rfl;clear B6 BF6 g0 g1 g2 hmf;go_wp2_with fail
    clear r0 r4;refine HV.out.mono ?_;rintro en w7 ⟨rfl,h7⟩;obtain⟨bb,hbb⟩:∃bb,(visB g.p.ns g.p.types g.p.slots node g.p.ns.length f.body (parV f.params)).1=bb:=⟨_,rfl⟩;rw[hbb];have HBB:=hid hbb;have W7:=hid h7;clear h7 hbb HV;cases bb with
    | true=>
     obtain⟨vs,hvs⟩:∃vs,(visB g.p.ns g.p.types g.p.slots node g.p.ns.length f.body (parV f.params)).2=vs:=⟨_,rfl⟩;have HE:=hid (show visOf g.p node f=vs from by unfold visOf;rw[HBB.out,if_pos rfl,hvs]);rw[hvs] at W7;clear hvs;obtain⟨-,-,-,-,-,A,C,d5,ho,-,-⟩:=W7.out.cells;have HO:=hid ho;clear ho;go_wp2_with fail
     go_ret;rw[HE.out];exact⟨A,vs.length,C,rfl,rfl,HO.out,W7.out.fr⟩
    | false=>
     have HE:=hid (show visOf g.p node f=[] from by unfold visOf;rw[HBB.out,if_neg (by decide)]);go_wp2_with fail
     go_ret;rw[HE.out];exact⟨none,0,0,rfl,rfl,Own.nil _ _ _,W7.out.fr⟩
end
def ex4:List UInt8:=[102,110,32,109,97,105,110,40,41,32,123,32,108,101,116,32,97,32,61,32,49,59,32,112,114,105,110,116,32,97,59,32,125]
def ex4P:ProgM:=⟨[⟨1,1,1,[],[]⟩,⟨10,1,0,[97],[0]⟩,⟨4,1,0,[97],[]⟩,⟨14,1,0,[],[2]⟩,⟨18,1,0,[],[1,3]⟩],[⟨[109,97,105,110],1,[],0,4⟩],[1,0,1,0,0],[-1,0,0,-1,-1],[0,0,0,0,0],[1]⟩
theorem ex4_src:sourceM ex4=some (.good ex4P):=by kernel_rfl
theorem ex4_vis:(visOf ex4P 3 ⟨[109,97,105,110],1,[],0,4⟩).length=1:=by kernel_rfl
set_option maxHeartbeats 2000000 in
set_option maxRecDepth 100000 in
theorem shown4_any {V:World→Prop} (HQ:QSrc V) (w:World) (hv:V w):Calls Tryz.prog 26 #[] w fun e w'=>e = .returned (.bool true)∧Fr nob w w':=by
 have HS:=hid (HQ.src ⟨#[102,110,32,109,97,105,110,40,41,32,123,32,108,101,116,32,97,32,61,32,49,59,32,112,114,105,110,116,32,97,59,32,125]⟩ w hv (by decide) (.good ex4P) ex4_src);have HI:=hid (source_is ex4_src).1;clear hv HQ;go_enter Tryz.func26,Tryz.ntmps26;go_wp2_with fail
 refine HS.out.mono ?_;rintro e w1 ⟨hs,hf⟩;obtain⟨g,ub,zb,hg,pf,rfl⟩:=source_prog hs HI.out;have P1:=hid pf;have F1:=hid hf;have HG:=hid hg;rw[pf.val];clear hs hf pf hg HS;have FA:=hid (show Fr nob w1 (w1.alloc (.cells #[.slice (some ⟨g.nb,0,none⟩) g.p.ns.length g.nc,.slice (some ⟨g.fb,0,none⟩) g.p.fs.length g.fc,.slice (some ⟨g.tb,0,none⟩) g.p.ns.length g.tc,.slice (some ⟨g.sb,0,none⟩) g.p.ns.length g.sc,.slice (some ⟨ub,0,none⟩) g.p.ns.length g.uc,.slice (some ⟨zb,0,none⟩) g.p.fs.length g.zc] 29)) from (Fr.refl nob w1).alloc _);have P2:=hid (P1.out.no FA.out);have F2:=hid (F1.out.tr FA.out);have BP:=hid (Blk.new w1 29 #[.slice (some ⟨g.nb,0,none⟩) g.p.ns.length g.nc,.slice (some ⟨g.fb,0,none⟩) g.p.fs.length g.fc,.slice (some ⟨g.tb,0,none⟩) g.p.ns.length g.tc,.slice (some ⟨g.sb,0,none⟩) g.p.ns.length g.sc,.slice (some ⟨ub,0,none⟩) g.p.ns.length g.uc,.slice (some ⟨zb,0,none⟩) g.p.fs.length g.zc]);have HV:=hid (visible_any P2.out (node:=3) (k:=0) (f:=⟨[109,97,105,110],1,[],0,4⟩) (by rw[HG.out];rfl) (by rw[HG.out];rfl));rw[P2.out.ua,P2.out.za,P2.out.un,P2.out.zn,HG.out,ex4_vis] at HV;have y0:=P2.out.tyc (x:=2) (k:=1) (by rw[HG.out];rfl);have y1:=P2.out.slc (x:=1) (k:=0) (by rw[HG.out];rfl);have y2:=P2.out.szc (x:=0) (k:=1) (by rw[HG.out];rfl);rw[HG.out] at BP FA P2 F2 y0 y1 y2;rw[HG.out];clear P1 FA F1;rw[show ex4P.ns.length=5 from rfl,show ex4P.fs.length=1 from rfl] at *;go_wp2_with fail
 generalize w1.alloc (.cells #[.slice (some ⟨g.nb,0,none⟩) 5 g.nc,.slice (some ⟨g.fb,0,none⟩) 1 g.fc,.slice (some ⟨g.tb,0,none⟩) 5 g.tc,.slice (some ⟨g.sb,0,none⟩) 5 g.sc,.slice (some ⟨ub,0,none⟩) 5 g.uc,.slice (some ⟨zb,0,none⟩) 1 g.zc] 29)=w2 at *;generalize w1.heap.size=PB at *;obtain⟨p0,p1,p2,p3,p4,p5,_⟩:=BP.out.sixth;go_wp2_with fail
 refine HV.out.mono ?_;rintro e w3 ⟨A,n,c,rfl,hn,-,hf⟩;subst hn;have F3:=hid (F2.out.tr hf);clear hf;go_wp2_with fail
 go_ret;exact⟨rfl,F3.out⟩
end Go.Proofs.YtlbjicjinnnboaaGreatDoor
/- What the rows' listed variables give the walks. -/
namespace Go.Proofs.YtlbjicjinnnboaaGreatDoor
open Go.ChangeShapes Go.WideShapes Go.ChangeAt Go.RowKit
set_option maxRecDepth 100000
theorem ownK:ownKnob Tryz.prog.godebug=none:=by kernel_rfl
theorem vars_of {W : World} (h : laidMetH Tryz.prog Rows.parseBelowRow.laid W) : ∃ tp p, W.var? Tryz.prog "strconv.ErrRange" = some #[.iface tp p] := by
 rw[MakeChecks.laidMetH_plain _ _ _ (by kernel_rfl)] at h;obtain⟨ps,h,_,_⟩:=h;obtain⟨_,_,_,_,_,_,_,_,_,_,⟨_,_,_,_,_,_,_,_,_,_,⟨_,_,_,_,_,_,_,_,_,_,⟨_,_,_,_,_,_,_,_,_,_,⟨g,t,cs,f,p,q,hg,ht,hv,hd,_⟩,_⟩,_⟩,_⟩,_⟩:=h
 obtain rfl := Option.some.inj ((show Tryz.prog.globalNamed "strconv.ErrRange" = some 2 by kernel_rfl).symm.trans hg)
 obtain rfl:=Option.some.inj ((show (Tryz.prog.globals[2]?).map (·.type)=some 159 by kernel_rfl).symm.trans ht);obtain⟨f1,u,v,hcs,_,_⟩:=iface_of_trod Tryz.underlying159 hd;rw[Array.eq_one_of_toList hcs] at hv;exact⟨u,v,hv⟩
theorem wrap_laid_shaped {H:Type}{enc:TypeId×Value→H}{a:Assume}{C:Checked}{os:Os}{f:FuncId}{fn:Func}{s:ChangeSpec}{conds:List PathCond}{apart fresh handsOn again:Bool}{X:World→Array Value→Prop}
  (hX:∀(w w':World) (args:Array Value),w.heap=w'.heap→X w args→X w' args)
  (own:ownKnob C.prog.godebug=none) (started:os.Started) (noInit:C.prog.inits.idxOf? f=none) (hfn:C.prog.funcs[f]?=some fn)
  (witness:∃(w:World) (tape:Tape) (i:Input),w.os=os∧(w.forCall tape i).Shaped C.prog∧i.vars=[]∧Input.okWide C.prog (w.forCall tape i) .any w.heap.size f i ∧
    ((s.pre enc C.prog fn conds apart (w.forCall tape i).memory i.args∧X (w.forCall tape i).memory i.args)∧sizedMet enc C.prog fn (OpenSpec.ofChange s) apart (w.forCall tape i).memory i.args)∧a.holds C.prog (lone (Frame.enter C.prog f i.args .normal) [] (w.forCall tape i)))
  (contract:∀(W:World) (base:Nat) (args:Array Value) (ds gs:List (DataW H)) (before:List MemPlace),
    (∀(j:Nat) t v,fn.params[j]?=some t→args[j]?=some v→Value.okWide C.prog W .any base t v) →
    DataW.Whole enc C.prog fn.params.toList s.vars apart W args.toList ds gs before →
    (DataW.weightsEach C.prog (fn.params.toList++s.plain.varTypes C.prog) (ds++gs)).all (· ≤ reachBytes)=true→X W args→W.ShapedOpen C.prog →
    Calls C.prog f args W fun e W'=>∃v,e = .returned v∧s.post enc C.prog fn apart fresh handsOn again W args v W'):
  ReturnsInHanded a C os f .any (fun w args=>(s.pre enc C.prog fn conds apart w args∧X w args)∧sizedMet enc C.prog fn (OpenSpec.ofChange s) apart w args) (s.post enc C.prog fn apart fresh handsOn again):=by
 refine returnsInHanded_of_calls own started noInit witness ?_;intro w tape i _ hsh _ hok hpre _;obtain⟨_,_,_,fn',hfn',_,_,_,_,hval⟩:=hok;obtain rfl:fn'=fn:=Option.some.inj (hfn'.symm.trans hfn);obtain⟨⟨⟨ds,gs,before,hw,_⟩,hx⟩,hz⟩:=hpre;refine (contract (w.forCall tape i) w.heap.size i.args ds gs before hval (DataW.Whole.of_heap (w':=w.forCall tape i) (by rfl) hw) (hz.weights hw) (hX _ _ _ (by rfl) hx) hsh).mono fun e W' ⟨v,he,hp⟩=>?_
 subst he;exact ChangeSpec.post_blind hp
theorem vars_shaped {W:World} (h:laidMetH Tryz.prog Rows.parseBelowRow.laid W) (hs:W.ShapedOpen Tryz.prog):PVars W:=by
 obtain⟨m,hm⟩:=Tryz.laysM219.s1_3 W hs;refine⟨⟨⟨m,by exact hm⟩,vars_of h⟩,m,?_⟩;obtain⟨cs,hh,hz,_⟩:=hs.1 0 #[.int .i64 0] 3 (by decide +kernel) (by kernel_rfl);have hc:Blk W 0 3 cs:=hh;change W.cell? ⟨0,0,none⟩=some (.int .i64 m) at hm;rw[hc.cell 0] at hm;obtain⟨l⟩:=cs
 match l,hz with
 | [x],_=>
  simp at hm
  subst hm;exact hc
end Go.Proofs.YtlbjicjinnnboaaGreatDoor
