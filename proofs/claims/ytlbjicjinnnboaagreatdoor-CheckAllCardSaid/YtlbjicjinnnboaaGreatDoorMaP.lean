/- MaP: CsE, KsA, KsB, KsQ, TrM, TrS2, KqVa, KqVb, RgLast, KqVc, KqVd, KsX. -/
import Derived.Test.YtlbjicjinnnboaaGreatDoorMaO
import Derived.Test.YtlbjicjinnnboaaGreatDoorMaF
import Derived.Test.YtlbjicjinnnboaaGreatDoorMaG
import Derived.Test.YtlbjicjinnnboaaGreatDoorMaJ
import Derived.StillTailTactics
import Derived.Laws.EntriesVeiled
import Derived.Test.YtlbjicjinnnboaaGreatDoorMaH
import Derived.BigQuiet
import Derived.Test.YtlbjicjinnnboaaGreatDoorMaA
import Derived.Deep.RegionHeld
import Derived.StillTail
set_option maxHeartbeats 8000000
set_option maxRecDepth 100000
set_option linter.unusedVariables false
set_option linter.unusedSimpArgs false
/- The checker: what is counted of a program's lets. -/
namespace Go.Proofs.YtlbjicjinnnboaaGreatDoor
open Go.RowKit Go.Proofs.Tryz
open Pw
section
variable {p:fF}
end
section
variable {g:PgV}{ub zb:Nat}{w w':World}
end
theorem xL (src:List UInt8):∃r,iF src=some r:=by
 obtain⟨r,hr⟩:=sK src;unfold iF;rw[hr];exact⟨_,rfl⟩
theorem wH (l:List Int) (k:Nat):(dK l)[k]?=l[k]?.map (Value.int .i64):=by unfold dK;rw[List.getElem?_map]
theorem Rd.at4 {w:World}{A:Option Addr}{n c:Nat}{xs:List Value} (h:Rd w 1 (.slice A n c) n xs){k:Nat}{u:Value} (hu:xs[k]?=some u):
  ∃g o,A=some ⟨g,o,none⟩∧w.cell? ⟨g,o+k,none⟩=some u:=by
 obtain⟨hl,A',c',hv,_,_,h3⟩:=h;injection hv with hA _ _;subst hA;have:=(gK hu);obtain⟨ad,rfl,hsp,hc⟩:=h3 (by omega);obtain⟨g,o,s⟩:=ad;simp only at hsp;subst hsp;exact⟨g,o,rfl,hc k u hu⟩
theorem aHa (A B:Option Addr) (n m c d:Nat) (l1 l2:List Int) (w:World) (h1:Rd w 1 (.slice A n c) n (dK l1)) (h2:Rd w 1 (.slice B m d) m (dK l2)):
   Calls prog 37 #[.slice A n c,.slice B m d] w λe w'=>e = .returned (.bool (decide (l1=l2)))∧∃k,w'=w.drewN k:=by
 have hn:l1.length=n:=by have:=h1.1;simpa[dK] using this
 have hm:l2.length=m:=by have:=h2.1;simpa[dK] using this
 have hcap:n≤9223372036854775807:=by
   obtain⟨_,_,hv,h3,h4⟩:=h1.slice;injection hv with _ _ hv;subst hv;unfold maxLen at h4;omega
 have HN:=hD hn;have HM:=hD hm;have H1:=hD h1;have H2:=hD h2;clear h1 h2 hn hm;by_cases hnm:n=m
 . subst hnm
   go_enter func37,ntmps37;go_wp2
   go_loopw [5] (λi w'=>∃k:Nat,k≤n∧i = .int .i64 k∧l1.take k=l2.take k∧∃q,w'=w.drewN q) (λi _=>n - (intOf i).toNat)
   case atStart=>exact⟨0,Nat.zero_le _,rfl,rfl,0,rfl⟩
   case round=>
    obtain⟨k,hk,rfl,ht,q,rfl⟩:=hrel;have HT:=hD ht;clear ht;by_cases hlt:k<n
    . obtain⟨v1,hv1⟩:∃v1,l1[k]?=some v1:=⟨_,gE (by have:=HN.o;omega)⟩
      obtain⟨v2,hv2⟩:∃v2,l2[k]?=some v2:=⟨_,gE (by have:=HM.o;omega)⟩;obtain⟨g1,o1,rfl,c1⟩:=H1.o.at4 (k:=k) (u:= .int .i64 v1) (by simp[wH,hv1]);obtain⟨g2,o2,rfl,c2⟩:=H2.o.at4 (k:=k) (u:= .int .i64 v2) (by simp[wH,hv2]);have hi:(k:Int)<(n:Int):=by omega
      have hi0:(0:Int)≤(k:Int):=by omega
      have V1:=hD hv1;have V2:=hD hv2;clear hv1 hv2;by_cases hv:v1=v2
      . subst hv
        go_wp2
        go_quiet (fail)
        go_wp2
        go_roundw
        case rel=>
         refine⟨k+1,by omega,by go_num,?_,_,rfl⟩;rw[List.take_add_one,List.take_add_one,HT.o,V1.o,V2.o]
        case measure=>simp[intOf];omega
      . have hb:(v1 != v2)=true:=by simpa using hv
        have HV:=hD hv;clear hv;go_wp2
        go_quiet (fail)
        go_wp2
        go_ret;refine⟨?_,_,World.drewN_drewN _ _ _⟩;have:¬l1=l2:=λe=>by
         have a:=V1.o;have b:=V2.o;rw[e,b] at a;injection a with a;exact HV a.symm
        simp[this]
    . go_wp2
      go_ret;refine⟨?_,_,rfl⟩;have e:=HT.o;rw[List.take_of_length_le (by have:=HN.o;omega),List.take_of_length_le (by have:=HM.o;omega)] at e;simp[e]
 . have hb:((n:Int) != (m:Int))=true:=by simp;omega
   have HB:=hD hnm;clear hnm;go_enter func37,ntmps37;go_wp2
   go_ret;refine⟨?_,0,rfl⟩;have:¬l1=l2:=λe=>HB.o (by rw[<-HN.o,<-HM.o,e])
   simp[this]
theorem aHl (s:ByteArray):s.extract 0 700=bs (s.data.toList.take 700):=by
 have h:(s.extract 0 700).data.toList=s.data.toList.take 700:=by rw[Lib.extract_data];simp
 rw[<-h]
 show s.extract 0 700=⟨(s.extract 0 700).data.toList.toArray⟩
 rw[Array.toArray_toList]
theorem aBj (s:ByteArray) (w:World):Calls prog 27 #[.string s] w λe w'=>e = .returned (.string (bs (s.data.toList.take 700)))∧w'=w:=by
 by_cases h:s.size≤700
 . have e:bs (s.data.toList.take 700)=s:=by
    rw[List.take_of_length_le (by simpa using h)]
    show (⟨s.data.toList.toArray⟩:ByteArray)=s
    simp
   rw[e];clear e;go_enter func27,ntmps27;go_wp2
   go_ret;exact⟨rfl,rfl⟩
 . have h2:700<s.size:=by omega
   go_enter func27,ntmps27;go_wp2
   go_ret;refine⟨?_,rfl⟩;rw[<-aHl s];rfl
structure aQg (V:World->Prop):Prop where
 no:∀w w',V w->Fr nob w w'->V w'
 src:∀(src:ByteArray) (w:World),V w->src.size≤281474976710656->∀r:eU,iF src.data.toList=some r->Calls prog 28 #[.string src] w λen w'=>gZ w' en r∧Fr nob w w'
end Go.Proofs.YtlbjicjinnnboaaGreatDoor
/- The program's Source, as the laws' walks ask for it. -/
namespace Go.Proofs.YtlbjicjinnnboaaGreatDoor
open Go.RowKit Go.Proofs.Tryz
variable {rec:Nat->List dS->Bool×List dS}
theorem aPw:aQg zH:=⟨λ_ _ h f=>h.no f,λsrc w hv hs _ hr=>xV src w hv hs hr⟩
structure TB (b:Nat) (nv fv:Value) (lvs pvs:List Value) (ns:List aG) (fs:List aH) (w:World):Prop where
 tree:bW 0 w nv fv lvs pvs ns fs
 box:Blk w b 26 #[nv,fv]
section
variable {b:Nat}{nv fv:Value}{lvs pvs:List Value}{ns:List aG}{fs:List aH}{w w':World}
theorem TB.no (h:TB b nv fv lvs pvs ns fs w) (f:Fr nob w w'):TB b nv fv lvs pvs ns fs w':=⟨h.tree.no f,h.box.fr f (λx=>x)⟩
theorem TB.cells (h:TB b nv fv lvs pvs ns fs w):w.cell? ⟨b,0,none⟩=some nv∧w.cell? ⟨b,1,none⟩=some fv:=⟨by simpa using h.box.cell 0,by simpa using h.box.cell 1⟩
theorem one_set (w:World) (g i:Nat) (u:Value):Fr (bQ g) w (w.setCell ⟨g,i,none⟩ u):=(Fr.refl _ w).setCell _ _ (λ_=>rfl)
theorem TB.far (h:TB b nv fv lvs pvs ns fs w){g i:Nat}{t:TypeId}{cs:Array Value} (hg:Blk w g t cs) (ht:t=50∨t=48) (hn:blk nv≠some g) (hf:blk fv≠some g) (u:Value):TB b nv fv lvs pvs ns fs (w.setCell ⟨g,i,none⟩ u):=by
 refine⟨⟨h.tree.nodes.far hn u,bB.one hg (by rcases ht with rfl|rfl<;>decide) h.tree.below (one_set w g i u),h.tree.same,h.tree.fns.far hf u,h.tree.pars.to (one_set w g i u) (λk cs' hk hm=>?_),h.tree.samef,h.tree.newn,h.tree.newf⟩,h.box.far (p:=⟨g,i,none⟩) (h.box.ne hg (by rcases ht with rfl|rfl<;>decide)) u⟩;have e:k=g:=hm;subst e;exact hk.ne hg (by rcases ht with rfl|rfl<;>decide) rfl
end
/-- Two rows of the same numbers. -/
theorem aFg {kv kv2:Value}{l:List Nat}{w:World} (h1:Own w 3 1 kv l.length (ints l)) (h2:Own w 3 1 kv2 l.length (ints l)):Calls prog 85 #[kv,kv2] w λe w'=>e = .returned (.bool true)∧Fr nob w w':=by
 obtain⟨KA,KC,rfl,ka,kc⟩:=h1.cap;obtain⟨LA,LC,rfl,_,_⟩:=h2.cap;have hl4:(l.length:Int)≤9223372036854775807:=by unfold maxLen at kc;omega
 have H1:=hD h1;have H2:=hD h2;clear h1 h2 ka kc;go_enter func85,ntmps85;go_wp2
 go_loopw [5] (λi wr=>∃j:Nat,j≤l.length∧i = .int .i64 j∧Hd (Fr nob w wr)) (λi _=>l.length - (intOf i).toNat)
 case atStart=>exact⟨0,Nat.zero_le _,rfl,hD (fR w)⟩
 case round=>
  obtain⟨j,hj,rfl,FR⟩:=hrel;by_cases hlt:j<l.length
  . have hlt2:(j:Int)<(l.length:Int):=by omega
    obtain⟨a,ha⟩:∃a,l[j]?=some a:=⟨_,gE hlt⟩;obtain⟨kb,c1,e,_,hq⟩:=cB (H1.o.fr FR (λ_ _ x=>x)) (by omega);injection e with e1 e2 e3;subst e1;obtain⟨mb,c2,e,_,hq2⟩:=cB (H2.o.fr FR (λ_ _ x=>x)) (by omega);injection e with e1 e4 e5;subst e1;have k0:=hq j a ha;have k1:=hq2 j a ha;clear hq hq2 e2 e3 e4 e5 ha;go_wp2_with fail
    go_quiet (fail)
    go_wp2
    go_roundw
    case rel=>exact⟨j+1,by omega,by go_num,hD (by first|exact FR.o|exact FR.o.drewN _)⟩
    case measure=>simp[intOf];omega
  . have hle:(l.length:Int)≤(j:Int):=by omega
    go_wp2
    go_ret;exact⟨rfl,FR⟩
section
variable {nv fv nv2 fv2:Value}{lvs pvs lvs2 pvs2:List Value}{ns:List aG}{fs:List aH}{w w':World}
def TT (B:Nat) (nv fv nv2 fv2:Value) (lvs pvs lvs2 pvs2:List Value) (ns:List aG) (fs:List aH) (w:World):Prop:=TB B nv fv lvs pvs ns fs w∧TB (B+1) nv2 fv2 lvs2 pvs2 ns fs w
theorem TT.no {B:Nat} (h:TT B nv fv nv2 fv2 lvs pvs lvs2 pvs2 ns fs w) (f:Fr nob w w'):TT B nv fv nv2 fv2 lvs pvs lvs2 pvs2 ns fs w':=⟨h.1.no f,h.2.no f⟩
theorem aJp (h1:bW 0 w nv fv lvs pvs ns fs) (h2:bW 0 w nv2 fv2 lvs2 pvs2 ns fs) (hn:ns.length≤1000) (hfl:fs.length≤1000) (hps:∀f∈fs,f.params.length≤1000):
  Calls prog 54 #[.agg #[nv,fv],.agg #[nv2,fv2]] w λe w'=>e = .returned (.bool true)∧Fr nob w w':=by
 obtain⟨NA,NC,rfl,_,_⟩:=h1.nodes.cap;obtain⟨FA,FC,rfl,_,_⟩:=h1.fns.cap;obtain⟨MA,MC,rfl,_,_⟩:=h2.nodes.cap;obtain⟨GA,GC,rfl,_,_⟩:=h2.fns.cap;have S0:=hD (show TT w.heap.size (.slice NA ns.length NC) (.slice FA fs.length FC) (.slice MA ns.length MC) (.slice GA fs.length GC) lvs pvs lvs2 pvs2 ns fs ((w.alloc (.cells #[.slice NA ns.length NC,.slice FA fs.length FC] 26)).alloc (.cells #[.slice MA ns.length MC,.slice GA fs.length GC] 26)) from by
  refine⟨⟨(h1.no ((fR w).alloc _)).no ((fR _).alloc _),(Blk.new w _ _).alloc _⟩,⟨(h2.no ((fR w).alloc _)).no ((fR _).alloc _),?_⟩⟩;exact Blk.new1 _ _ _ _)
 have F0:Hd (Fr nob w ((w.alloc (.cells #[.slice NA ns.length NC,.slice FA fs.length FC] 26)).alloc (.cells #[.slice MA ns.length MC,.slice GA fs.length GC] 26))):=((fR w).alloc _).alloc _;have HPS:=hD hps;have hn2:(ns.length:Int)≤1000:=by omega
 have hf2:(fs.length:Int)≤1000:=by omega
 clear h1 h2 hps;go_enter func54,ntmps54;go_wp2_with fail
 generalize hw1:(w.alloc (.cells #[.slice NA ns.length NC,.slice FA fs.length FC] 26)).alloc (.cells #[.slice MA ns.length MC,.slice GA fs.length GC] 26)=w1 at *;clear hw1;generalize hB:w.heap.size=B at *;clear hB;go_loopw [5] (λi wr=>∃j:Nat,j≤ns.length∧i = .int .i64 j∧Hd (TT B (.slice NA ns.length NC) (.slice FA fs.length FC) (.slice MA ns.length MC) (.slice GA fs.length GC) lvs pvs lvs2 pvs2 ns fs wr)∧Hd (Fr nob w wr)) (λi _=>ns.length - (intOf i).toNat)
 case atStart=>exact⟨0,Nat.zero_le _,rfl,S0,F0⟩
 case round=>
  obtain⟨j,hj,rfl,S,FR⟩:=hrel;obtain⟨d0,d1⟩:=S.o.1.cells;obtain⟨d2,d3⟩:=S.o.2.cells;by_cases hlt:j<ns.length
  . have hlt2:(j:Int)<(ns.length:Int):=by omega
    have hj6:(j:Int)≤1000:=by omega
    obtain⟨nd,hnd⟩:∃nd,ns[j]?=some nd:=⟨_,gE hlt⟩;obtain⟨nb,c1,lv,e,_,hlv,x0,x1,x2,x3,x4⟩:=S.o.1.tree.node hnd;injection e with e1 e2 e3;subst e1;obtain⟨mb,c2,lv2,e,_,hlv2,y0,y1,y2,y3,y4⟩:=S.o.2.tree.node hnd;injection e with e1 e4 e5;subst e1;obtain⟨KA,KC,rfl,_,_⟩:=hlv.cap;obtain⟨LA,LC,rfl,_,_⟩:=hlv2.cap;have HK1:=hD hlv;have HK2:=hD hlv2;have n1:nb<wr.heap.size:=World.block_lt_of_cell? wr ⟨nb,j*5,none⟩ x0;have n2:mb<wr.heap.size:=World.block_lt_of_cell? wr ⟨mb,j*5,none⟩ y0;have n3:¬nb=wr.heap.size:=by omega
    have n4:¬mb=wr.heap.size:=by omega
    have n5:B<wr.heap.size:=World.block_lt_of_cell? wr ⟨B,0,none⟩ d0;have n6:B+1<wr.heap.size:=World.block_lt_of_cell? wr ⟨B+1,0,none⟩ d2;have n7:¬B=wr.heap.size:=by omega
    have n8:¬B+1=wr.heap.size:=by omega
    clear hnd e2 e3 e4 e5 hlv hlv2;obtain⟨k,line,n,name,kl⟩:=nd;dsimp only at x0 x1 x2 x3 x4 y0 y1 y2 y3 y4 HK1 HK2;go_wp2_with fail
    have FA2:Fr nob wr ((wr.alloc (.cells #[.int .i64 k,.int .i64 line,.int .i64 n,.string (bs name),.slice KA kl.length KC] 50)).alloc (.cells #[.int .i64 k,.int .i64 line,.int .i64 n,.string (bs name),.slice LA kl.length LC] 50)):=((fR wr).alloc _).alloc _;have XB:Hd (Blk ((wr.alloc (.cells #[.int .i64 k,.int .i64 line,.int .i64 n,.string (bs name),.slice KA kl.length KC] 50)).alloc (.cells #[.int .i64 k,.int .i64 line,.int .i64 n,.string (bs name),.slice LA kl.length LC] 50)) wr.heap.size 50 _):=(Blk.new wr _ _).alloc _;have YB:Hd (Blk ((wr.alloc (.cells #[.int .i64 k,.int .i64 line,.int .i64 n,.string (bs name),.slice KA kl.length KC] 50)).alloc (.cells #[.int .i64 k,.int .i64 line,.int .i64 n,.string (bs name),.slice LA kl.length LC] 50)) (wr.heap.size+1) 50 _):=Blk.new1 _ _ _ _;have S2:=hD (S.o.no FA2);have FR2:=hD (FR.o.tr FA2);have K1:=hD (HK1.o.fr FA2 (λ_ _ x=>x));have K2:=hD (HK2.o.fr FA2 (λ_ _ x=>x));clear n1 n2 n3 n4 n5 n6 n7 n8 d0 d1 d2 d3 x0 x1 x2 x3 x4 y0 y1 y2 y3 y4 FA2;generalize hC:wr.heap.size=C at *;clear hC;generalize hw2:(wr.alloc (.cells #[.int .i64 k,.int .i64 line,.int .i64 n,.string (bs name),.slice KA kl.length KC] 50)).alloc (.cells #[.int .i64 k,.int .i64 line,.int .i64 n,.string (bs name),.slice LA kl.length LC] 50)=w2 at *;clear hw2;refine stepM (aFg K1 K2) λw3 hf=>?_;have S3:=hD (S2.o.no hf);have FR3:=hD (FR2.o.tr hf);have X3:=hD (XB.o.fr hf (λx=>x));have Y3:=hD (YB.o.fr hf (λx=>x));clear hf;have a0:w3.cell? ⟨C,0,none⟩=some (.int .i64 k):=by simpa using X3.o.cell 0
    have a1:w3.cell? ⟨C,1,none⟩=some (.int .i64 line):=by simpa using X3.o.cell 1
    have a2:w3.cell? ⟨C,2,none⟩=some (.int .i64 n):=by simpa using X3.o.cell 2
    have a3:w3.cell? ⟨C,3,none⟩=some (.string (bs name)):=by simpa using X3.o.cell 3
    have b0:w3.cell? ⟨C+1,0,none⟩=some (.int .i64 k):=by simpa using Y3.o.cell 0
    have b1:w3.cell? ⟨C+1,1,none⟩=some (.int .i64 line):=by simpa using Y3.o.cell 1
    have b2:w3.cell? ⟨C+1,2,none⟩=some (.int .i64 n):=by simpa using Y3.o.cell 2
    have b3:w3.cell? ⟨C+1,3,none⟩=some (.string (bs name)):=by simpa using Y3.o.cell 3
    go_wp2
    go_roundw
    case rel=>exact⟨j+1,by omega,by go_num,S3,FR3⟩
    case measure=>simp[intOf];omega
  . have hle:(ns.length:Int)≤(j:Int):=by omega
    go_wp2
    go_loopw [9] (λi wr=>∃j:Nat,j≤fs.length∧i = .int .i64 j∧Hd (TT B (.slice NA ns.length NC) (.slice FA fs.length FC) (.slice MA ns.length MC) (.slice GA fs.length GC) lvs pvs lvs2 pvs2 ns fs wr)∧Hd (Fr nob w wr)) (λi _=>fs.length - (intOf i).toNat)
    case atStart=>exact⟨0,Nat.zero_le _,rfl,S,FR⟩
    case round=>
     clear d0 d1 d2 d3 S FR;obtain⟨j,hj,rfl,S,FR⟩:=hrel;obtain⟨d0,d1⟩:=S.o.1.cells;obtain⟨d2,d3⟩:=S.o.2.cells;by_cases hlt:j<fs.length
     . have hlt2:(j:Int)<(fs.length:Int):=by omega
       have hj6:(j:Int)≤1000:=by omega
       obtain⟨f,hf⟩:∃f,fs[j]?=some f:=⟨_,gE hlt⟩;obtain⟨fb,e,_⟩:=S.o.1.tree.fns.some (by omega);subst e;obtain⟨gb,e,_⟩:=S.o.2.tree.fns.some (by omega);subst e;obtain⟨pv,hp,x0,x1,x2,x3,x4⟩:=S.o.1.tree.fn hf;obtain⟨qv,hq,y0,y1,y2,y3,y4⟩:=S.o.2.tree.fn hf;obtain⟨PA,PC,rfl,_,_⟩:=hp.cap;obtain⟨QA,QC,rfl,_,_⟩:=hq.cap;have HP:=hD hp;have HQ:=hD hq;have hpl:=HPS.o f (List.mem_of_getElem? hf);have n1:fb<wr.heap.size:=World.block_lt_of_cell? wr ⟨fb,j*5,none⟩ x0;have n2:gb<wr.heap.size:=World.block_lt_of_cell? wr ⟨gb,j*5,none⟩ y0;have n3:¬fb=wr.heap.size:=by omega
       have n4:¬gb=wr.heap.size:=by omega
       have n5:B<wr.heap.size:=World.block_lt_of_cell? wr ⟨B,0,none⟩ d0;have n6:B+1<wr.heap.size:=World.block_lt_of_cell? wr ⟨B+1,0,none⟩ d2;have n7:¬B=wr.heap.size:=by omega
       have n8:¬B+1=wr.heap.size:=by omega
       clear hf hp hq;obtain⟨name,line,ps,ret,body⟩:=f;dsimp only at x0 x1 x2 x3 x4 y0 y1 y2 y3 y4 HP HQ hpl;have hpl2:(ps.length:Int)≤1000:=by omega
       go_wp2_with fail
       have FA2:Fr nob wr ((wr.alloc (.cells #[.string (bs name),.int .i64 line,.slice PA ps.length PC,.int .i64 ret,.int .i64 body] 48)).alloc (.cells #[.string (bs name),.int .i64 line,.slice QA ps.length QC,.int .i64 ret,.int .i64 body] 48)):=((fR wr).alloc _).alloc _;have XB:Hd (Blk ((wr.alloc (.cells #[.string (bs name),.int .i64 line,.slice PA ps.length PC,.int .i64 ret,.int .i64 body] 48)).alloc (.cells #[.string (bs name),.int .i64 line,.slice QA ps.length QC,.int .i64 ret,.int .i64 body] 48)) wr.heap.size 48 _):=(Blk.new wr _ _).alloc _;have YB:Hd (Blk ((wr.alloc (.cells #[.string (bs name),.int .i64 line,.slice PA ps.length PC,.int .i64 ret,.int .i64 body] 48)).alloc (.cells #[.string (bs name),.int .i64 line,.slice QA ps.length QC,.int .i64 ret,.int .i64 body] 48)) (wr.heap.size+1) 48 _):=Blk.new1 _ _ _ _;have S2:=hD (S.o.no FA2);have FR2:=hD (FR.o.tr FA2);have K1:=hD (HP.o.fr FA2 (λ_ _ x=>x));have K2:=hD (HQ.o.fr FA2 (λ_ _ x=>x));clear n1 n2 n3 n4 n5 n6 n7 n8 d0 d1 d2 d3 x0 x1 x2 x3 x4 y0 y1 y2 y3 y4 FA2;generalize hC:wr.heap.size=C at *;clear hC;generalize hw2:(wr.alloc (.cells #[.string (bs name),.int .i64 line,.slice PA ps.length PC,.int .i64 ret,.int .i64 body] 48)).alloc (.cells #[.string (bs name),.int .i64 line,.slice QA ps.length QC,.int .i64 ret,.int .i64 body] 48)=w2 at *;clear hw2;go_loopw [12] (λi wq=>∃j:Nat,j≤ps.length∧i = .int .i64 j∧Hd (TT B (.slice NA ns.length NC) (.slice (some ⟨fb,0,none⟩) fs.length FC) (.slice MA ns.length MC) (.slice (some ⟨gb,0,none⟩) fs.length GC) lvs pvs lvs2 pvs2 ns fs wq)∧Hd (Fr nob w wq)∧Hd (Fr nob w2 wq)) (λi _=>ps.length - (intOf i).toNat)
       case atStart=>exact⟨0,Nat.zero_le _,rfl,S2,FR2,hD (fR w2)⟩
       case round=>
        clear S FR;obtain⟨m,hm,rfl,S,FR,F2⟩:=hrel;have X3:=hD (XB.o.fr F2 (λx=>x));have Y3:=hD (YB.o.fr F2 (λx=>x));have a2:wr.cell? ⟨C,2,none⟩=some (.slice PA ps.length PC):=by simpa using X3.o.cell 2
        have b2:wr.cell? ⟨C+1,2,none⟩=some (.slice QA ps.length QC):=by simpa using Y3.o.cell 2
        by_cases hml:m<ps.length
        . have hml2:(m:Int)<(ps.length:Int):=by omega
          have hm6:(m:Int)≤1000:=by omega
          obtain⟨q,hq⟩:∃q,ps[m]?=some q:=⟨_,gE hml⟩;obtain⟨pb,e,hc1⟩:=(K1.o.fr F2 (λ_ _ x=>x)).some (by omega);subst e;obtain⟨qb,e,hc2⟩:=(K2.o.fr F2 (λ_ _ x=>x)).some (by omega);subst e;have p0:=hc1 _ _ (aN hq).1;have p1:=hc1 _ _ (aN hq).2;have q0:=hc2 _ _ (aN hq).1;have q1:=hc2 _ _ (aN hq).2;clear hc1 hc2 hq;go_wp2_with fail
          go_quiet (fail)
          go_wp2
          go_roundw
          case rel=>exact⟨m+1,by omega,by go_num,hD (by first|exact S.o|exact S.o.no ((fR _).drewN _)),hD (by first|exact FR.o|exact FR.o.drewN _),hD (by first|exact F2.o|exact F2.o.drewN _)⟩
          case measure=>simp[intOf];omega
        . have hle:(ps.length:Int)≤(m:Int):=by omega
          go_wp2
          go_roundw
          case rel=>exact⟨j+1,by omega,by go_num,S,FR⟩
          case measure=>simp[intOf];omega
     . have hle:(fs.length:Int)≤(j:Int):=by omega
       go_wp2
       go_ret;exact⟨rfl,FR⟩
end
open Pw
section
variable (ns:List aG) (types:List Nat) (slots:List Int) (node:Nat)
def oM (rec:Nat->List dS->Bool×List dS):List Nat->List dS->Bool×List dS
 | [],vs=>(false,vs)
 | y :: l,vs=>if (rec y vs).1=true then (true,(rec y vs).2) else oM rec l (rec y vs).2
def aPl (nd:aG) (x:Nat):dS:=⟨nd.name,types.getD (nd.l.headD 0) 0,(slots.getD x 0).toNat⟩
def mE (rec:Nat->List dS->Bool×List dS):List Nat->List dS->Bool×List dS
 | [],vs=>(false,vs)
 | x :: l,vs=>if x=node then (true,vs) else match ns[x]? with
  | none=>(false,vs)
  | some nd=>if nd.kind=10 then mE rec l (vs++[aPl types slots nd x])
   else if nd.kind=15∨nd.kind=16 then (if (oM rec nd.l.tail vs).1=true then (true,(oM rec nd.l.tail vs).2) else mE rec l (oM rec nd.l.tail vs).2)
   else mE rec l vs
def uZ:Nat->Nat->List dS->Bool×List dS
 | 0,_,vs=>(false,vs)
 | f+1,x,vs=>match ns[x]? with
  | none=>(false,vs)
  | some nd=>if (mE ns types slots node (uZ f) nd.l vs).1=true then (true,(mE ns types slots node (uZ f) nd.l vs).2) else (false,(mE ns types slots node (uZ f) nd.l vs).2.take vs.length)
def aPe (r:Bool×List dS) (vs:List dS):Prop:=∃t,r.2=vs++t
variable {ns types slots node}
theorem aAm (h:∀y v,aPe (rec y v) v):∀(l:List Nat) (vs:List dS),aPe (oM rec l vs) vs
 | [],vs=>⟨[],by simp[oM]⟩
 | y :: l,vs=>by
  obtain⟨t,ht⟩:=h y vs;unfold oM;split
  . exact⟨t,ht⟩
  . obtain⟨t2,h2⟩:=aAm h l (rec y vs).2
    exact⟨t++t2,by rw[h2,ht,List.append_assoc]⟩
theorem mF (h:∀y v,aPe (rec y v) v):∀(l:List Nat) (vs:List dS),aPe (mE ns types slots node rec l vs) vs
 | [],vs=>⟨[],by simp[mE]⟩
 | x :: l,vs=>by
  unfold mE;split
  . exact⟨[],by simp⟩
  . split
    . exact⟨[],by simp⟩
    . rename_i nd _
      split
      . obtain⟨t,ht⟩:=mF h l (vs++[aPl types slots nd x])
        exact⟨[aPl types slots nd x]++t,by rw[ht,List.append_assoc]⟩
      . split
        . obtain⟨t,ht⟩:=aAm h nd.l.tail vs
          split
          . exact⟨t,ht⟩
          . obtain⟨t2,h2⟩:=mF h l (oM rec nd.l.tail vs).2
            exact⟨t++t2,by rw[h2,ht,List.append_assoc]⟩
        . exact mF h l vs
theorem zL:∀(f x:Nat) (vs:List dS),aPe (uZ ns types slots node f x vs) vs
 | 0,x,vs=>⟨[],by simp[uZ]⟩
 | f+1,x,vs=>by
  unfold uZ;split
  . exact⟨[],by simp⟩
  . rename_i nd _
    obtain⟨t,ht⟩:=mF (ns:=ns) (types:=types) (slots:=slots) (node:=node) (zL f) nd.l vs;split
    . exact⟨t,ht⟩
    . exact⟨[],by dsimp only;rw[ht];simp⟩
theorem aIz (f x:Nat) (vs:List dS) (h:(uZ ns types slots node f x vs).1=false):(uZ ns types slots node f x vs).2=vs:=by
 cases f with
 | zero=>rfl
 | succ f=>
  unfold uZ at h ⊢;split
  . rfl
  . rename_i nd hnd
    rw[hnd] at h;dsimp only at h;obtain⟨t,ht⟩:=mF (ns:=ns) (types:=types) (slots:=slots) (node:=node) (zL f) nd.l vs;split
    . rename_i h1;rw[if_pos h1] at h;cases h
    . dsimp only;rw[ht];simp
theorem aAn {vs:List dS}:∀{l:List Nat}{j y:Nat},(∀g∈l.take j,(rec g vs).1=false∧(rec g vs).2=vs)->l[j]?=some y->(rec y vs).1=true->oM rec l vs=(true,(rec y vs).2)
 | [],j,y,_,h,_=>by simp at h
 | a :: l,0,y,_,h,h1=>by simp at h;subst h;unfold oM;rw[if_pos h1]
 | a :: l,j+1,y,hg,h,h1=>by
  obtain⟨q1,q2⟩:=hg a (by simp);unfold oM;rw[if_neg (by rw[q1];decide),q2];exact aAn (j:=j) (λg hg'=>hg g (by rw[List.take_succ_cons];exact List.mem_cons_of_mem _ hg')) (by simpa using h) h1
theorem wV {vs:List dS}:∀{l:List Nat},(∀g∈l,(rec g vs).1=false∧(rec g vs).2=vs)->oM rec l vs=(false,vs)
 | [],_=>rfl
 | a :: l,hg=>by
  obtain⟨q1,q2⟩:=hg a (by simp);unfold oM;rw[if_neg (by rw[q1];decide),q2];exact wV (λg hg'=>hg g (by simp[hg']))
end
section
variable {F:Nat}{caps:Array Value}{S:List dS->World->Prop}{rec:Nat->List dS->Bool×List dS}{vs:List dS}{w:World}{b o c:Nat}{l:List Nat}
theorem aHb (hen:Enters prog F) (hone:∀y∈l,∀w',S vs w'->Calls prog F (#[.int .i64 (y:Nat)]++caps) w' λen w2=>en = .returned (.bool (rec y vs).1)∧S (rec y vs).2 w2)
  (hfix:∀y∈l,(rec y vs).1=false->(rec y vs).2=vs) (hrow:∀w',S vs w'->∀j y,l[j]?=some y->w'.cell? ⟨b,o+j,none⟩=some (.int .i64 (y:Nat))) (hl:l.length≤300) (h:S vs w):
  Calls prog 102 #[.slice (some ⟨b,o,none⟩) l.length c,.func (.func F) #[] caps] w λen w'=>∃z:Int,en = .returned (.int .i64 z)∧decide (0≤z)=(oM rec l vs).1∧S (oM rec l vs).2 w':=by
 have HONE:=hD hone;have HFIX:=hD hfix;have HROW:=hD hrow;have S0:=hD h;have hml:(l.length:Int)≤300:=by omega
 generalize hm:l.length=m at *;have HMM:=hD hm;clear hone hfix hrow h hm;go_enter func102,ntmps102;go_wp2
 go_loopw [8] (λi wr=>∃j:Nat,j≤m∧i = .int .i64 j∧Hd (∀g∈l.take j,(rec g vs).1=false∧(rec g vs).2=vs)∧Hd (S vs wr)) (λi _=>m - (intOf i).toNat)
 case atStart=>exact⟨0,Nat.zero_le _,rfl,hD (by simp),S0⟩
 case round=>
  clear S0;obtain⟨j,hj,rfl,HA,SS⟩:=hrel;by_cases hlt:j<m
  . have hlt2:(j:Int)<(m:Int):=by omega
    obtain⟨y,hy⟩:∃y,l[j]?=some y:=⟨_,gE (by have:=HMM.o;omega)⟩;have e0:=HROW.o wr SS j y hy;have HC:=hD (HONE y (List.mem_of_getElem? hy) wr SS);have HY:=hD hy;have HJ:=hD hlt;obtain⟨z,hz⟩:∃z,(rec y vs).1=z:=⟨_,rfl⟩;rw[hz] at HC;have HQ:=hD hz;clear hy hz hlt hj;cases z with
    | true=>
     go_wp2_with fail
     rw[hen];go_wp2_with fail
     refine HC.o.mono ?_;rintro e w2 ⟨rfl,hf2⟩;have S2:=hD hf2;clear hf2;go_wp2
     go_ret;rw[aAn HA.o HY.o HQ.o];exact⟨_,rfl,by simp,S2⟩
    | false=>
     have HR:=hD (HFIX y (List.mem_of_getElem? HY) HQ);go_wp2_with fail
     rw[hen];go_wp2_with fail
     refine HC.o.mono ?_;rintro e w2 ⟨rfl,hf2⟩;have S2:=hD (show S vs w2 from by rw[HR.o] at hf2;exact hf2);have HA2:=hD (show ∀g∈l.take (j+1),(rec g vs).1=false∧(rec g vs).2=vs from λg hg=>by
      rw[List.take_add_one,HY.o] at hg;rcases List.mem_append.1 hg with hg|hg
      . exact HA g hg
      . simp at hg;subst hg;exact⟨HQ,HR⟩)
     clear hf2 e0 HC HA SS;go_wp2
     go_roundw
     case rel=>exact⟨j+1,by have:=HJ.o;omega,by go_num,HA2,S2⟩
     case measure=>simp[intOf];have:=HJ.o;omega
  . have hlt2:¬(j:Int)<(m:Int):=by omega
    have hj2:j=m:=by omega
    subst hj2;clear hj hlt;go_wp2
    go_ret;rw[wV (λg hg=>HA.o g (by rw[List.take_of_length_le (by have:=HMM.o;omega)];exact hg))];exact⟨_,rfl,by simp,SS⟩
theorem aDi (hen:Enters prog F) (hone:∀y∈l,∀w',S vs w'->Calls prog F (#[.int .i64 (y:Nat)]++caps) w' λen w2=>en = .returned (.bool (rec y vs).1)∧S (rec y vs).2 w2)
  (hfix:∀y∈l,(rec y vs).1=false->(rec y vs).2=vs) (hrow:∀w',S vs w'->∀j y,l[j]?=some y->w'.cell? ⟨b,o+j,none⟩=some (.int .i64 (y:Nat))) (hl:l.length≤300) (h:S vs w):
  Calls prog 64 #[.slice (some ⟨b,o,none⟩) l.length c,.func (.func F) #[] caps] w λen w'=>en = .returned (.bool (oM rec l vs).1)∧S (oM rec l vs).2 w':=by
 have HC:=hD (aHb (c:=c) hen hone hfix hrow hl h);generalize l.length=m at *;clear hone hfix hrow hl h;go_enter func64,ntmps64;go_wp2_with fail
 refine HC.o.mono ?_;rintro en w2 ⟨z,rfl,hz,hs⟩;have HZ:=hD hz;have S2:=hD hs;clear hz hs HC;go_wp2
 go_ret;refine⟨?_,S2⟩;rw[<-HZ.o]
 first|rfl|simp
end
inductive StV (p:fF) (y:Nat):aG->Prop where
 | let_ (line:Nat) (nm:List UInt8) (a t k:Nat) (h:p.types[a]?=some t) (h2:p.slots[y]?=some (k:Int)) (ha:a<p.ns.length):StV p y ⟨10,line,0,nm,[a]⟩
 | test (kind line:Nat) (a:Nat) (m:List Nat) (hk:kind=15∨kind=16) (h:∀b∈m,b<y∧∃nd,p.ns[b]?=some nd∧nd.kind=18) (hm:m.length≤300) (hm0:1≤m.length):StV p y ⟨kind,line,0,[],a :: m⟩
 | other (nd:aG) (h0:nd.kind≠10) (h1:nd.kind≠15) (h2:nd.kind≠16):StV p y nd
structure PgW (g:PgV) (w:World):Prop where
 few:g.p.ns.length≤300
 tree:bW 0 w (.slice (some ⟨g.nb,0,none⟩) g.p.ns.length g.nc) (.slice (some ⟨g.fb,0,none⟩) g.p.fs.length g.fc) g.lvs g.pvs g.p.ns g.p.fs
 types:Own w 3 1 (.slice (some ⟨g.tb,0,none⟩) g.p.ns.length g.tc) g.p.ns.length (ints g.p.types)
 slots:Own w 3 1 (.slice (some ⟨g.sb,0,none⟩) g.p.ns.length g.sc) g.p.ns.length (dK g.p.slots)
 blocks:∀(x:Nat) (nd:aG),g.p.ns[x]?=some nd->nd.kind=18->∃line l,nd=⟨18,line,0,[],l⟩∧l.length≤300∧∀y∈l,y<x∧∃c,g.p.ns[y]?=some c∧StV g.p y c
def pF (V P N FN:Nat):Array Value:=#[.pointer (some ⟨V,0,none⟩),.pointer (some ⟨P,0,none⟩),.pointer (some ⟨N,0,none⟩),.pointer (some ⟨FN,0,none⟩)]
structure Vw (g:PgV) (w0:World) (V P N FN node:Nat) (vs:List dS) (w:World):Prop where
 fr:Fr nob w0 w
 vc:∃A c,Blk w V 58 #[.slice A vs.length c]∧Own w 62 3 (.slice A vs.length c) vs.length (aO vs)∧∀b,blk (.slice A vs.length c)=some b->w0.heap.size≤b
 hV:w0.heap.size≤V
 pc:Blk w P 29 #[.slice (some ⟨g.nb,0,none⟩) g.p.ns.length g.nc,.slice (some ⟨g.fb,0,none⟩) g.p.fs.length g.fc,.slice (some ⟨g.tb,0,none⟩) g.p.ns.length g.tc,.slice (some ⟨g.sb,0,none⟩) g.p.ns.length g.sc,.slice g.ua g.un g.uc,.slice g.za g.zn g.zc]
 nc:Blk w N 3 #[.int .i64 (node:Nat)]
 fc:Blk w FN 74 #[.func (.func 63) #[] (pF V P N FN)]
section
variable {g:PgV}{w0 w w1 w':World}{V P N FN node:Nat}{vs:List dS}
theorem Vw.no (h:Vw g w0 V P N FN node vs w) (f:Fr nob w w'):Vw g w0 V P N FN node vs w':=by
 obtain⟨A,c,hb,ho,hn⟩:=h.vc;exact⟨h.fr.tr f,⟨A,c,hb.fr f (λx=>x),ho.fr f (λ_ _ x=>x),hn⟩,h.hV,h.pc.fr f (λx=>x),h.nc.fr f (λx=>x),h.fc.fr f (λx=>x)⟩
theorem Vw.set (h:Vw g w0 V P N FN node vs w){A:Option Addr}{c:Nat}{us:List dS} (ho:Own w 62 3 (.slice A us.length c) us.length (aO us)) (hn:∀b,blk (.slice A us.length c)=some b->w0.heap.size≤b):Vw g w0 V P N FN node us (w.setCell ⟨V,0,none⟩ (.slice A us.length c)):=by
 obtain⟨A',c',hb,_,_⟩:=h.vc;have f:Fr (bQ V) w (w.setCell ⟨V,0,none⟩ (.slice A us.length c)):=(Fr.refl _ w).setCell _ _ (λ_=>rfl);exact⟨h.fr.trans f (λ_ _ x=>x) (λb hlt hm=>by have hm:b=V:=hm;have:=h.hV;omega),⟨A,c,hb.setCell 0 _,ho.far (p:=⟨V,0,none⟩) (ho.aD hb (by decide)) _,hn⟩,h.hV,
  h.pc.far (p:=⟨V,0,none⟩) (h.pc.ne hb (by decide)) _,h.nc.far (p:=⟨V,0,none⟩) (h.nc.ne hb (by decide)) _,h.fc.far (p:=⟨V,0,none⟩) (h.fc.ne hb (by decide)) _⟩
theorem Vw.app (h:Vw g w0 V P N FN node vs w){A:Option Addr}{c:Nat} (hc:w.cell? ⟨V,0,none⟩=some (.slice A vs.length c)) (f1:Fr nob w w1){v:dS}{A6:Option Addr}{c6:Nat}{w6:World} (ho6:Own w6 62 3 (.slice A6 (vs.length+1) c6) (vs.length+1) (aO vs++[.string (bs v.name),.int .i64 (v.ty:Nat),.int .i64 (v.slot:Nat)]))
  (hf6:Fr (obl (blk (.slice A vs.length c))) w1 w6) (hv6:blk (.slice A6 (vs.length+1) c6)=blk (.slice A vs.length c)∨blk (.slice A6 (vs.length+1) c6)=some w1.heap.size):
  Vw g w0 V P N FN node (vs++[v]) (w6.setCell ⟨V,0,none⟩ (.slice A6 (vs.length+1) c6))∧w6.frozen? ⟨V,0,none⟩=false∧V<w6.heap.size∧w6.cell? ⟨V,0,none⟩=some (.slice A vs.length c):=by
 have h1:=h.no f1;obtain⟨A',c',hb,ho,hn⟩:=h.vc;have e:w.cell? ⟨V,0,none⟩=some (.slice A' vs.length c'):=(hb.cell 0).trans rfl;rw[hc] at e;injection e with e;injection e with e1 _ e2;subst e1;subst e2;have ho1:=ho.fr f1 (λ_ _ x=>x);have hb1:=hb.fr f1 (λx=>x);have hb6:=hb1.fr hf6 (λhm=>ho1.aD hb1 (by decide) hm);have n1:∀b,blk (.slice A6 (vs.length+1) c6)=some b->w0.heap.size≤b:=λb hb=>by
  rcases hv6 with e|e
  . exact hn b (e ▸ hb)
  . rw[e] at hb;injection hb with hb
    have:=h1.fr.size;omega
 have hlen:(vs++[v]).length=vs.length+1:=by simp
 have f6:Fr nob w0 w6:=h1.fr.trans hf6 (λ_ _ x=>x) (λb hlt hm=>by have:=hn b hm;omega);have f:Fr (bQ V) w6 (w6.setCell ⟨V,0,none⟩ (.slice A6 (vs.length+1) c6)):=(Fr.refl _ w6).setCell _ _ (λ_=>rfl);have p6:=h1.pc.fr hf6 (λhm=>ho1.aD h1.pc (by decide) hm);have q6:=h1.nc.fr hf6 (λhm=>ho1.aD h1.nc (by decide) hm);have r6:=h1.fc.fr hf6 (λhm=>ho1.aD h1.fc (by decide) hm);refine⟨⟨f6.trans f (λ_ _ x=>x) (λb hlt hm=>by have hm:b=V:=hm;have:=h.hV;omega),⟨A6,c6,by rw[hlen];exact hb6.setCell 0 _,?_,by rw[hlen];exact n1⟩,h.hV,
  p6.far (p:=⟨V,0,none⟩) (p6.ne hb6 (by decide)) _,q6.far (p:=⟨V,0,none⟩) (q6.ne hb6 (by decide)) _,r6.far (p:=⟨V,0,none⟩) (r6.ne hb6 (by decide)) _⟩,hb6.frozen 0,hb6.lt,(hb6.cell 0).trans rfl⟩
 rw[hlen,iK];exact ho6.far (p:=⟨V,0,none⟩) (ho6.aD hb6 (by decide)) _
theorem Vw.cells (h:Vw g w0 V P N FN node vs w):w.cell? ⟨P,0,none⟩=some (.slice (some ⟨g.nb,0,none⟩) g.p.ns.length g.nc)∧w.cell? ⟨P,2,none⟩=some (.slice (some ⟨g.tb,0,none⟩) g.p.ns.length g.tc)∧w.cell? ⟨P,3,none⟩=some (.slice (some ⟨g.sb,0,none⟩) g.p.ns.length g.sc) ∧
  w.cell? ⟨N,0,none⟩=some (.int .i64 (node:Nat))∧w.cell? ⟨FN,0,none⟩=some (.func (.func 63) #[] (pF V P N FN))∧∃A c,w.cell? ⟨V,0,none⟩=some (.slice A vs.length c)∧Own w 62 3 (.slice A vs.length c) vs.length (aO vs)∧vs.length≤c∧∀b,blk (.slice A vs.length c)=some b->w0.heap.size≤b:=by
 obtain⟨A,c,hb,ho,hn⟩:=h.vc;exact⟨(h.pc.cell 0).trans rfl,(h.pc.cell 2).trans rfl,(h.pc.cell 3).trans rfl,(h.nc.cell 0).trans rfl,(h.fc.cell 0).trans rfl,A,c,(hb.cell 0).trans rfl,ho,ho.mW.1,hn⟩
theorem PgW.aGo (PG:PgW g w0){x:Nat}{nd:aG} (hx:g.p.ns[x]?=some nd):∃A c,Own w0 3 1 (.slice A nd.l.length c) nd.l.length (ints nd.l)∧nd.l.length≤c∧∀w,Fr nob w0 w->w.cell? ⟨g.nb,x*5,none⟩=some (.int .i64 nd.kind)∧w.cell? ⟨g.nb,x*5+1,none⟩=some (.int .i64 nd.line)∧w.cell? ⟨g.nb,x*5+2,none⟩=some (.int .i64 nd.n)∧w.cell? ⟨g.nb,x*5+3,none⟩=some (.string (bs nd.name))∧w.cell? ⟨g.nb,x*5+4,none⟩=some (.slice A nd.l.length c):=by
 have T:=PG.tree;have hlt:=(gK hx);obtain⟨lv,hlv⟩:∃lv,g.lvs[x]?=some lv:=⟨_,gE (by have:=T.same;omega)⟩;obtain⟨ho,-⟩:=T.node3 hx hlv;obtain⟨A,c,rfl,hc,_⟩:=ho.cap;exact⟨A,c,ho,hc,λw f=>((T.no f).node3 hx hlv).2⟩
theorem yV:Enters prog 63:=enters_of func63 (by kernel_rfl) rfl
end
end Go.Proofs.YtlbjicjinnnboaaGreatDoor
/- A region whose last operation waits for all others: what is held needs not to be held behind it. -/
namespace Go.Proofs.YtlbjicjinnnboaaGreatDoor
open Go
variable {L i:Nat}{listed:Array Bool}{a:Act}{w:World}
section
variable {P:Program}{ops:Array Oper}{Q:Exit->Act->World->Prop}{md:Region.Mode}{S:World->Prop}
def aIc (md:Region.Mode) (ops:Array Oper):Bool:=
 (List.range ops.size).all λj=>((ops[j]?).map λo=>o.after.all λe=> !Region.binds md e || decide (e.on<j)).getD true
theorem lI (h:aIc md ops=true){j:Nat}{o:Oper} (ho:ops[j]?=some o):∀e∈o.after,Region.binds md e=true->e.on<j:=by
 intro e he hb;have hj:j<ops.size:=(Array.getElem?_eq_some_iff.1 ho).1;have h1:=List.all_eq_true.1 h j (List.mem_range.2 hj);rw[ho] at h1;simp only[Option.map_some,Option.getD_some] at h1;have h2:=Array.all_eq_true_iff_forall_mem.1 h1 e he;rw[hb] at h2;simpa using h2
def lastB (md:Region.Mode) (ops:Array Oper) (L:Nat):Bool:=decide (L+1=ops.size) && aIc md ops && Region.sinkB md ops L
structure aIs (md:Region.Mode) (ops:Array Oper) (L:Nat) (listed:Array Bool):Prop where
 size:listed.size=ops.size
 closed:∀j oj,ops[j]?=some oj->listed.getD j false=true->∀e∈oj.after,Region.binds md e=true->listed.getD e.on false=true
 last:listed.getD L true=false
def aKm (P:Program) (ops:Array Oper) (Q:Exit->Act->World->Prop) (L:Nat):Exit->Act->World->Prop
 | .normal,a,w=>wpOp P ops Q L (λa w=>Q .normal a w) a w
 | e,a,w=>Q e a w
theorem wI (hi:i<listed.size) (h:listed.getD i true=true):listed.getD i false=true:=by
 simp[hi] at h ⊢;exact h
theorem aIs.full (hs:Region.sinkB md ops L=true) (hL:L+1=ops.size) (inv:aIs md ops L listed) (hr:L∈Region.ready md ops listed):∀k i,i+k=L->0<k->listed.getD i false=true:=by
 intro k;induction k using Nat.strongRecOn with
 | ind k ih=>
  intro i hik hk;have h1:=List.all_eq_true.1 hs i (List.mem_range.2 (by omega));obtain⟨j,hj,hw⟩:=List.any_eq_true.1 h1;rw[List.mem_range] at hj;simp only[Bool.and_eq_true,decide_eq_true_eq] at hw;obtain⟨oj,hoj,e,he,hb,rfl⟩:=Region.waitsFor_spec hw.2;by_cases hjL:j=L
  . subst hjL
    obtain⟨_,o,ho,hall⟩:=mem_ready.1 hr;rw[hoj] at ho;injection ho with ho;subst ho;exact hall e he hb
  . exact inv.closed j oj hoj (ih (L - j) (by omega) j (by omega) (by omega)) e he hb
theorem aIs.set (inv:aIs md ops L listed) (hi:i∈Region.ready md ops listed) (hiL:i≠L):aIs md ops L (listed.setIfInBounds i true):=by
 obtain⟨_,oi,hoi,hall⟩:=mem_ready.1 hi;refine⟨by simp[inv.size],λj oj hj hl e he hb=>?_,by rw[getD_set_ne true hiL];exact inv.last⟩;have up:∀m,listed.getD m false=true->(listed.setIfInBounds i true).getD m false=true:=λm hm=>by
   by_cases h:i=m
   . subst h
     have:i<listed.size:=by
      rcases Nat.lt_or_ge i listed.size with h'|h'
      . exact h'
      . simp[Array.getElem?_eq_none h'] at hm
     simp[this]
   . rw[getD_set_ne false h];exact hm
 by_cases hij:i=j
 . subst hij
   have:oj=oi:=Option.some.inj (hj.symm.trans hoi);subst this;exact up _ (hall e he hb)
 . rw[getD_set_ne false hij] at hl
   exact up _ (inv.closed j oj hj hl e he hb)
theorem sG (hb:aIc md ops=true) (hL:L+1=ops.size) (inv:aIs md ops L listed) (hiL:i≠L) (h:i∈Region.ready md ops listed):i∈Region.ready md ops (listed.setIfInBounds L true):=by
 obtain⟨h0,o,ho,hall⟩:=mem_ready.1 h;have hlt:i<ops.size:=(Array.getElem?_eq_some_iff.1 ho).1;refine mem_ready.2 ⟨by rw[getD_set_ne true (Ne.symm hiL)];exact h0,o,ho,λe he hbe=>?_⟩;have:=lI hb ho e he hbe;rw[getD_set_ne false (by omega)];exact hall e he hbe
theorem aBq (hb:aIc md ops=true) (hL:L+1=ops.size) (inv:aIs md ops L listed) (h:i∈Region.ready md ops (listed.setIfInBounds L true)):i≠L∧i∈Region.ready md ops listed:=by
 obtain⟨h0,o,ho,hall⟩:=mem_ready.1 h;have hlt:i<ops.size:=(Array.getElem?_eq_some_iff.1 ho).1;have hiL:i≠L:=λe=>by
  subst e;have:=inv.size;simp[show i<listed.size by omega] at h0
 refine⟨hiL,mem_ready.2 ⟨by rw[getD_set_ne true (Ne.symm hiL)] at h0;exact h0,o,ho,λe he hbe=>?_⟩⟩;have:=lI hb ho e he hbe;have h2:=hall e he hbe;rw[getD_set_ne false (by omega)] at h2;exact h2
theorem sF (hb:aIc md ops=true) (hL:L+1=ops.size) (inv:aIs md ops L listed):Region.ready md ops listed≠[]:=by
 intro h;have key:∀k,k<ops.size->listed.getD k false=true:=by
  intro k;induction k using Nat.strongRecOn with
  | ind k ih=>
   intro hk;cases hc:listed.getD k true with
   | true=>exact wI (by have:=inv.size;omega) hc
   | false=>
    obtain⟨o,ho⟩:∃o,ops[k]?=some o:=⟨_,Array.getElem?_eq_getElem hk⟩;have:k∈Region.ready md ops listed:=mem_ready.2 ⟨hc,o,ho,λe he hbe=>ih e.on (lI hb ho e he hbe) (by have:=lI hb ho e he hbe;omega)⟩;rw[h] at this;cases this
 have h1:=key L (by omega);have h2:=inv.last;have:=inv.size;simp[show L<listed.size by omega] at h1 h2
 rw[h1] at h2;cases h2
theorem aAs {K:Act->World->Prop} (h:wpOp P ops (aKm P ops Q L) i K a w):wpOp P ops Q i K a w:=by
 unfold wpOp at *;split
 . rename_i ho;simpa[ho] using h
 . rename_i o ho
   simp only[ho] at h;split
   . rename_i hw
     simp only[hw,if_true] at h;refine h.imp (λh=>?_) (λh=>h);unfold Oper.wp at *;generalize (execOp a.eval o).run P w=r at *;cases r with
     | ok n w'=>
      cases n<;>simp only[Oper.upon] at h ⊢ <;>first
       | exact h
       | exact Calls.mono h (λe w'' he=>by cases e<;>exact he)
     | halt x w'=>cases x<;>simp only[Oper.upon] at h ⊢ <;>exact h
   . rename_i hw;simpa[hw] using h
theorem aAt (hB:lastB md ops L=true):∀(fuel:Nat) (listed:Array Bool) (a:Act) (w:World),aIs md ops L listed ->
  wpAny P md ops (aKm P ops Q L) fuel (listed.setIfInBounds L true) a w->wpAny P md ops Q (fuel+1) listed a w:=by
 simp only[lastB,Bool.and_eq_true,decide_eq_true_eq] at hB;obtain⟨⟨hL,hb⟩,hs⟩:=hB;intro fuel;induction fuel with
 | zero=>
  intro listed a w inv H;refine⟨λh=>absurd h (sF hb hL inv),λi hi=>?_⟩;by_cases hiL:i=L
  . subst hiL
    exact wpOp_mono (λa' w' hq=>⟨H.1,hq⟩) H.2
  . have:=sG hb hL inv hiL hi
    rw[H.1] at this;cases this
 | succ fuel ih=>
  intro listed a w inv H;refine⟨λh=>absurd h (sF hb hL inv),λi hi=>?_⟩;by_cases hiL:i=L
  . subst hiL
    have full:=inv.full hs hL hi;have hnone:Region.ready md ops (listed.setIfInBounds i true)=[]:=by
     rw[List.eq_nil_iff_forall_not_mem];intro j hj;obtain⟨hji,hjr⟩:=aBq hb hL inv hj;obtain⟨h0,o,ho,_⟩:=mem_ready.1 hjr;have hlt:j<ops.size:=(Array.getElem?_eq_some_iff.1 ho).1;have h1:=full (i - j) j (by omega) (by omega);have:=inv.size;simp[show j<listed.size by omega] at h0 h1
     rw[h0] at h1;cases h1
    exact wpOp_mono (λa' w' hq=>⟨λ_=>hq,by rw[hnone];simp⟩) (H.1 hnone)
  . have h1:=aAs (H.2 i (sG hb hL inv hiL hi))
    refine wpOp_mono (λa' w' h2=>ih _ a' w' (inv.set hi hiL) ?_) h1;rw[Array.setIfInBounds_comm _ _ hiL];exact h2
theorem qZ {id:Nat} (S:World->Prop) (L:Nat) (hm:P.follows .mixedOrders=true) (hB:lastB .any ops L=true) (hS:S w.drew)
  (h:S w.drew->wpAnyH P .any ops (aKm P ops Q L) S L ((Array.replicate ops.size false).setIfInBounds L true) a w.drew):(Code.region id ops true).wp P Q a w:=by
 have hL:L+1=ops.size:=by
  simp only[lastB,Bool.and_eq_true,decide_eq_true_eq] at hB;exact hB.1.1
 refine wp_region_any hm ?_;have inv:aIs .any ops L (Array.replicate ops.size false):=⟨by simp,λj oj hj hl=>by
  exfalso
  have hlt:j<ops.size:=(Array.getElem?_eq_some_iff.1 hj).1;simp[hlt] at hl,by simp[show L<ops.size by omega]⟩
 have:=aAt hB L _ a w.drew inv (wpAny_of_held _ _ _ _ (h hS));rw[hL] at this;exact this
theorem aCq {o:Oper} (ho:ops[L]?=some o)
 (h:∀K:Act->World->Prop,(∀a w,Q .normal a w->K a w)->if Region.wanted o (yielded ops a.tmps)=true then Oper.wp P o a w K Q else K (a.put o.dst undef) w):aKm P ops Q L .normal a w:=wpOp_step ho h
end
end Go.Proofs.YtlbjicjinnnboaaGreatDoor
/- The program's Visible: its closure walked. -/
namespace Go.Proofs.YtlbjicjinnnboaaGreatDoor
open Go.RowKit Go.Proofs.Tryz
open Pw
variable {l:List Nat}{y line x:Nat}
section
variable {g:PgV}{w0 w:World}{V P N FN node:Nat}{vs:List dS}
variable {ns:List aG}{types:List Nat}{slots:List Int}{rec:Nat->List dS->Bool×List dS}
theorem aIy (v:List dS) (h:y=node):mE ns types slots node rec (y :: l) v=(true,v):=by
 unfold mE;rw[if_pos h]
theorem aIx {a:Nat}{nm:List UInt8} (v:List dS) (h:y≠node) (hy:ns[y]?=some ⟨10,line,0,nm,[a]⟩){t k:Nat} (ht:types[a]?=some t) (hk:slots[y]?=some (k:Int)):
  mE ns types slots node rec (y :: l) v=mE ns types slots node rec l (v++[⟨nm,t,k⟩]):=by
 conv=>lhs;unfold mE
 rw[if_neg h,hy];dsimp only;rw[if_pos rfl];unfold aPl;dsimp only;rw[show [a].headD 0=a from rfl,List.getD_eq_getElem?_getD,ht,List.getD_eq_getElem?_getD,hk];rfl
theorem aEf {m:List Nat}{kind a:Nat} (v:List dS) (h:y≠node) (hk:kind=15∨kind=16) (hy:ns[y]?=some ⟨kind,line,0,[],a :: m⟩):
  mE ns types slots node rec (y :: l) v=if (oM rec m v).1=true then (true,(oM rec m v).2) else mE ns types slots node rec l (oM rec m v).2:=by
 conv=>lhs;unfold mE
 rw[if_neg h,hy];dsimp only;rw[if_neg (by omega),if_pos hk];rfl
theorem aAv {nd:aG} (v:List dS) (h:y≠node) (hy:ns[y]?=some nd) (h0:nd.kind≠10) (h1:nd.kind≠15) (h2:nd.kind≠16):
  mE ns types slots node rec (y :: l) v=mE ns types slots node rec l v:=by
 conv=>lhs;unfold mE
 rw[if_neg h,hy];dsimp only;rw[if_neg h0,if_neg (by omega)]
theorem aAo (hfix:∀y v,(rec y v).1=false->(rec y v).2=v):∀(l:List Nat) (v:List dS),(oM rec l v).1=false->(oM rec l v).2=v
 | [],v,_=>rfl
 | y :: l,v,h=>by
  unfold oM at h ⊢;split
  . rename_i h1;rw[if_pos h1] at h;cases h
  . rename_i h1
    rw[if_neg h1] at h;have e:=hfix y v (by simpa using h1);rw[e] at h ⊢;exact aAo hfix l v h
def aNr (ns:List aG) (types:List Nat) (slots:List Int) (node:Nat) (rec:Nat->List dS->Bool×List dS) (l:List Nat) (vs:List dS):Bool×List dS:=
 if (mE ns types slots node rec l vs).1=true then (true,(mE ns types slots node rec l vs).2) else (false,(mE ns types slots node rec l vs).2.take vs.length)
theorem wQ {v:List dS} (h:mE ns types slots node rec l vs=(true,v)):aNr ns types slots node rec l vs=(true,v):=by
 unfold aNr;rw[h,if_pos rfl]
theorem aDx {v:List dS} (h:mE ns types slots node rec l vs=(false,v)):aNr ns types slots node rec l vs=(false,v.take vs.length):=by
 unfold aNr;rw[h,if_neg (by simp)]
theorem aEg (PG:PgW g w0) (hx:g.p.ns[x]?=some ⟨18,line,0,[],l⟩) (hl3:l.length≤300) (hvs:vs.length≤190000)
  (hrec:∀y v w,y<x->(∃nd,g.p.ns[y]?=some nd∧nd.kind=18)->v.length≤vs.length+300->Vw g w0 V P N FN node v w->Calls prog 63 (#[.int .i64 (y:Nat)]++pF V P N FN) w λen w'=>en = .returned (.bool (rec y v).1)∧Vw g w0 V P N FN node (rec y v).2 w')
  (hfix:∀y v,(rec y v).1=false->(rec y v).2=v) (hst:∀y∈l,y<x∧∃nd,g.p.ns[y]?=some nd∧StV g.p y nd) (h:Vw g w0 V P N FN node vs w):
  Calls prog 63 (#[.int .i64 (x:Nat)]++pF V P N FN) w λen w'=>en = .returned (.bool (aNr g.p.ns g.p.types g.p.slots node rec l vs).1)∧Vw g w0 V P N FN node (aNr g.p.ns g.p.types g.p.slots node rec l vs).2 w':=by
 show Calls prog 63 #[.int .i64 (x:Nat),.pointer (some ⟨V,0,none⟩),.pointer (some ⟨P,0,none⟩),.pointer (some ⟨N,0,none⟩),.pointer (some ⟨FN,0,none⟩)] w _
 have hx5:x<g.p.ns.length:=(gK hx);have hx4:(g.p.ns.length:Int)≤300:=by have:=PG.few;omega
 have hx3:(x:Int)<(g.p.ns.length:Int):=by omega
 have hl4:(l.length:Int)≤300:=by omega
 obtain⟨c0,-,-,-,-,A0,C0,c5,-,hc5,-⟩:=h.cells;obtain⟨LA,LC,hlo,-,ncx⟩:=PG.aGo hx;obtain⟨-,-,-,-,n4⟩:=ncx w h.fr;have HLO:=hD hlo;have h4:x*5+4<g.p.ns.length*5:=by omega
 have HPG:=hD PG;have HREC:=hD hrec;have HFIX:=hD hfix;have HST:=hD hst;have HS:=hD h;have hv3:(vs.length:Int)≤190000:=by omega
 obtain⟨m,hm⟩:∃m,vs.length=m:=⟨_,rfl⟩;have HM:=hD hm;rw[hm] at c5 hc5 hv3 hvs;dsimp only at n4 HLO;clear ncx hlo h hx hrec hfix hst PG hm;go_enter func63,ntmps63;go_wp2
 go_loopw [21] (λi wr=>∃(j:Nat) (v:List dS),j≤l.length∧i = .int .i64 j∧Hd (mE g.p.ns g.p.types g.p.slots node rec l vs=mE g.p.ns g.p.types g.p.slots node rec (l.drop j) v)∧Hd (m≤v.length∧v.length≤m+j)∧Hd (Vw g w0 V P N FN node v wr)) (λi _=>l.length - (intOf i).toNat)
 case atStart=>exact⟨0,vs,Nat.zero_le _,rfl,hD (by rw[List.drop_zero]),hD (by have:=HM.o;omega),HS⟩
 case round=>
  clear HS;obtain⟨j,v,hj,rfl,EQ,LN,SS⟩:=hrel;by_cases hlt:j<l.length
  . have hlt2:(j:Int)<(l.length:Int):=by omega
    obtain⟨y,hy⟩:∃y,l[j]?=some y:=⟨_,gE hlt⟩;have HD:=hD (show l.drop j=y :: l.drop (j+1) from by
      obtain⟨h1,h2⟩:=List.getElem?_eq_some_iff.1 hy;rw[List.drop_eq_getElem_cons h1,h2])
    obtain⟨hyx,nd,hnd,hs⟩:=HST.o y (List.mem_of_getElem? hy);obtain⟨p0,-⟩:=SS.o.cells;obtain⟨kb,e9,kc⟩:=(HLO.o.fr SS.o.fr (λ_ _ x=>x)).some (by omega);subst e9;have k0:=kc j (.int .i64 (y:Nat)) (by simp[ints,hy]);obtain⟨NA,NC,hno,hnc,ncell⟩:=HPG.o.aGo hnd;obtain⟨e0,e1,e2,e3,e4⟩:=ncell wr SS.o.fr;have hy5:y<g.p.ns.length:=by omega
    have hy3:(y:Int)<(g.p.ns.length:Int):=by omega
    have S6:Hd (Vw g w0 V P N FN node v (wr.alloc (.cells #[.int .i64 (nd.kind:Nat),.int .i64 (nd.line:Nat),.int .i64 (nd.n:Nat),.string (bs nd.name),.slice NA nd.l.length NC] 50))):=SS.o.no ((fR wr).alloc _);have BN:=hD (Blk.new wr 50 #[.int .i64 (nd.kind:Nat),.int .i64 (nd.line:Nat),.int .i64 (nd.n:Nat),.string (bs nd.name),.slice NA nd.l.length NC]);have HNO:=hD hno;have HND:=hD hnd;have HJ:=hD hlt;have HYX:=hD hyx;have HSV:=hD hs;have EV:=hD (show mE g.p.ns g.p.types g.p.slots node rec l vs=mE g.p.ns g.p.types g.p.slots node rec (y :: l.drop (j+1)) v from by rw[<-HD.o];exact EQ);clear hy hlt hj hyx hnd hs ncell hno kc EQ SS HD;go_upto_region 6 with fail;clear p0 k0 e0 e1 e2 e3 e4;generalize wr.alloc (.cells #[.int .i64 (nd.kind:Nat),.int .i64 (nd.line:Nat),.int .i64 (nd.n:Nat),.string (bs nd.name),.slice NA nd.l.length NC] 50)=w6 at *;generalize wr.heap.size=T at *;have d0:w6.cell? ⟨T,0,none⟩=some (.int .i64 (nd.kind:Nat)):=(BN.o.cell 0).trans rfl;obtain⟨p0,p2,p3,pn,pf,A,C,d5,hvo,hvc,hvn⟩:=S6.o.cells;by_cases hyn:y=node
    . have heb:((y:Int)==(node:Int))=true:=by simp[hyn]
      have HYN:=hD hyn;clear hyn;go_wp2
      go_ret;rw[wQ (EV.o.trans (aIy v HYN.o))];exact⟨rfl,S6⟩
    . have heb:((y:Int)==(node:Int))=false:=by simp;omega
      have HYN:=hD hyn;clear hyn;cases HSV.o with
      | let_ line nm a t k ht hk ha=>
       obtain⟨ab,e9,nc0⟩:=(HNO.o.fr S6.o.fr (λ_ _ x=>x)).some (by simp);subst e9;have a0:=nc0 0 (.int .i64 (a:Nat)) rfl;obtain⟨tb',e9,tc0⟩:=(HPG.o.types.fr S6.o.fr (λ_ _ x=>x)).some (by omega);injection e9 with e9;injection e9 with e9;subst e9;have t0:=tc0 a (.int .i64 (t:Nat)) (by simp[ints,ht]);obtain⟨sb',e9,sc0⟩:=(HPG.o.slots.fr S6.o.fr (λ_ _ x=>x)).some (by omega);injection e9 with e9;injection e9 with e9;subst e9;have s0:=sc0 y (.int .i64 (k:Nat)) (by simp[dK,hk]);have ha3:(a:Int)<(g.p.ns.length:Int):=by omega
       have d3:w6.cell? ⟨T,3,none⟩=some (.string (bs nm)):=(BN.o.cell 3).trans rfl;have d4:w6.cell? ⟨T,4,none⟩=some (.slice (some ⟨ab,0,none⟩) 1 NC):=(BN.o.cell 4).trans rfl;have EV2:=hD (EV.o.trans (aIx v HYN HND ht hk));have hnc1:1≤NC:=hnc;obtain⟨A',c',hvb,-,-⟩:=S6.o.vc;have AB:Hd (ab<w0.heap.size):=HNO.o.aY (aR (by simp) hnc);have TB:Hd (g.tb<w0.heap.size):=HPG.o.types.aY (aR (by omega) HPG.o.types.mW.1);have SB:Hd (g.sb<w0.heap.size):=HPG.o.slots.aY (aR (by omega) HPG.o.slots.mW.1);have HK:=hD (show ∀w',Fr (λb=>b=V∨obl (blk (.slice A v.length C)) b) w6 w'->w'.cell? ⟨T,3,none⟩=some (.string (bs nm))∧w'.cell? ⟨T,4,none⟩=some (.slice (some ⟨ab,0,none⟩) 1 NC)∧w'.cell? ⟨P,2,none⟩=some (.slice (some ⟨g.tb,0,none⟩) g.p.ns.length g.tc)∧w'.cell? ⟨P,3,none⟩=some (.slice (some ⟨g.sb,0,none⟩) g.p.ns.length g.sc)∧w'.cell? ⟨ab,0,none⟩=some (.int .i64 (a:Nat))∧w'.cell? ⟨g.tb,a,none⟩=some (.int .i64 (t:Nat))∧w'.cell? ⟨g.sb,y,none⟩=some (.int .i64 (k:Nat)) from λw' f=>by
         have hV:=S6.o.hV;have nT:¬(T=V∨obl (blk (.slice A v.length C)) T):=by
           rintro (e|e)
           . exact BN.o.ne hvb (by decide) e
           . exact hvo.aD BN (by decide) e
         have nP:¬(P=V∨obl (blk (.slice A v.length C)) P):=by
           rintro (e|e)
           . exact S6.o.pc.ne hvb (by decide) e
           . exact hvo.aD S6.o.pc (by decide) e
         have low:∀b,b<w0.heap.size->¬(b=V∨obl (blk (.slice A v.length C)) b):=λb hb=>by
           rintro (e|e)
           . omega
           . have:=hvn b e;omega
         have sz:=S6.o.fr.size;exact⟨(f.cell (p:=⟨T,3,none⟩) BN.o.lt nT).trans d3,(f.cell (p:=⟨T,4,none⟩) BN.o.lt nT).trans d4,(f.cell (p:=⟨P,2,none⟩) S6.o.pc.lt nP).trans p2,(f.cell (p:=⟨P,3,none⟩) S6.o.pc.lt nP).trans p3,
           (f.cell (p:=⟨ab,0,none⟩) (Nat.lt_of_lt_of_le AB sz) (low _ AB)).trans a0,(f.cell (p:=⟨g.tb,a,none⟩) (Nat.lt_of_lt_of_le TB sz) (low _ TB)).trans t0,(f.cell (p:=⟨g.sb,y,none⟩) (Nat.lt_of_lt_of_le SB sz) (low _ SB)).trans s0⟩)
       have HV:=hD ((hvo.alloc (.cells #[.string (bs nm),.int .i64 (t:Nat),.int .i64 (k:Nat)] 62)).fr ((fR _).drew) (λ_ _ x=>x));have HR:=hD (Rd.eD (n:=1) (size:=3) (cs:=[.string (bs nm),.int .i64 (t:Nat),.int .i64 (k:Nat)]) ((Blk.new w6 62 [.string (bs nm),.int .i64 (t:Nat),.int .i64 (k:Nat)].toArray).fr ((fR _).drew) (λx=>x)) rfl (by decide));have HARM:=hD (λ(A3:Option Addr) (c3:Nat) (w8:World) (ho8:Own w8 62 3 (.slice A3 (v.length+1) c3) (v.length+1) (aO v++[.string (bs nm),.int .i64 (t:Nat),.int .i64 (k:Nat)])) (hf8:Fr (obl (blk (.slice A v.length C))) ((w6.alloc (.cells #[.string (bs nm),.int .i64 (t:Nat),.int .i64 (k:Nat)] 62)).drew) w8) (hv8:blk (.slice A3 (v.length+1) c3)=blk (.slice A v.length C)∨blk (.slice A3 (v.length+1) c3)=some ((w6.alloc (.cells #[.string (bs nm),.int .i64 (t:Nat),.int .i64 (k:Nat)] 62)).drew).heap.size)=>
         show (Vw g w0 V P N FN node (v++[⟨nm,t,k⟩]) (w8.setCell ⟨V,0,none⟩ (.slice A3 (v.length+1) c3))∧w8.frozen? ⟨V,0,none⟩=false∧V<w8.heap.size∧w8.cell? ⟨V,0,none⟩=some (.slice A v.length C))∧Fr (λb=>b=V∨obl (blk (.slice A v.length C)) b) w6 w8∧Fr (λb=>b=V∨obl (blk (.slice A v.length C)) b) w6 (w8.setCell ⟨V,0,none⟩ (.slice A3 (v.length+1) c3)) from by
           have f1:Fr nob w6 ((w6.alloc (.cells #[.string (bs nm),.int .i64 (t:Nat),.int .i64 (k:Nat)] 62)).drew):=((fR w6).alloc _).drew;have f2:Fr (λb=>b=V∨obl (blk (.slice A v.length C)) b) w6 w8:=f1.trans hf8 (λ_ _ x=>x.elim) (λ_ _ x=> .inr x);exact⟨S6.o.app (v:=⟨nm,t,k⟩) d5 f1 ho8 hf8 hv8,f2,f2.setCell _ _ (λ_=> .inl rfl)⟩)
       have hvl:v.length≤190300:=by have:=LN.o;have:=HJ.o;omega
       have KK:=hD (HK _ (Fr.refl _ w6).drew);have d5a:w6.drew.cell? ⟨V,0,none⟩=some (.slice A v.length C):=d5;have d5b:(w6.drew.alloc (.cells #[.string (bs nm),.int .i64 (t:Nat),.int .i64 (k:Nat)] 62)).cell? ⟨V,0,none⟩=some (.slice A v.length C):=(((fR w6).drew.alloc _).cell (p:=⟨V,0,none⟩) hvb.lt (λx=>x)).trans d5;clear nc0 tc0 sc0 ht hk ha HNO EV hvo hvn hnc hvb S6 BN AB TB SB;go_wp2_with fail
       refine qZ (λw'=>w'.cell? ⟨V,0,none⟩=some (.slice A v.length C)∧w'.cell? ⟨T,3,none⟩=some (.string (bs nm))∧w'.cell? ⟨T,4,none⟩=some (.slice (some ⟨ab,0,none⟩) 1 NC)∧w'.cell? ⟨P,2,none⟩=some (.slice (some ⟨g.tb,0,none⟩) g.p.ns.length g.tc)∧w'.cell? ⟨P,3,none⟩=some (.slice (some ⟨g.sb,0,none⟩) g.p.ns.length g.sc)∧w'.cell? ⟨ab,0,none⟩=some (.int .i64 (a:Nat))∧w'.cell? ⟨g.tb,a,none⟩=some (.int .i64 (t:Nat))∧w'.cell? ⟨g.sb,y,none⟩=some (.int .i64 (k:Nat))) 19 (by kernel_rfl) (by kernel_rfl) ⟨d5a,KK⟩ (λhHeld=>?_);clear d0 d3 d4 d5 a0 t0 s0 p0 p2 p3 pn pf;refine wpAnyH_take (i:=0) (v:=?_) rfl (by kernel_rfl) (by kernel_rfl) (by kernel_rfl) (λ_ _ _ h=>h) (Or.inl ⟨by rfl,?_⟩) (by assumption) ?_
       case refine_2=>(intro w hSw;(try dsimp only at hSw);go_simp;(try with_reducible rfl))
       simp only[Act.put,List.setIfInBounds_toArray,List.set_cons_zero,List.set_cons_succ];refine wpAnyH_take (i:=1) (v:=?_) rfl (by kernel_rfl) (by kernel_rfl) (by kernel_rfl) (λ_ _ _ h=>h) (Or.inl ⟨by rfl,?_⟩) (by assumption) ?_
       case refine_2=>(intro w hSw;(try dsimp only at hSw);go_simp;(try with_reducible rfl))
       simp only[Act.put,List.setIfInBounds_toArray,List.set_cons_zero,List.set_cons_succ];refine wpAnyH_take (i:=2) (v:=?_) rfl (by kernel_rfl) (by kernel_rfl) (by kernel_rfl) (λ_ _ _ h=>h) (Or.inl ⟨by rfl,?_⟩) (by assumption) ?_
       case refine_2=>(intro w hSw;(try dsimp only at hSw);go_simp;(try with_reducible rfl))
       simp only[Act.put,List.setIfInBounds_toArray,List.set_cons_zero,List.set_cons_succ];refine wpAnyH_take (i:=3) (v:=?_) rfl (by kernel_rfl) (by kernel_rfl) (by kernel_rfl) (λ_ _ _ h=>h) (Or.inl ⟨by rfl,?_⟩) (by assumption) ?_
       case refine_2=>(intro w hSw;(try dsimp only at hSw);go_simp;(try with_reducible rfl))
       simp only[Act.put,List.setIfInBounds_toArray,List.set_cons_zero,List.set_cons_succ];refine wpAnyH_take (i:=4) (v:=?_) rfl (by kernel_rfl) (by kernel_rfl) (by kernel_rfl) (λ_ _ _ h=>h) (Or.inl ⟨by rfl,?_⟩) (by assumption) ?_
       case refine_2=>(intro w hSw;(try dsimp only at hSw);go_simp;(try with_reducible rfl))
       simp only[Act.put,List.setIfInBounds_toArray,List.set_cons_zero,List.set_cons_succ];refine wpAnyH_take (i:=5) (v:=?_) rfl (by kernel_rfl) (by kernel_rfl) (by kernel_rfl) (λ_ _ _ h=>h) (Or.inl ⟨by rfl,?_⟩) (by assumption) ?_
       case refine_2=>(intro w hSw;(try dsimp only at hSw);go_simp;(try with_reducible rfl))
       simp only[Act.put,List.setIfInBounds_toArray,List.set_cons_zero,List.set_cons_succ];refine wpAnyH_take (i:=6) (v:=?_) rfl (by kernel_rfl) (by kernel_rfl) (by kernel_rfl) (λ_ _ _ h=>h) (Or.inl ⟨by rfl,?_⟩) (by assumption) ?_
       case refine_2=>(intro w hSw;(try dsimp only at hSw);go_simp;(try with_reducible rfl))
       simp only[Act.put,List.setIfInBounds_toArray,List.set_cons_zero,List.set_cons_succ];refine wpAnyH_take (i:=7) (v:=?_) rfl (by kernel_rfl) (by kernel_rfl) (by kernel_rfl) (λ_ _ _ h=>h) (Or.inl ⟨by rfl,?_⟩) (by assumption) ?_
       case refine_2=>(intro w hSw;(try dsimp only at hSw);go_simp;(try with_reducible rfl))
       simp only[Act.put,List.setIfInBounds_toArray,List.set_cons_zero,List.set_cons_succ];refine wpAnyH_take (i:=8) (v:=?_) rfl (by kernel_rfl) (by kernel_rfl) (by kernel_rfl) (λ_ _ _ h=>h) (Or.inl ⟨by rfl,?_⟩) (by assumption) ?_
       case refine_2=>(intro w hSw;(try dsimp only at hSw);go_simp;(try with_reducible rfl))
       simp only[Act.put,List.setIfInBounds_toArray,List.set_cons_zero,List.set_cons_succ];refine wpAnyH_take (i:=9) (v:=?_) rfl (by kernel_rfl) (by kernel_rfl) (by kernel_rfl) (λ_ _ _ h=>h) (Or.inl ⟨by rfl,?_⟩) (by assumption) ?_
       case refine_2=>(intro w hSw;(try dsimp only at hSw);go_simp;(try with_reducible rfl))
       simp only[Act.put,List.setIfInBounds_toArray,List.set_cons_zero,List.set_cons_succ];refine wpAnyH_take (i:=10) (v:=?_) rfl (by kernel_rfl) (by kernel_rfl) (by kernel_rfl) (λ_ _ _ h=>h) (Or.inl ⟨by rfl,?_⟩) (by assumption) ?_
       case refine_2=>(intro w hSw;(try dsimp only at hSw);go_simp;(try with_reducible rfl))
       simp only[Act.put,List.setIfInBounds_toArray,List.set_cons_zero,List.set_cons_succ];refine wpAnyH_take (i:=11) (v:=?_) rfl (by kernel_rfl) (by kernel_rfl) (by kernel_rfl) (λ_ _ _ h=>h) (Or.inl ⟨by rfl,?_⟩) (by assumption) ?_
       case refine_2=>(intro w hSw;(try dsimp only at hSw);go_simp;(try with_reducible rfl))
       simp only[Act.put,List.setIfInBounds_toArray,List.set_cons_zero,List.set_cons_succ];refine wpAnyH_take (i:=12) (v:=?_) rfl (by kernel_rfl) (by kernel_rfl) (by kernel_rfl) (λ_ _ _ h=>h) (Or.inl ⟨by rfl,?_⟩) (by assumption) ?_
       case refine_2=>(intro w hSw;(try dsimp only at hSw);go_simp;(try with_reducible rfl))
       simp only[Act.put,List.setIfInBounds_toArray,List.set_cons_zero,List.set_cons_succ];refine wpAnyH_take (i:=13) (v:=?_) rfl (by kernel_rfl) (by kernel_rfl) (by kernel_rfl) (λ_ _ _ h=>h) (Or.inl ⟨by rfl,?_⟩) (by assumption) ?_
       case refine_2=>(intro w hSw;(try dsimp only at hSw);go_simp;(try with_reducible rfl))
       simp only[Act.put,List.setIfInBounds_toArray,List.set_cons_zero,List.set_cons_succ];refine wpAnyH_take (i:=14) (v:=?_) rfl (by kernel_rfl) (by kernel_rfl) (by kernel_rfl) (λ_ _ _ h=>h) (Or.inl ⟨by rfl,?_⟩) (by assumption) ?_
       case refine_2=>(intro w hSw;(try dsimp only at hSw);go_simp;(try with_reducible rfl))
       simp only[Act.put,List.setIfInBounds_toArray,List.set_cons_zero,List.set_cons_succ];refine wpAnyH_take (i:=15) (v:=?_) rfl (by kernel_rfl) (by kernel_rfl) (by kernel_rfl) (λ_ _ _ h=>h) (Or.inl ⟨by rfl,?_⟩) (by assumption) ?_
       case refine_2=>(intro w hSw;(try dsimp only at hSw);go_simp;(try with_reducible rfl))
       simp only[Act.put,List.setIfInBounds_toArray,List.set_cons_zero,List.set_cons_succ];refine wpAnyH_take (i:=16) (v:=?_) rfl (by kernel_rfl) (by kernel_rfl) (by kernel_rfl) (λ_ _ _ h=>h) (Or.inl ⟨by rfl,?_⟩) (by assumption) ?_
       case refine_2=>(intro w hSw;(try dsimp only at hSw);go_simp;(try with_reducible rfl))
       simp only[Act.put,List.setIfInBounds_toArray,List.set_cons_zero,List.set_cons_succ];refine wpAnyH_ready (rs:=[17]) (by kernel_rfl) (by simp) ?_;refine AllReadyH.cons rfl (λK hK=>?_) AllReadyH.nil;go_simp;refine hK.out _ _ (⟨d5b,HK _ ((Fr.refl _ w6).drew.alloc _)⟩) (λhHeld=>?_);clear hK K;try simp only[Act.put,List.setIfInBounds_toArray,List.set_cons_zero,List.set_cons_succ]
       refine wpAnyH_ready (rs:=[18]) (by kernel_rfl) (by simp) ?_;refine AllReadyH.cons rfl (λK hK=>?_) AllReadyH.nil;refine step_append (v:= .slice A v.length C) (n:=v.length) (m:=1) (xs:=aO v) (news:=[.string (bs nm),.int .i64 (t:Nat),.int .i64 (k:Nat)]) (by rfl) _ _ (by rfl) zF (by rfl) (by rfl) HV HR (by simp[Value.oneCell']) (by omega) (by unfold maxLen;omega) ?_;intro A3 c3 w8 ho8 hf8 hv8;have X:=HARM.o A3 c3 w8 ho8 hf8 hv8;have S9:=hD X.1.1;have f8:=X.1.2.1;have vlt:=X.1.2.2.1;have v5:=X.1.2.2.2;have K8:=HK.o _ X.2.1;clear ho8 hf8 hv8 X;refine hK.out _ _ (⟨v5,K8⟩) (λhHeld=>?_);clear hK K;try simp only[Act.put,List.setIfInBounds_toArray,List.set_cons_zero,List.set_cons_succ]
       clear K8 hHeld d5a d5b KK HK HARM HV HR;refine wpAnyH_done (by kernel_rfl) ?_ _;refine aCq (L:=19) rfl (λK hK=>?_);go_simp;refine hK _ _ ?_;clear hK K;go_wp2
       go_roundw
       case rel=>exact⟨j+1,v++[⟨nm,t,k⟩],by have:=HJ.o;omega,by go_num,EV2,hD (by rw[List.length_append,List.length_singleton];have:=LN.o;omega),S9⟩
       case measure=>simp[intOf];have:=HJ.o;omega
      | test kind line a q hk hb hq3 hq0=>
       have EV2:=hD (EV.o.trans (aEf v HYN hk HND));obtain⟨ab,e9,nc0⟩:=(HNO.o.fr S6.o.fr (λ_ _ x=>x)).some (by simp);subst e9;obtain⟨b1,q,rfl⟩:∃b1 q',q=b1 :: q':=by
         cases q with
         | nil=>simp at hq0
         | cons b1 q=>exact⟨b1,q,rfl⟩
       have S7:=hD (S6.o.no (fR w6).drew);have CT:=hD (aDi (F:=63) (caps:=pF V P N FN) (S:=λv w=>Vw g w0 V P N FN node v w) (rec:=rec) (vs:=v) (l:=b1 :: q) (b:=ab) (o:=1) (c:=NC - 1) yV
         (λb hbm w' hw'=>HREC.o b v w' (by have:=(hb b hbm).1;have:=HYX.o;omega) (hb b hbm).2 (by have:=LN.o;have:=HM.o;have:=HJ.o;omega) hw')
         (λb _ h=>HFIX.o b v h)
         (λw' hw' j b hjb=>by
           obtain⟨ab',e9,nc1⟩:=(HNO.o.fr hw'.fr (λ_ _ x=>x)).some (by simp);injection e9 with e9;injection e9 with e9;subst e9;rw[Nat.add_comm 1 j];exact nc1 (j+1) (.int .i64 (b:Nat)) (by show (List.map (λx:Nat=>Value.int .i64 (x:Nat)) (b1 :: q))[j]?=_;rw[List.getElem?_map,hjb];rfl))
         hq3 S7)
       have d4:w6.cell? ⟨T,4,none⟩=some (.slice (some ⟨ab,0,none⟩) (a :: b1 :: q).length NC):=(BN.o.cell 4).trans rfl;obtain⟨n,hn⟩:∃n,(b1 :: q).length=n:=⟨_,rfl⟩;have hn2:(a :: b1 :: q).length=n+1:=by rw[<-hn];rfl
       rw[hn2] at d4 hnc;rw[hn] at CT hq3;have hnc2:((n+1:Nat):Int)≤(NC:Int):=by omega
       have hn1:(1:Int)≤(n:Int)+1:=by omega
       have hnc3:(n:Int)+1≤(NC:Int):=by omega
       have hnc4:2≤NC:=by have:(b1 :: q).length=n:=hn;simp at this;omega
       clear nc0 HNO EV hvo hvn hb hn hn2 hq0 S7;rcases hk with rfl|rfl
       focus
        go_wp2_with fail
        refine wp_region_still_tail 13 (by kernel_rfl) (by kernel_rfl) ?_;simp only[List.take_succ_cons,List.take_zero,List.drop_succ_cons,List.drop_zero];iterate 4 still_step
        iterate 3 (with_reducible refine fO (by kernel_rfl) ?_;simp only[Act.put,List.setIfInBounds_toArray,List.set_cons_zero,List.set_cons_succ])
       rotate_left
       focus
        go_wp2_with fail
        refine wp_region_still_tail 13 (by kernel_rfl) (by kernel_rfl) ?_;simp only[List.take_succ_cons,List.take_zero,List.drop_succ_cons,List.drop_zero];iterate 4 still_step
        iterate 3 (with_reducible refine iA (by kernel_rfl) (λK hK=>?_);go_simp;refine hK _ ?_;clear hK K)
       all_goals
        iterate 2 still_step
        iterate 4 (with_reducible refine iA (by kernel_rfl) (λK hK=>?_);go_simp;refine hK _ ?_;clear hK K)
        refine wpStill_nil ?_;change wpList _ _ _ _ _ w6.drew;clear d0 d4 d5 p0 p2 p3 pn pf BN S6 heb;generalize w6.drew=w7 at *;go_wp2_with fail
        refine CT.o.mono ?_;rintro en w8 ⟨rfl,h8⟩;obtain⟨bb,hbb⟩:∃bb,(oM rec (b1 :: q) v).1=bb:=⟨_,rfl⟩;rw[hbb];rw[hbb] at EV2;have S8:=hD h8;have HBB:=hD hbb;clear h8 hbb CT;cases bb with
        | true=>
          go_wp2
          go_ret;rw[wQ (EV2.o.trans (by first|exact if_pos rfl|exact if_pos trivial|simp))];exact⟨rfl,S8⟩
        | false=>
          have EV3:=hD (EV2.o.trans (by first|exact if_neg (by decide)|exact if_neg not_false));have FX:=hD (aAo HFIX _ _ HBB);go_wp2
          go_roundw
          case rel=>exact⟨j+1,(oM rec (b1 :: q) v).2,by have:=HJ.o;omega,by go_num,EV3,hD (by rw[FX.o];have:=LN.o;omega),S8⟩
          case measure=>simp[intOf];have:=HJ.o;omega
      | other nd h0 h1 h2=>
       have EV2:=hD (EV.o.trans (aAv v HYN HND h0 h1 h2));have i0:((nd.kind:Int)==10)=false:=bN.2 (by omega);have i1:((nd.kind:Int)==15)=false:=bN.2 (by omega);have i2:((nd.kind:Int)==16)=false:=bN.2 (by omega);clear h0 h1 h2 EV HNO hvo hvn;go_wp2_with fail
       go_quiet (fail)
       have S7:=hD (S6.o.no ((fR w6).drewN nq));clear d0 d5 p0 p2 p3 pn pf BN S6 heb i0 i1 i2;generalize w6.drewN nq=w7 at *;go_wp2
       go_roundw
       case rel=>exact⟨j+1,v,by have:=HJ.o;omega,by go_num,EV2,hD (by have:=LN.o;omega),S7⟩
       case measure=>simp[intOf];have:=HJ.o;omega
  . have hlt2:¬(j:Int)<(l.length:Int):=by omega
    have HF:=hD (show mE g.p.ns g.p.types g.p.slots node rec l vs=(false,v) from by rw[EQ.o,List.drop_of_length_le (by omega)];rfl);obtain⟨-,-,-,-,-,A,C,d5,ho,hc,hnew⟩:=SS.o.cells;obtain⟨A',c',hb,-,-⟩:=SS.o.vc;have f5:=hb.frozen 0;have vlt:=hb.lt;have hmv:(m:Int)≤(C:Int):=by have:=LN.o;omega
    have hm0:(0:Int)≤(m:Int):=by omega
    have FIN:=hD (show Vw g w0 V P N FN node (v.take m) (wr.setCell ⟨V,0,none⟩ (.slice A m C)) from by
      have e:(v.take m).length=m:=by rw[List.length_take];have:=LN.o;omega
      have o2:=ho.cut (m:=m) LN.o.1;rw[jP] at o2;have:=SS.o.set (us:=v.take m) (A:=A) (c:=C) (by rw[e];exact o2) (by rw[e];intro b hb;exact hnew b (by cases A<;>first|(simp[blk] at hb;done)|exact hb));rw[e] at this;exact this)
    clear hb ho hc hnew SS EQ hj hlt LN;go_wp2
    go_ret;rw[aDx HF.o,HM.o];exact⟨rfl,FIN⟩
end
section
variable {g:PgV}{w0 w w1:World}{V P N FN node:Nat}{vs:List dS}
theorem zM (PG:PgW g w0):∀(f x:Nat) (vs:List dS) (w:World),x<f->(∃nd,g.p.ns[x]?=some nd∧nd.kind=18)->vs.length+300*f≤190000->Vw g w0 V P N FN node vs w ->
  Calls prog 63 (#[.int .i64 (x:Nat)]++pF V P N FN) w λen w'=>en = .returned (.bool (uZ g.p.ns g.p.types g.p.slots node f x vs).1)∧Vw g w0 V P N FN node (uZ g.p.ns g.p.types g.p.slots node f x vs).2 w'
 | 0,x,_,_,h,_,_,_=>absurd h (Nat.not_lt_zero _)
 | f+1,x,vs,w,hx,⟨nd,hnd,hk⟩,hlen,h=>by
  obtain⟨line,l,rfl,h3,hl⟩:=PG.blocks x nd hnd hk;have e:∀v,uZ g.p.ns g.p.types g.p.slots node (f+1) x v=aNr g.p.ns g.p.types g.p.slots node (uZ g.p.ns g.p.types g.p.slots node f) l v:=λv=>by
   rw[uZ,hnd];rfl
  rw[e];exact aEg PG hnd h3 (by omega) (λy v w' hy hb hv hw=>zM PG f y v w' (by omega) hb (by omega) hw) (λy v h=>aIz f y v h) hl h
def wZ (ps:List (List UInt8×Nat)):List dS:=ps.zipIdx.map λq=>⟨q.1.1,q.1.2,q.2⟩
theorem aGf (ps:List (List UInt8×Nat)) (q:List UInt8×Nat):wZ (ps++[q])=wZ ps++[⟨q.1,q.2,ps.length⟩]:=by
 unfold wZ;rw[List.zipIdx_append];simp
theorem zW (ps:List (List UInt8×Nat)):(wZ ps).length=ps.length:=by unfold wZ;simp
def xD (p:fF) (node:Nat) (f:aH):List dS:=
 if (uZ p.ns p.types p.slots node p.ns.length f.body (wZ f.params)).1=true then (uZ p.ns p.types p.slots node p.ns.length f.body (wZ f.params)).2 else []
structure Vr (w0:World) (V:Nat) (RS:List (Nat×TypeId×Array Value)) (vs:List dS) (w:World):Prop where
 fr:Fr nob w0 w
 vc:∃A c,Blk w V 58 #[.slice A vs.length c]∧Own w 62 3 (.slice A vs.length c) vs.length (aO vs)∧∀b,blk (.slice A vs.length c)=some b->w0.heap.size≤b
 hV:w0.heap.size≤V
 rc:∀q∈RS,Blk w q.1 q.2.1 q.2.2∧q.2.1≠62∧q.2.1≠58
theorem Vr.no {RS:List (Nat×TypeId×Array Value)} (h:Vr w0 V RS vs w) (f:Fr nob w w1):Vr w0 V RS vs w1:=by
 obtain⟨A,c,hb,ho,hn⟩:=h.vc;exact⟨h.fr.tr f,⟨A,c,hb.fr f (λx=>x),ho.fr f (λ_ _ x=>x),hn⟩,h.hV,λq hq=>⟨(h.rc q hq).1.fr f (λx=>x),(h.rc q hq).2⟩⟩
theorem Vr.app {RS:List (Nat×TypeId×Array Value)} (h:Vr w0 V RS vs w){A:Option Addr}{c:Nat} (hc:w.cell? ⟨V,0,none⟩=some (.slice A vs.length c)) (f1:Fr nob w w1){v:dS}{A6:Option Addr}{c6:Nat}{w6:World} (ho6:Own w6 62 3 (.slice A6 (vs.length+1) c6) (vs.length+1) (aO vs++[.string (bs v.name),.int .i64 (v.ty:Nat),.int .i64 (v.slot:Nat)]))
  (hf6:Fr (obl (blk (.slice A vs.length c))) w1 w6) (hv6:blk (.slice A6 (vs.length+1) c6)=blk (.slice A vs.length c)∨blk (.slice A6 (vs.length+1) c6)=some w1.heap.size):
  Vr w0 V RS (vs++[v]) (w6.setCell ⟨V,0,none⟩ (.slice A6 (vs.length+1) c6))∧w6.frozen? ⟨V,0,none⟩=false∧V<w6.heap.size∧w6.cell? ⟨V,0,none⟩=some (.slice A vs.length c)∧∀q∈RS,Blk w6 q.1 q.2.1 q.2.2:=by
 have h1:=h.no f1;obtain⟨A',c',hb,ho,hn⟩:=h.vc;have e:w.cell? ⟨V,0,none⟩=some (.slice A' vs.length c'):=(hb.cell 0).trans rfl;rw[hc] at e;injection e with e;injection e with e1 _ e2;subst e1;subst e2;have ho1:=ho.fr f1 (λ_ _ x=>x);have hb1:=hb.fr f1 (λx=>x);have hb6:=hb1.fr hf6 (λhm=>ho1.aD hb1 (by decide) hm);have n1:∀b,blk (.slice A6 (vs.length+1) c6)=some b->w0.heap.size≤b:=λb hb=>by
  rcases hv6 with e|e
  . exact hn b (e ▸ hb)
  . rw[e] at hb;injection hb with hb
    have:=h1.fr.size;omega
 have hlen:(vs++[v]).length=vs.length+1:=by simp
 have f6:Fr nob w0 w6:=h1.fr.trans hf6 (λ_ _ x=>x) (λb hlt hm=>by have:=hn b hm;omega);have f:Fr (bQ V) w6 (w6.setCell ⟨V,0,none⟩ (.slice A6 (vs.length+1) c6)):=(Fr.refl _ w6).setCell _ _ (λ_=>rfl);have rc6:∀q∈RS,Blk w6 q.1 q.2.1 q.2.2:=λq hq=>(h1.rc q hq).1.fr hf6 (λhm=>ho1.aD (h1.rc q hq).1 (λe=>(h1.rc q hq).2.1 e.symm) hm)
 refine⟨⟨f6.trans f (λ_ _ x=>x) (λb hlt hm=>by have hm:b=V:=hm;have:=h.hV;omega),⟨A6,c6,by rw[hlen];exact hb6.setCell 0 _,?_,by rw[hlen];exact n1⟩,h.hV,
  λq hq=>⟨(rc6 q hq).far (p:=⟨V,0,none⟩) ((rc6 q hq).ne hb6 (h.rc q hq).2.2) _,(h.rc q hq).2⟩⟩,hb6.frozen 0,hb6.lt,(hb6.cell 0).trans rfl,rc6⟩
 rw[hlen,iK];exact ho6.far (p:=⟨V,0,none⟩) (ho6.aD hb6 (by decide)) _
end
structure PgX (g:PgV) (ub zb:Nat) (w:World):Prop where
 pw:PgW g w
 ua:g.ua=some ⟨ub,0,none⟩
 un:g.un=g.p.ns.length
 za:g.za=some ⟨zb,0,none⟩
 zn:g.zn=g.p.fs.length
 fn:Own w 3 1 (.slice (some ⟨ub,0,none⟩) g.p.ns.length g.uc) g.p.ns.length (ints g.p.fn)
 sz:Own w 3 1 (.slice (some ⟨zb,0,none⟩) g.p.fs.length g.zc) g.p.fs.length (ints g.p.sizes)
 lf:g.p.fn.length=g.p.ns.length
 lz:g.p.sizes.length=g.p.fs.length
 fewf:g.p.fs.length≤6
 pars:∀f∈g.p.fs,f.params.length≤3
 body:∀f∈g.p.fs,∃nd,g.p.ns[f.body]?=some nd∧nd.kind=18
section
variable {g:PgV}{ub zb:Nat}{w w':World}
theorem PgW.no (h:PgW g w) (f:Fr nob w w'):PgW g w':=⟨h.few,h.tree.no f,h.types.fr f (λ_ _ x=>x),h.slots.fr f (λ_ _ x=>x),h.blocks⟩
theorem PgX.no (h:PgX g ub zb w) (f:Fr nob w w'):PgX g ub zb w':=⟨h.pw.no f,h.ua,h.un,h.za,h.zn,h.fn.fr f (λ_ _ x=>x),h.sz.fr f (λ_ _ x=>x),h.lf,h.lz,h.fewf,h.pars,h.body⟩
theorem mI {t b n c:Nat}{xs:List Value}{v:Value} (h:Own w t 1 (.slice (some ⟨b,0,none⟩) n c) n xs) (hx:xs[x]?=some v) (hl:x<n):w.cell? ⟨b,x,none⟩=some v:=by
 obtain⟨b',e,hc⟩:=h.some (by omega);injection e with e;injection e with e;subst e;exact hc x v hx
theorem PgX.fnc (h:PgX g ub zb w){k:Nat} (hx:g.p.fn[x]?=some k):w.cell? ⟨ub,x,none⟩=some (.int .i64 (k:Nat)):=
 mI h.fn (by unfold ints;rw[List.getElem?_map,hx];rfl) (by rw[<-h.lf];exact (gK hx))
end
theorem vL {w:World}{en:Ending}{p:fF} (h:gZ w en (.good p)) (h2:0<p.ns.length) (h1:0<p.fs.length) (lt:p.types.length=p.ns.length) (ls:p.slots.length=p.ns.length) (lf:p.fn.length=p.ns.length) (lz:p.sizes.length=p.fs.length) (few:p.ns.length≤300) (fewf:p.fs.length≤6) (pars:∀f∈p.fs,f.params.length≤3) (body:∀f∈p.fs,∃nd,p.ns[f.body]?=some nd∧nd.kind=18)
  (bl:∀(x:Nat) (nd:aG),p.ns[x]?=some nd->nd.kind=18->∃line l,nd=⟨18,line,0,[],l⟩∧l.length≤300∧∀y∈l,y<x∧∃c,p.ns[y]?=some c∧StV p y c):
  ∃(g:PgV) (ub zb:Nat),g.p=p∧PgX g ub zb w∧en = .returned (.tuple #[.agg #[.slice (some ⟨g.nb,0,none⟩) p.ns.length g.nc,.slice (some ⟨g.fb,0,none⟩) p.fs.length g.fc,.slice (some ⟨g.tb,0,none⟩) p.ns.length g.tc,.slice (some ⟨g.sb,0,none⟩) p.ns.length g.sc,.slice (some ⟨ub,0,none⟩) p.ns.length g.uc,.slice (some ⟨zb,0,none⟩) p.fs.length g.zc],.int .i64 0,.int .i64 0]):=by
 obtain⟨nv,fv,tv,sv,uv,zv,lvs,pvs,he,h⟩:=h;obtain⟨A1,c1,rfl,_,_⟩:=h.tree.nodes.cap;obtain⟨A2,c2,rfl,_,_⟩:=h.tree.fns.cap;obtain⟨A3,c3,rfl,_,_⟩:=h.types.cap;obtain⟨A4,c4,rfl,_,_⟩:=h.slots.cap;obtain⟨A5,c5,rfl,_,_⟩:=h.fn.cap;obtain⟨A6,c6,rfl,_,_⟩:=h.sizes.cap;have ht:=h.types;have hs:=h.slots;have hu:=h.fn;have hz:=h.sizes;rw[lt] at ht;rw[ls] at hs;rw[lf] at hu;rw[lz] at hz;obtain⟨b1,rfl,_⟩:=h.tree.nodes.some h2;obtain⟨b2,rfl,_⟩:=h.tree.fns.some h1;obtain⟨b3,rfl,_⟩:=ht.some h2;obtain⟨b4,rfl,_⟩:=hs.some h2;obtain⟨b5,rfl,_⟩:=hu.some h2;obtain⟨b6,rfl,_⟩:=hz.some h1;refine⟨⟨b1,c1,b2,c2,b3,c3,b4,c4,some ⟨b5,0,none⟩,p.ns.length,c5,some ⟨b6,0,none⟩,p.fs.length,c6,lvs,pvs,p⟩,b5,b6,rfl,⟨⟨few,h.tree,ht,hs,bl⟩,rfl,rfl,rfl,rfl,hu,hz,lf,lz,fewf,pars,body⟩,?_⟩;rw[he,lt,ls,lf,lz]
end Go.Proofs.YtlbjicjinnnboaaGreatDoor
