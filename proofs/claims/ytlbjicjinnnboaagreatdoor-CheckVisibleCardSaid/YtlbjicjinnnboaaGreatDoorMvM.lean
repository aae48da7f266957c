/- MvM: laws and walks for CheckVisible. -/
import Derived.Test.YtlbjicjinnnboaaGreatDoorUShelf
import Derived.Test.YtlbjicjinnnboaaGreatDoorMvB
import Derived.Test.YtlbjicjinnnboaaGreatDoorMvC
import Derived.Test.YtlbjicjinnnboaaGreatDoorMvA
import Derived.WalkMore
set_option maxHeartbeats 8000000
set_option maxRecDepth 100000
set_option linter.unusedVariables false
set_option linter.unusedSimpArgs false
namespace Go.Proofs.YtlbjicjinnnboaaGreatDoor
open Go.RowKit Go.Proofs.Tryz
variable {w:World}{src:ByteArray}{tb tc g:Nat}{ts:List Tok}
structure PQ where
 i:Nat
 deep:Nat
 e:Nat
 place:Nat
 m:Nat
 nv:Value
 xs:List Value
variable {q:PQ}
def kE (ts:List Tok) (q:PQ):Tok:=ts.getD q.i aDa
def rQ (src:ByteArray) (tb n c:Nat) (q:PQ):Array Value:=#[src,.slice (some (tb,q.i*3)) n c,q.deep,q.e,q.place,q.nv]
structure gM (src:ByteArray) (tb tc:Nat) (ts:List Tok) (g:Nat) (w:World) (q:PQ):Prop where
 blk:Blk w g 82 (rQ src tb (ts.length - q.i) (tc - q.i) q)
 own:Own w 50 5 q.nv q.m q.xs
 toks:∃b0,zF b0 w (tb,ts.length,tc) ts
 room:q.i<ts.length
 newer:∀k,Go.Proofs.YtlbjicjinnnboaaGreatDoor.blk q.nv=some k->g<k
section
variable {src:ByteArray}{tb tc:Nat}{ts:List Tok}{g:Nat}{w w':World}{q:PQ}
theorem gM.no (h:gM src tb tc ts g w q) (f:Fr nob w w'):gM src tb tc ts g w' q:=by
 obtain⟨b0,ht⟩:=h.toks;exact⟨h.blk.fr f (λx=>x),h.own.fr f (λ_ _ x=>x),⟨b0,ht.no f⟩,h.room,h.newer⟩
theorem gM.cap (h:gM src tb tc ts g w q):ts.length<=tc∧tc<=maxLen:=by
 obtain⟨b0,ht⟩:=h.toks;obtain⟨A,c,e,h1,h2⟩:=ht.own.cap;injection e with _ _ e3;subst e3;exact⟨h1,h2⟩
theorem gM.tok (h:gM src tb tc ts g w q):ts[q.i]?=some (kE ts q)∧tb<w.heap.size ∧
  w.cell? (tb,q.i*3)=(kE ts q).kind∧w.cell? (tb,q.i*3+1)=(bs (kE ts q).text)∧w.cell? (tb,q.i*3+2)=(kE ts q).place:=by
 obtain⟨b0,ht⟩:=h.toks;have hi:ts[q.i]?=some (kE ts q):=by
  unfold kE;rw[List.getD,gE h.room];rfl
 obtain⟨g2,hg,_,hlt,hat⟩:=ht.some (by have:=h.room;omega);injection hg with hg;injection hg with hg;subst hg;exact⟨hi,hlt,hat q.i _ hi⟩
theorem gM.cells (h:gM src tb tc ts g w q):g<w.heap.size∧w.cell? (g,0)=src∧w.cell? (g,1)=some (.slice (some (tb,q.i*3)) (ts.length - q.i) (tc - q.i))∧w.cell? (g,2)=q.deep∧w.cell? (g,3)=q.e∧w.cell? (g,4)=q.place∧w.cell? (g,5)=some q.nv:=by
 have hb:=h.blk;refine⟨hb.lt,?_,?_,?_,?_,?_,?_⟩
 . rw[hb.cell 0];rfl
 . rw[hb.cell 1];rfl
 . rw[hb.cell 2];rfl
 . rw[hb.cell 3];rfl
 . rw[hb.cell 4];rfl
 . rw[hb.cell 5];rfl
end
def pW (t:Tok):Value:= .agg #[t.kind,bs t.text,t.place]
theorem tf0 (k:Int) (t:ByteArray) (p:Int) (w:World):(Instr.field 115 (.agg #[k,t,p]) 0).run prog w = .ok k w:=by kernel_rfl
theorem tf1 (k:Int) (t:ByteArray) (p:Int) (w:World):(Instr.field 115 (.agg #[k,t,p]) 1).run prog w = .ok t w:=by kernel_rfl
theorem tf2 (k:Int) (t:ByteArray) (p:Int) (w:World):(Instr.field 115 (.agg #[k,t,p]) 2).run prog w = .ok p w:=by kernel_rfl
theorem jC (h:gM src tb tc ts g w q):
  Calls prog 76 #[(g,())] w λe w'=>e = .returned (pW (kE ts q))∧Fr nob w w':=by
 obtain⟨hg,_,c1,_,_,_,_⟩:=h.cells;obtain⟨_,htb,x0,x1,x2⟩:=h.tok;have hroom:=h.room;have hcap:=h.cap;obtain⟨n,hn⟩:∃n,ts.length - q.i=n+1:=⟨ts.length - q.i - 1,by omega⟩;obtain⟨c,hc⟩:∃c,tc - q.i=c+1:=⟨tc - q.i - 1,by omega⟩;rw[hn,hc] at c1;unfold pW;clear h hn hc hroom hcap;generalize (kE ts q).kind=tk at *;generalize (kE ts q).text=tt at *;generalize (kE ts q).place=tp at *;generalize bs tt=bt at *;have n1:¬g=w.heap.size:=by omega
 have n2:¬tb=w.heap.size:=by omega
 go_enter func76,ntmps76;go_wp2
 refine bodyPost_ret (v:= .agg #[tk,bt,tp]) (by simp[results,results76,go_sem];try rfl) rfl ⟨rfl,(fR w).alloc _⟩
section
variable {src:ByteArray}{tb tc:Nat}{ts:List Tok}{g:Nat}{w w':World}{q q':PQ}
theorem gM.set (h:gM src tb tc ts g w q) (j:Nat) (u:Value) (hn:q'.nv=q.nv) (hm:q'.m=q.m) (hx:q'.xs=q.xs) (hr:q'.i<ts.length)
   (hc:(rQ src tb (ts.length - q.i) (tc - q.i) q).setIfInBounds j u=rQ src tb (ts.length - q'.i) (tc - q'.i) q'):gM src tb tc ts g (w.setCell (g,j) u) q':=by
 obtain⟨b0,ht⟩:=h.toks;have f:Fr (bY g) w (w.setCell (g,j) u):=(Fr.refl _ w).setCell _ _ (λ_=>rfl);have hb:=h.blk;refine⟨?_,?_,⟨b0,ht.own.fr f (λb hb' hm=>ht.own.aD hb (by decide) (by rw[hb',show b=g from hm])),ht.new⟩,hr,by rw[hn];exact h.newer⟩
 . have:=hb.setCell j u
   rwa [hc] at this
 . rw[hn,hm,hx]
   exact h.own.fr f (λb hb' hm=>h.own.aD hb (by decide) (by rw[hb',show b=g from hm]))
theorem gM.aOb (h:gM src tb tc ts g w q) (x:Nat):gM src tb tc ts g (w.setCell (g,U2) x) { q with deep:=x }:=h.set 2 _ rfl rfl rfl h.room rfl
theorem gM.aSj (h:gM src tb tc ts g w q) (x:Nat):gM src tb tc ts g (w.setCell (g,U3) x) { q with e:=x }:=h.set 3 _ rfl rfl rfl h.room rfl
theorem gM.aSi (h:gM src tb tc ts g w q) (x:Nat):gM src tb tc ts g (w.setCell (g,U4) x) { q with place:=x }:=h.set 4 _ rfl rfl rfl h.room rfl
theorem gM.aQk (h:gM src tb tc ts g w q){n c:Nat} (hn:ts.length - q.i=n+1) (hc:tc - q.i=c+1) (h1:0<n):gM src tb tc ts g (w.setCell (g,U1) (.slice (some (tb,(q.i+1)*3)) n c)) { q with i:=q.i+1 }:=by
 have hn2:ts.length - (q.i+1)=n:=by omega
 have hc2:tc - (q.i+1)=c:=by omega
 refine h.set 1 _ rfl rfl rfl (by show q.i+1<ts.length;omega) ?_
 show _=rQ src tb (ts.length - (q.i+1)) (tc - (q.i+1)) { q with i:=q.i+1 }
 rw[hn2,hc2];rfl
end
def oU (ts:List Tok) (k:Nat) (q:PQ):Bool:=decide (q.e=0) && decide ((kE ts q).kind=k)
def tT (ts:List Tok) (k:Nat) (q:PQ):PQ:=if q.e=0 then { q with e:=k,place:=(kE ts q).place } else q
def wC (ts:List Tok) (q:PQ):PQ:=if 1<ts.length - q.i then { q with i:=q.i+1 } else q
theorem nV (h:gM src tb tc ts g w q) (k:Nat):
   Calls prog 50 #[(g,()),k] w λe w'=>e = .returned (oU ts k q)∧Fr nob w w':=by
 obtain⟨hg,_,_,_,c3,_,_⟩:=h.cells;have HN:=hD (jC h);unfold oU;unfold pW at HN;clear h;generalize (kE ts q).kind=tk at *;by_cases he:q.e=0
 . have heb:((q.e:Int)==0)=true:=by rw[he];rfl
   rw[decide_eq_true he,Bool.true_and];clear he;have hk:((tk:Int)==(k:Int))=decide (tk=k):=by
    by_cases h2:tk=k
    . rw[decide_eq_true h2,h2];simp
    . rw[decide_eq_false h2];exact bN.2 (by omega)
   have HK:=hD hk;clear hk;go_enter func50,ntmps50;go_wp2_with fail
   refine HN.o.mono ?_;rintro e w2 ⟨rfl,hf⟩;have F:=hD hf;have ff:=tf0;clear hf;go_wp2
   go_ret;exact⟨by rw[<-HK.o];simp,F⟩
 . have heb:((q.e:Int)==0)=false:=bN.2 (by omega)
   rw[decide_eq_false he,Bool.false_and];clear he;go_enter func50,ntmps50;go_wp2
   go_ret;exact⟨rfl,Fr.refl _ _⟩
theorem lC (h:gM src tb tc ts g w q) (k:Nat):
   Calls prog 119 #[(g,()),k] w λe w'=>e = .returned (.tuple #[])∧gM src tb tc ts g w' (tT ts k q)∧FrR g w w':=by
 obtain⟨hg,_,_,_,c3,_,_⟩:=h.cells;have HN:=hD (jC h);have H:=hD h;unfold pW at HN;by_cases he:q.e=0
 . have heb:((q.e:Int)==0)=true:=by rw[he];rfl
   have e1:tT ts k q={ q with e:=k,place:=(kE ts q).place }:=by unfold tT;rw[if_pos he]
   rw[e1];clear e1 he h;generalize (kE ts q).place=tp at *;go_enter func119,ntmps119;go_wp2_with fail
   refine HN.o.mono ?_;rintro e w2 ⟨rfl,hf⟩;have F:=hD hf;have H2:=hD (H.o.no hf);clear hf c3 hg;obtain⟨hg,_,_,_,c3,c4,_⟩:=H2.o.cells;have ff:=tf2;have f3:=H2.o.blk.frozen 3;have f4:=H2.o.blk.frozen 4;go_wp2
   refine fK rfl rfl ⟨rfl,(H2.o.aSj k).aSi tp,?_⟩;exact ((F.o.aGf.setCell (g,U3) _ (M:=bY g) (λ_=>rfl)).setCell (g,U4) _ (λ_=>rfl)).mono (λk _ e=> .inl e)
 . have heb:((q.e:Int)==0)=false:=bN.2 (by omega)
   have e1:tT ts k q=q:=by unfold tT;rw[if_neg he]
   rw[e1];clear e1 he h;go_enter func119,ntmps119;go_wp2
   refine fK rfl rfl ⟨rfl,H,Fr.refl _ _⟩
def qIs (ts:List Tok) (zs:List ByteArray) (q:PQ):Bool:=decide (q.e=0) && (decide ((kE ts q).kind=5) || decide ((kE ts q).kind=4)) && isIn zs (kE ts q).text
theorem qV {b:Nat}{ss:List ByteArray} (hb:Blk w b 9 (ss.map Value.string).toArray) (n:Nat) (hn:ss.length=n) (hm:n<=9223372036854775807) (x:ByteArray):
   Calls prog 122 #[(b,n,n),x] w λe w'=>
    e = .returned (isIn ss x.data.toList)∧w'=w:=by
 refine (slices_Contains_string _ _ _ _ ss x _ (by omega) hm (λj hj=>?_)).mono ?_
 . rw[Nat.zero_add,hb.cell j]
   simp[List.getD,hj]
 . rintro e w' ⟨rfl,rfl⟩
   rw[aA5 (by omega),sM];exact⟨rfl,rfl⟩
theorem aAf (h:gM src tb tc ts g w q) (zs:List ByteArray) (b n:Nat) (hb:Blk w b 9 (zs.map Value.string).toArray) (hn:zs.length=n) (hn1:n<=1000):
   Calls prog 83 #[(g,()),(b,n,n)] w λe w'=>e = .returned (qIs ts zs q)∧Fr nob w w':=by
 have HN:=hD (jC h);have H:=hD h;have HB:=hD hb;have HNN:=hD hn;unfold qIs;unfold pW at HN;have hbt:(bs (kE ts q).text).data.toList=(kE ts q).text:=rfl;have HBT:=hD hbt;clear h hb hn hbt;generalize (kE ts q).kind=tk at *;generalize (kE ts q).text=tt at *;generalize (kE ts q).place=tp at *;generalize bs tt=bt at *;obtain⟨z,hz⟩:∃z,isIn zs tt=z:=⟨_,rfl⟩;rw[hz];have HZ:=hD hz;clear hz;by_cases he:q.e=0
 . have heb:((q.e:Int)==0)=true:=by rw[he];rfl
   rw[decide_eq_true he,Bool.true_and];clear he;by_cases h5:tk=5
   . have h5b:((tk:Int)==5)=true:=by rw[h5];rfl
     rw[decide_eq_true h5,Bool.true_or,Bool.true_and];clear h5;go_enter func83,ntmps83;go_wp2_with fail
     refine HN.o.mono ?_;rintro e w2 ⟨rfl,hf⟩;have H2:=hD (H.o.no hf);have B2:=hD (HB.o.fr hf (λx=>x));have F2:=hD (hf.alloc (.cells #[tk,bt,tp] 115));have HC:=hD (qV (w:=w2.alloc (.cells #[tk,bt,tp] 115)) (B2.o.alloc _) n HNN (by omega) bt);rw[HBT.o,HZ.o] at HC;clear hf;have c3':(w2.alloc (.cells #[tk,bt,tp] 115)).cell? (g,3)=q.e:=((H2.o.no ((fR w2).alloc _)).cells).2.2.2.2.1;go_wp2_with fail
     refine HC.o.mono ?_;rintro e w3 ⟨rfl,rfl⟩;go_wp2
     go_ret;exact⟨by simp,F2⟩
   . have h5b:((tk:Int)==5)=false:=bN.2 (by omega)
     rw[decide_eq_false h5,Bool.false_or];clear h5;by_cases h4:tk=4
     . have h4b:((tk:Int)==4)=true:=by rw[h4];rfl
       rw[decide_eq_true h4,Bool.true_and];clear h4;go_enter func83,ntmps83;go_wp2_with fail
       refine HN.o.mono ?_;rintro e w2 ⟨rfl,hf⟩;have H2:=hD (H.o.no hf);have B2:=hD (HB.o.fr hf (λx=>x));have F2:=hD (hf.alloc (.cells #[tk,bt,tp] 115));have HC:=hD (qV (w:=w2.alloc (.cells #[tk,bt,tp] 115)) (B2.o.alloc _) n HNN (by omega) bt);rw[HBT.o,HZ.o] at HC;clear hf;have c3':(w2.alloc (.cells #[tk,bt,tp] 115)).cell? (g,3)=q.e:=((H2.o.no ((fR w2).alloc _)).cells).2.2.2.2.1;go_wp2_with fail
       refine HC.o.mono ?_;rintro e w3 ⟨rfl,rfl⟩;go_wp2
       go_ret;exact⟨by simp,F2⟩
     . have h4b:((tk:Int)==4)=false:=bN.2 (by omega)
       rw[decide_eq_false h4,Bool.false_and];clear h4;go_enter func83,ntmps83;go_wp2_with fail
       refine HN.o.mono ?_;rintro e w2 ⟨rfl,hf⟩;have H2:=hD (H.o.no hf);have B2:=hD (HB.o.fr hf (λx=>x));have F2:=hD (hf.alloc (.cells #[tk,bt,tp] 115));have HC:=hD (qV (w:=w2.alloc (.cells #[tk,bt,tp] 115)) (B2.o.alloc _) n HNN (by omega) bt);rw[HBT.o,HZ.o] at HC;clear hf;have c3':(w2.alloc (.cells #[tk,bt,tp] 115)).cell? (g,3)=q.e:=((H2.o.no ((fR w2).alloc _)).cells).2.2.2.2.1;go_wp2
       go_ret;exact⟨rfl,F2⟩
 . have heb:((q.e:Int)==0)=false:=bN.2 (by omega)
   rw[decide_eq_false he,Bool.false_and,Bool.false_and];clear he;go_enter func83,ntmps83;go_wp2_with fail
   refine HN.o.mono ?_;rintro e w2 ⟨rfl,hf⟩;have H2:=hD (H.o.no hf);have B2:=hD (HB.o.fr hf (λx=>x));have F2:=hD (hf.alloc (.cells #[tk,bt,tp] 115));have HC:=hD (qV (w:=w2.alloc (.cells #[tk,bt,tp] 115)) (B2.o.alloc _) n HNN (by omega) bt);rw[HBT.o,HZ.o] at HC;clear hf;have c3':(w2.alloc (.cells #[tk,bt,tp] 115)).cell? (g,3)=q.e:=((H2.o.no ((fR w2).alloc _)).cells).2.2.2.2.1;go_wp2
   go_ret;exact⟨rfl,F2⟩
theorem gM.fr {w':World}{M:Nat->Prop} (h:gM src tb tc ts g w q) (f:Fr M w w') (hg:¬M g) (ht:¬M tb) (hn:∀k,Go.Proofs.YtlbjicjinnnboaaGreatDoor.blk q.nv=some k->¬M k):gM src tb tc ts g w' q:=by
 obtain⟨b0,h0⟩:=h.toks;refine⟨h.blk.fr f hg,h.own.fr f hn,⟨b0,h0.own.fr f (λk hk hm=>?_),h0.new⟩,h.room,h.newer⟩;have hk2:k=tb:=by simp[Go.Proofs.YtlbjicjinnnboaaGreatDoor.blk] at hk;omega
 subst hk2;exact ht hm
theorem aGo {r:Nat}{cs:Array Value} (h:Blk w r 115 cs) (hs:cs.size=3) (a b c:Value):Blk (((w.setCell (r,()) a).setCell (r,U1) b).setCell (r,U2) c) r 115 #[a,b,c]:=by
 have h3:=((h.setCell 0 a).setCell 1 b).setCell 2 c;obtain⟨l⟩:=cs
 match l,hs with
 | [x,y,z],_=>simpa using h3
theorem nS (h:gM src tb tc ts g w q):
   Calls prog 120 #[(g,())] w λe w'=>e = .returned (pW (kE ts q))∧gM src tb tc ts g w' (wC ts q)∧FrR g w w':=by
 have A0:Hd (Fr nob w (w.alloc (.cells #[U0,.string ⟨#[]⟩,U0] 115))):=(fR w).alloc _;have H:=hD (h.no A0);have HN:=hD (jC H);have hroom:=h.room;have hcap:=h.cap;obtain⟨n,hn⟩:∃n,ts.length - q.i=n+1:=⟨ts.length - q.i - 1,by omega⟩;obtain⟨c,hc⟩:∃c,tc - q.i=c+1:=⟨tc - q.i - 1,by omega⟩;unfold wC;rw[hn];unfold pW at HN ⊢;generalize (kE ts q).kind=tk at *;generalize (kE ts q).text=tt at *;generalize (kE ts q).place=tp at *;generalize bs tt=bt at *;have GL:Hd (g<w.heap.size):=h.blk.lt;have TL:=hD (show ¬tb=w.heap.size by have:=h.tok.2.1;omega);clear h;have R0:=hD (show w.heap.size<(w.alloc (.cells #[U0,.string ⟨#[]⟩,U0] 115)).heap.size from by simp);have R1:=hD (Blk.new w 115 #[U0,.string ⟨#[]⟩,U0]);by_cases h1:1<n+1
 case' pos=>
  rw[if_pos h1]
  have hnc:n<=c:=by omega
  obtain⟨n',rfl⟩:∃n',n=n'+1:=⟨n - 1,by omega⟩;obtain⟨c',rfl⟩:∃c',c=c'+1:=⟨c - 1,by omega⟩;have h1i:(1:Int)<((n':Int)+1+1):=by omega
  go_enter func120,ntmps120;go_wp2_with fail
  refine HN.o.mono ?_;rintro e w2 ⟨rfl,hf⟩;have H2:=hD (H.o.no hf);have F2:=hD (A0.o.tr hf);have RB:=hD ((R1.o.fr hf (λx=>x)).alloc (.cells #[tk,bt,tp] 115));have TB:=hD (Blk.new w2 115 #[tk,bt,tp]);have H3:=hD (H2.o.no ((fR w2).alloc (.cells #[tk,bt,tp] 115)));have F3:=hD (F2.o.alloc (.cells #[tk,bt,tp] 115));have ng:¬w.heap.size=g:=λe=>by have:=H.o.blk.lt;exact absurd e (by have:=GL.o;omega)
  have ng2:¬g=w.heap.size:=λe=>ng e.symm
  have nt:¬w2.heap.size=g:=by have:=H2.o.blk.lt;omega
  have nt2:¬g=w2.heap.size:=λe=>nt e.symm
  have nr:¬w.heap.size=w2.heap.size:=by have:=hf.size;have:=R0.o;omega
  have nr2:¬w2.heap.size=w.heap.size:=λe=>nr e.symm
  clear hf;obtain⟨_,_,c1,_,_,_,_⟩:=H3.o.cells;rw[hn,hc] at c1;have f1:=H3.o.blk.frozen 1;have x0:(w2.alloc (.cells #[tk,bt,tp] 115)).cell? (w.heap.size,0)=U0:=by rw[RB.o.cell 0];rfl
  have x1:(w2.alloc (.cells #[tk,bt,tp] 115)).cell? (w.heap.size,1)=some (.string ⟨#[]⟩):=by rw[RB.o.cell 1];rfl
  have x2:(w2.alloc (.cells #[tk,bt,tp] 115)).cell? (w.heap.size,2)=U0:=by rw[RB.o.cell 2];rfl
  have z0:=RB.o.frozen 0;have z1:=RB.o.frozen 1;have z2:=RB.o.frozen 2;have y0:(w2.alloc (.cells #[tk,bt,tp] 115)).cell? (w2.heap.size,0)=tk:=by rw[TB.o.cell 0];rfl
  have y1:(w2.alloc (.cells #[tk,bt,tp] 115)).cell? (w2.heap.size,1)=bt:=by rw[TB.o.cell 1];rfl
  have y2:(w2.alloc (.cells #[tk,bt,tp] 115)).cell? (w2.heap.size,2)=tp:=by rw[TB.o.cell 2];rfl
  go_wp2_with fail
  have HI:=hD (H3.o.aQk hn hc (by omega));rw[show (q.i+1)*3=q.i*3+3 by omega] at HI;have RI:Hd (Blk ((w2.alloc (.cells #[tk,bt,tp] 115)).setCell (g,U1) (.slice (some (tb,q.i*3+3)) (n'+1) (c'+1))) w.heap.size 115 #[U0,.string ⟨#[]⟩,U0]):=RB.o.far (p:=(g,U1)) ng _;have FI:Hd (FrR g w ((w2.alloc (.cells #[tk,bt,tp] 115)).setCell (g,U1) (.slice (some (tb,q.i*3+3)) (n'+1) (c'+1)))):=F3.o.aGf.setCell (g,U1) _ (λ_=> .inl rfl);have RF:=hD (aGo RI rfl tk bt tp);have HF:=hD (HI.o.fr (M:=bY w.heap.size) ((((Fr.refl (bY w.heap.size) _).setCell (w.heap.size,()) tk (λ_=>rfl)).setCell (w.heap.size,U1) bt (λ_=>rfl)).setCell (w.heap.size,U2) tp (λ_=>rfl)) (λe=>ng2 e) (λe=>TL.o e) (λk hk hm=>by
   have hk2:k=w.heap.size:=hm;subst hk2;exact HI.o.own.aD RI (by decide) hk))
  have FF:Hd (FrR g w _):=((FI.o.setCell (w.heap.size,()) tk (λhl=>absurd hl (by show ¬w.heap.size<w.heap.size;omega))).setCell (w.heap.size,U1) bt (λhl=>absurd hl (by show ¬w.heap.size<w.heap.size;omega))).setCell (w.heap.size,U2) tp (λhl=>absurd hl (by show ¬w.heap.size<w.heap.size;omega));clear x0 x1 x2 y0 y1 y2 z0 z1 z2 c1 f1;generalize ((World.setCell (World.setCell _ _ _) _ _).setCell _ _).setCell _ _=wf at *
 case' neg=>
  rw[if_neg h1]
  have hn0:n=0:=by omega
  subst hn0;go_enter func120,ntmps120;go_wp2_with fail
  refine HN.o.mono ?_;rintro e w2 ⟨rfl,hf⟩;have H2:=hD (H.o.no hf);have F2:=hD (A0.o.tr hf);have RB:=hD ((R1.o.fr hf (λx=>x)).alloc (.cells #[tk,bt,tp] 115));have TB:=hD (Blk.new w2 115 #[tk,bt,tp]);have H3:=hD (H2.o.no ((fR w2).alloc (.cells #[tk,bt,tp] 115)));have F3:=hD (F2.o.alloc (.cells #[tk,bt,tp] 115));have ng:¬w.heap.size=g:=λe=>by have:=H.o.blk.lt;exact absurd e (by have:=GL.o;omega)
  have ng2:¬g=w.heap.size:=λe=>ng e.symm
  have nt:¬w2.heap.size=g:=by have:=H2.o.blk.lt;omega
  have nt2:¬g=w2.heap.size:=λe=>nt e.symm
  have nr:¬w.heap.size=w2.heap.size:=by have:=hf.size;have:=R0.o;omega
  have nr2:¬w2.heap.size=w.heap.size:=λe=>nr e.symm
  clear hf;obtain⟨_,_,c1,_,_,_,_⟩:=H3.o.cells;rw[hn,hc] at c1;have f1:=H3.o.blk.frozen 1;have x0:(w2.alloc (.cells #[tk,bt,tp] 115)).cell? (w.heap.size,0)=U0:=by rw[RB.o.cell 0];rfl
  have x1:(w2.alloc (.cells #[tk,bt,tp] 115)).cell? (w.heap.size,1)=some (.string ⟨#[]⟩):=by rw[RB.o.cell 1];rfl
  have x2:(w2.alloc (.cells #[tk,bt,tp] 115)).cell? (w.heap.size,2)=U0:=by rw[RB.o.cell 2];rfl
  have z0:=RB.o.frozen 0;have z1:=RB.o.frozen 1;have z2:=RB.o.frozen 2;have y0:(w2.alloc (.cells #[tk,bt,tp] 115)).cell? (w2.heap.size,0)=tk:=by rw[TB.o.cell 0];rfl
  have y1:(w2.alloc (.cells #[tk,bt,tp] 115)).cell? (w2.heap.size,1)=bt:=by rw[TB.o.cell 1];rfl
  have y2:(w2.alloc (.cells #[tk,bt,tp] 115)).cell? (w2.heap.size,2)=tp:=by rw[TB.o.cell 2];rfl
  go_wp2_with fail
  have FI:Hd (FrR g w _):=F3.o.aGf;have RF:=hD (aGo RB rfl tk bt tp);have HF:=hD (H3.o.fr (M:=bY w.heap.size) ((((Fr.refl (bY w.heap.size) _).setCell (w.heap.size,()) tk (λ_=>rfl)).setCell (w.heap.size,U1) bt (λ_=>rfl)).setCell (w.heap.size,U2) tp (λ_=>rfl)) (λe=>ng2 e) (λe=>TL.o e) (λk hk hm=>by
   have hk2:k=w.heap.size:=hm;subst hk2;exact H3.o.own.aD RB (by decide) hk))
  have FF:Hd (FrR g w _):=((FI.o.setCell (w.heap.size,()) tk (λhl=>absurd hl (by show ¬w.heap.size<w.heap.size;omega))).setCell (w.heap.size,U1) bt (λhl=>absurd hl (by show ¬w.heap.size<w.heap.size;omega))).setCell (w.heap.size,U2) tp (λhl=>absurd hl (by show ¬w.heap.size<w.heap.size;omega));clear x0 x1 x2 y0 y1 y2 z0 z1 z2 c1 f1;generalize ((World.setCell (w2.alloc _) _ _).setCell _ _).setCell _ _=wf at *
 all_goals
  have x0:wf.cell? (w.heap.size,0)=tk:=by rw[RF.o.cell 0];rfl
  have x1:wf.cell? (w.heap.size,1)=bt:=by rw[RF.o.cell 1];rfl
  have x2:wf.cell? (w.heap.size,2)=tp:=by rw[RF.o.cell 2];rfl
  refine bodyPost_ret (v:= .agg #[tk,bt,tp]) (by simp[results,results120,go_sem,x0,x1,x2];try rfl) rfl ⟨rfl,HF,FF⟩
def aRz (ts:List Tok) (X:ByteArray) (q:PQ):PQ:=if qIs ts [X] q=true then wC ts q else q
def aPe (ts:List Tok) (X:ByteArray) (q:PQ):PQ:=if qIs ts [X] q=true then wC ts q else tT ts 20 q
def aPd (ts:List Tok) (q:PQ):List UInt8:=if oU ts 3 q=true then (kE ts q).text else []
def aId (ts:List Tok) (q:PQ):PQ:=if oU ts 3 q=true then wC ts q else tT ts 20 q
theorem aBy (h:gM src tb tc ts g w q) (X:ByteArray):
  Calls prog 118 #[(g,()),X] w λe w'=>e = .returned (qIs ts [X] q)∧gM src tb tc ts g w' (aRz ts X q)∧FrR g w w':=by
 obtain⟨w1,hw1⟩:∃w1,w1=w.alloc (.cells #[X] 9):=⟨_,rfl⟩;have F1:=hD (show Fr nob w w1 from by rw[hw1];exact (fR w).alloc _);have H1:=hD (h.no F1);have B1:=hD (show Blk w1 w.heap.size 9 ([X].map Value.string).toArray from by rw[hw1];exact Blk.new w _ _);have HI:=hD (aAf H1 [X] w.heap.size 1 B1 rfl (by decide));unfold aRz;obtain⟨b,hb⟩:∃b,qIs ts [X] q=b:=⟨_,rfl⟩;rw[hb] at HI ⊢;clear hb h;cases b with
 | false=>
  rw[if_neg (by decide)];go_enter func118,ntmps118;go_wp2_with fail
  rw[<-hw1];clear hw1;refine HI.o.mono ?_;rintro e w2 ⟨rfl,hf⟩;have H2:=hD (H1.o.no hf);have F2:=hD (F1.o.tr hf);clear hf;go_wp2
  go_ret;exact⟨rfl,H2,FrR.no F2⟩
 | true=>
  rw[if_pos rfl];go_enter func118,ntmps118;go_wp2_with fail
  rw[<-hw1];clear hw1;refine HI.o.mono ?_;rintro e w2 ⟨rfl,hf⟩;have H2:=hD (H1.o.no hf);have F2:=hD (F1.o.tr hf);clear hf;go_wp2_with fail
  refine dU (nS H2) λw3 H3 hf=>?_;have F3:=hD (FrR.trans (FrR.no F2) hf);clear hf;go_wp2
  go_ret;exact⟨rfl,H3,F3⟩
theorem aHt (h:gM src tb tc ts g w q) (X:ByteArray):
  Calls prog 78 #[(g,()),X] w λe w'=>e = .returned (.tuple #[])∧gM src tb tc ts g w' (aPe ts X q)∧FrR g w w':=by
 have HI:=hD (aBy h X);unfold aPe;unfold aRz at HI;obtain⟨b,hb⟩:∃b,qIs ts [X] q=b:=⟨_,rfl⟩;rw[hb] at HI ⊢;clear hb h;cases b with
 | false=>
  rw[if_neg (by decide)] at HI ⊢;go_enter func78,ntmps78;go_wp2_with fail
  refine HI.o.mono ?_;rintro e w2 ⟨rfl,h2,hf⟩;have H2:=hD h2;have F2:=hD hf;clear h2 hf;go_wp2_with fail
  refine dU (lC H2 20) λw3 H3 hf=>?_;have F3:=hD (FrR.trans F2 hf);clear hf;go_wp2
  refine fK rfl rfl ⟨rfl,H3,F3⟩
 | true=>
  rw[if_pos rfl] at HI ⊢;go_enter func78,ntmps78;go_wp2_with fail
  refine HI.o.mono ?_;rintro e w2 ⟨rfl,h2,hf⟩;have H2:=hD h2;have F2:=hD hf;clear h2 hf;go_wp2
  refine fK rfl rfl ⟨rfl,H2,F2⟩
theorem aHs (h:gM src tb tc ts g w q):
  Calls prog 79 #[(g,())] w λe w'=>e = .returned (bs (aPd ts q))∧gM src tb tc ts g w' (aId ts q)∧FrR g w w':=by
 have HK:=hD (nV h 3);have H:=hD h;unfold aId aPd;obtain⟨b,hb⟩:∃b,oU ts 3 q=b:=⟨_,rfl⟩;rw[hb] at HK ⊢;clear hb h;cases b with
 | false=>
  rw[if_neg (by decide),if_neg (by decide)];go_enter func79,ntmps79;go_wp2_with fail
  refine HK.o.mono ?_;rintro e w2 ⟨rfl,hf⟩;have H2:=hD (H.o.no hf);have F2:=hD hf;clear hf;go_wp2_with fail
  refine dU (lC H2 20) λw3 H3 hf=>?_;have F3:=hD (FrR.trans (FrR.no F2) hf);clear hf;go_wp2
  go_ret;exact⟨rfl,H3,F3⟩
 | true=>
  rw[if_pos rfl,if_pos rfl];go_enter func79,ntmps79;go_wp2_with fail
  refine HK.o.mono ?_;rintro e w2 ⟨rfl,hf⟩;have H2:=hD (H.o.no hf);have F2:=hD hf;clear hf;go_wp2_with fail
  refine dU (nS H2) λw3 H3 hf=>?_;have F3:=hD (FrR.trans (FrR.no F2) hf);have ff:=tf1;clear hf;unfold pW;go_wp2
  go_ret;exact⟨rfl,H3,F3⟩
def aRy (k line n:Nat) (name:List UInt8) (lv nv:Value) (q:PQ):PQ:={ q with m:=q.m+1,nv:=nv,xs:=q.xs++[.int .i64 k,.int .i64 line,.int .i64 n,.string (bs name),lv] }
theorem vX (h:gM src tb tc ts g w q) (k line:Nat) (name:List UInt8) (A1:Option Addr) (M c1:Nat) (hn:q.m<=1000000):
   Calls prog 126 #[(g,()),k,line,bs name,.slice A1 M c1] w λe w'=>
     e = .returned q.m∧(∃nv,gM src tb tc ts g w' (aRy k line 0 name (.slice A1 M c1) nv q))∧FrR g w w':=by
 have hb:=h.blk;have ho:=h.own;obtain⟨b0,ht⟩:=h.toks;have NW:=hD h.newer;obtain⟨hg,_,_,_,_,_,c5⟩:=h.cells;have f5:=hb.frozen 5;obtain⟨A,c,hnv,hc1,hc2⟩:=ho.cap;rw[hnv] at ho c5 NW;have H:=hD h;have HO:=hD ho;have HB:=hD hb;have HT:=hD ht;have hn2:(q.m:Int)<=1000000:=by omega
 obtain⟨i,deep,er,place,N,nv,xs⟩:=q;dsimp only at *;obtain⟨B,hB⟩:∃B,bs name=B:=⟨_,rfl⟩;have NM:=hD hB;rw[hB];clear h ho hb ht hB hnv;go_enter func126,ntmps126;go_wp2_with (at_builtin;refine aL (v:= .slice A N c) (m:=1) (news:=[k,line,U0,B,.slice A1 M c1]) rfl _ _ rfl aOn rfl rfl (HO.o.alloc _) (Rd.eZ (n:=1) (cs:=[k,line,U0,B,.slice A1 M c1]) (Blk.new _ _ _) rfl (by decide)) (by simp[Value.oneCell']) (by omega) (by unfold maxLen;omega) ?_;intro A3 c3' w3 ho3 hf3 hv3;have O3:=hD ho3;have F3:=hD hf3;have V3:=hD hv3;have B3:=hD ((HB.o.alloc _).fr hf3 (λhm=>HO.o.aD HB (by decide) hm));have g5:=B3.o.frozen 5;have d5:w3.cell? (g,5)=some nv:=(by rw[B3.o.cell 5];rfl);clear ho3 hf3 hv3)
 go_ret;have hFR:FrR g w w3:=by
   refine Fr.trans (M1:=nob) ((fR w).alloc _) F3 (λ_ _ x=>x.elim) (λk2 hk2 hm=>?_);obtain⟨cur,hcur⟩:=HO.o.ty (k:=k2) hm;exact .inr ⟨NW k2 hm,cur,_,hcur⟩
 have hset:Fr (bY g) w3 (w3.setCell (g,U5) (.slice A3 (N+1) c3')):=(Fr.refl (bY g) w3).setCell _ _ (λ_=>rfl);have hFR2:FrR g w (w3.setCell (g,U5) (.slice A3 (N+1) c3')):=FrR.trans hFR (hset.mono (λk _ e=> .inl e));refine⟨by first|rfl|simp,⟨.slice A3 (N+1) c3',⟨?_,?_,⟨b0,?_⟩,H.o.room,λk2 hk2=>?_⟩⟩,hFR2⟩
 . exact B3.o.setCell 5 _
 . have:=O3.o
   rw[<-NM.o] at this;exact this.fr hset (λb hb' hm=>O3.o.aD B3 (by decide) (by rw[hb',show b=g from hm]))
 . exact⟨HT.o.own.frR HB (by decide) (by decide) hFR2,HT.o.new⟩
 . have hk3:blk (.slice A3 (N+1) c3')=some k2:=hk2
   rcases V3.o with e|e
   . exact NW k2 (by rw[<-e];exact hk3)
   . rw[e] at hk3
     injection hk3 with hk3;have:=HB.o.lt;simp at hk3;omega
end Go.Proofs.YtlbjicjinnnboaaGreatDoor
namespace Go.Proofs.YtlbjicjinnnboaaGreatDoor.Lx
open Go.RowKit Go.Proofs.Tryz
theorem jJ (c:Int) (w:World):Calls prog 111 #[.int .u8 c] w λe w'=>e = .returned (bC c)∧w=w':=by
 unfold bC;go_enter func111,ntmps111;go_wp2
 all_goals (go_ret;simp_all;try omega)
theorem jX (c:Int) (w:World):Calls prog 113 #[.int .u8 c] w λe w'=>e = .returned (fU c)∧w=w':=by
 unfold fU;go_enter func113,ntmps113;go_wp2
 all_goals (go_ret;simp_all;try omega)
theorem uH (c:Int) (w:World):Calls prog 153 #[.int .u8 c] w λe w'=>e = .returned (bA c)∧w=w':=by
 unfold bA;go_enter func153,ntmps153;go_wp2_with (first|(go_at_call 113;refine bE (jX _ _) ?_)|(go_at_call 111;refine bE (jJ _ _) ?_))
 all_goals (go_ret;simp_all;try omega)
theorem aCc (c:Int) (w:World):Calls prog 74 #[.int .u8 c] w λe w'=>e = .returned (bW c)∧w=w':=by
 unfold bW;go_enter func74,ntmps74;go_wp2
 all_goals (go_ret;simp_all;try omega)
theorem yA (c:Int) (w:World):Calls prog 155 #[.int .u8 c] w λe w'=>e = .returned (dD c)∧w=w':=by
 unfold dD;go_enter func155,ntmps155;go_wp2
 all_goals (go_ret;simp_all;try omega)
theorem aHg (s:ByteArray) (hs:s.size<=9223372036854775807) (w:World):
  Calls prog 73 #[s,.func (.func 111) #[] #[]] w λe w'=>e = .returned (runN bC s.data.toList)∧w=w':=by
 have hl:s.data.toList.length=s.size:=by simp
 have HL:=hD hl;clear hl;go_enter func73,ntmps73;go_wp2
 go_loopw [5,8] (λ_ i w'=>∃k:Nat,k<=s.size∧i = .int .i64 k∧w=w'∧Hd (runN bC s.data.toList=k+runN bC (s.data.toList.drop k))) (λ_ i _=>s.size - (intOf i).toNat)
 case atStart=>exact⟨0,aA4 _,rfl,rfl,hD (by simp)⟩
 case round=>
  obtain⟨k,hk,rfl,rfl,H⟩:=hrel;by_cases hlt:k<s.size
  . have hst:=hD (fP bC s.data.toList k (by rw[HL.o];exact hlt))
    rw[bX s k hlt] at hst;by_cases hb:bC ((s[k]'hlt).toNat:Int)=true
    . have HB:=hD hb
      go_wp2_with (go_at_call 111;refine bE (jJ _ _) ?_)
      go_roundw
      case rel=>exact⟨k+1,by omega,by go_num,trivial,hD (by rw[H.o,hst.o,if_pos HB.o];omega)⟩
      case measure=>simp[intOf];omega
    . have hb':bC ((s[k]'hlt).toNat:Int)=false:=by simpa using hb
      have HB:=hD hb;clear hb;go_wp2_with (go_at_call 111;refine bE (jJ _ _) ?_)
      go_ret;exact⟨by rw[H.o,hst.o,if_neg HB.o];simp,rfl⟩
  . have h0:runN bC (s.data.toList.drop k)=0:=by rw[List.drop_of_length_le (by rw[HL.o];omega)];rfl
    have H0:=hD h0;clear h0;go_wp2
    go_ret
    exact ⟨by rw [H.o, H0.o]; have : k = s.size := by omega
              subst this; rfl, rfl⟩
theorem aDo (s:ByteArray) (hs:s.size<=9223372036854775807) (w:World):
  Calls prog 73 #[s,.func (.func 153) #[] #[]] w λe w'=>e = .returned (runN bA s.data.toList)∧w=w':=by
 have hl:s.data.toList.length=s.size:=by simp
 have HL:=hD hl;clear hl;go_enter func73,ntmps73;go_wp2
 go_loopw [5,8] (λ_ i w'=>∃k:Nat,k<=s.size∧i = .int .i64 k∧w=w'∧Hd (runN bA s.data.toList=k+runN bA (s.data.toList.drop k))) (λ_ i _=>s.size - (intOf i).toNat)
 case atStart=>exact⟨0,aA4 _,rfl,rfl,hD (by simp)⟩
 case round=>
  obtain⟨k,hk,rfl,rfl,H⟩:=hrel;by_cases hlt:k<s.size
  . have hst:=hD (fP bA s.data.toList k (by rw[HL.o];exact hlt))
    rw[bX s k hlt] at hst;by_cases hb:bA ((s[k]'hlt).toNat:Int)=true
    . have HB:=hD hb
      go_wp2_with (go_at_call 153;refine bE (uH _ _) ?_)
      go_roundw
      case rel=>exact⟨k+1,by omega,by go_num,trivial,hD (by rw[H.o,hst.o,if_pos HB.o];omega)⟩
      case measure=>simp[intOf];omega
    . have hb':bA ((s[k]'hlt).toNat:Int)=false:=by simpa using hb
      have HB:=hD hb;clear hb;go_wp2_with (go_at_call 153;refine bE (uH _ _) ?_)
      go_ret;exact⟨by rw[H.o,hst.o,if_neg HB.o];simp,rfl⟩
  . have h0:runN bA (s.data.toList.drop k)=0:=by rw[List.drop_of_length_le (by rw[HL.o];omega)];rfl
    have H0:=hD h0;clear h0;go_wp2
    go_ret
    exact ⟨by rw [H.o, H0.o]; have : k = s.size := by omega
              subst this; rfl, rfl⟩
theorem aLt (s:ByteArray) (hs:s.size<=9223372036854775807) (w:World):
  Calls prog 73 #[s,.func (.func 74) #[] #[]] w λe w'=>e = .returned (runN bW s.data.toList)∧w=w':=by
 have hl:s.data.toList.length=s.size:=by simp
 have HL:=hD hl;clear hl;go_enter func73,ntmps73;go_wp2
 go_loopw [5,8] (λ_ i w'=>∃k:Nat,k<=s.size∧i = .int .i64 k∧w=w'∧Hd (runN bW s.data.toList=k+runN bW (s.data.toList.drop k))) (λ_ i _=>s.size - (intOf i).toNat)
 case atStart=>exact⟨0,aA4 _,rfl,rfl,hD (by simp)⟩
 case round=>
  obtain⟨k,hk,rfl,rfl,H⟩:=hrel;by_cases hlt:k<s.size
  . have hst:=hD (fP bW s.data.toList k (by rw[HL.o];exact hlt))
    rw[bX s k hlt] at hst;by_cases hb:bW ((s[k]'hlt).toNat:Int)=true
    . have HB:=hD hb
      go_wp2_with (go_at_call 74;refine bE (aCc _ _) ?_)
      go_roundw
      case rel=>exact⟨k+1,by omega,by go_num,trivial,hD (by rw[H.o,hst.o,if_pos HB.o];omega)⟩
      case measure=>simp[intOf];omega
    . have hb':bW ((s[k]'hlt).toNat:Int)=false:=by simpa using hb
      have HB:=hD hb;clear hb;go_wp2_with (go_at_call 74;refine bE (aCc _ _) ?_)
      go_ret;exact⟨by rw[H.o,hst.o,if_neg HB.o];simp,rfl⟩
  . have h0:runN bW (s.data.toList.drop k)=0:=by rw[List.drop_of_length_le (by rw[HL.o];omega)];rfl
    have H0:=hD h0;clear h0;go_wp2
    go_ret
    exact ⟨by rw [H.o, H0.o]; have : k = s.size := by omega
              subst this; rfl, rfl⟩
theorem aHf (s:ByteArray) (hs:s.size<=9223372036854775807) (w:World):
  Calls prog 73 #[s,.func (.func 155) #[] #[]] w λe w'=>e = .returned (runN dD s.data.toList)∧w=w':=by
 have hl:s.data.toList.length=s.size:=by simp
 have HL:=hD hl;clear hl;go_enter func73,ntmps73;go_wp2
 go_loopw [5,8] (λ_ i w'=>∃k:Nat,k<=s.size∧i = .int .i64 k∧w=w'∧Hd (runN dD s.data.toList=k+runN dD (s.data.toList.drop k))) (λ_ i _=>s.size - (intOf i).toNat)
 case atStart=>exact⟨0,aA4 _,rfl,rfl,hD (by simp)⟩
 case round=>
  obtain⟨k,hk,rfl,rfl,H⟩:=hrel;by_cases hlt:k<s.size
  . have hst:=hD (fP dD s.data.toList k (by rw[HL.o];exact hlt))
    rw[bX s k hlt] at hst;by_cases hb:dD ((s[k]'hlt).toNat:Int)=true
    . have HB:=hD hb
      go_wp2_with (go_at_call 155;refine bE (yA _ _) ?_)
      go_roundw
      case rel=>exact⟨k+1,by omega,by go_num,trivial,hD (by rw[H.o,hst.o,if_pos HB.o];omega)⟩
      case measure=>simp[intOf];omega
    . have hb':dD ((s[k]'hlt).toNat:Int)=false:=by simpa using hb
      have HB:=hD hb;clear hb;go_wp2_with (go_at_call 155;refine bE (yA _ _) ?_)
      go_ret;exact⟨by rw[H.o,hst.o,if_neg HB.o];simp,rfl⟩
  . have h0:runN dD (s.data.toList.drop k)=0:=by rw[List.drop_of_length_le (by rw[HL.o];omega)];rfl
    have H0:=hD h0;clear h0;go_wp2
    go_ret
    exact ⟨by rw [H.o, H0.o]; have : k = s.size := by omega
              subst this; rfl, rfl⟩
end Go.Proofs.YtlbjicjinnnboaaGreatDoor.Lx
namespace Go.Proofs.YtlbjicjinnnboaaGreatDoor.Lx
open Go.RowKit Go.Proofs.Tryz
theorem yB (M:Nat) (hM:M<18446744073709551616) (l:List UInt8) (h:dK l) (a:Nat) (ha:a<=M):
  Lib.parseUintM M a l=if M<aO a l then .range else .ok (aO a l):=by
 induction l generalizing a with
 | nil=>
  have:¬M<aO a []:=by show ¬M<a;omega
  rw[Lib.parseUintM,if_neg this];rfl
 | cons c l ih=>
  have hc:=h c (by simp);have hg:=qC (a*10+(c.toNat - 48)) l;rw[Lib.parseUintM,if_pos hc,eB];by_cases h1:1844674407370955162<=a
  . rw[if_pos h1,if_pos (by omega)]
  . rw[if_neg h1]
    by_cases h2:M<a*10+(c.toNat - 48)
    . rw[if_pos h2,if_pos (by omega)]
    . rw[if_neg h2]
      exact ih (λx hx=>h x (by simp[hx])) _ (by omega)
theorem rW (l:List UInt8) (h:dK l) (hne:l≠[]):
  Lib.parseIntB 64 l=if aO 0 l<=9223372036854775807 then .ok (aO 0 l:Int) else .range:=by
 cases l with
 | nil=>exact absurd rfl hne
 | cons c r=>
  have hc:=h c (by simp);have e:Lib.parseUintB 64 (c :: r)=if 18446744073709551615<aO 0 (c :: r) then .range else .ok (aO 0 (c :: r)):=by
    unfold Lib.parseUintB;rw[if_neg (by simp)];generalize hM:2 ^ 64 - 1=M;have hM2:M=18446744073709551615:=by omega
    rw[yB M (by omega) (c :: r) h 0 (by omega),hM2]
  unfold Lib.parseIntB;simp only;rw[if_neg (by omega),e];by_cases h1:18446744073709551615<aO 0 (c :: r)
  . rw[if_pos h1,if_neg (by omega)]
  . rw[if_neg h1]
    simp only;by_cases h2:aO 0 (c :: r)<=9223372036854775807
    . rw[if_pos h2,if_neg (by omega),if_neg (by omega),if_neg (by omega)]
    . rw[if_neg h2,if_pos (by omega)]
structure Vars (w:World):Prop where
 most:∃m,w.cell? ⟨0,0,none⟩=some (.int .i64 m)
 rng : ∃ tp p, w.var? Tryz.prog "strconv.ErrRange" = some #[.iface tp p]
end Go.Proofs.YtlbjicjinnnboaaGreatDoor.Lx
namespace Go.Proofs.YtlbjicjinnnboaaGreatDoor.Lx
open Go.RowKit Go.Proofs.Tryz
variable {w w':World}
theorem aNz {P:Program}{x:String}{cs:Array Value} (h:w.var? P x=some cs) (f:Fr nob w w'):w'.var? P x=some cs:=by
 unfold World.var? at *;cases hg:P.globalNamed x with
 | none=>rw[hg] at h;simp at h
 | some g=>
  rw[hg] at h;simp only[Option.bind_some] at h ⊢;have hlt:g<w.heap.size:=by
   by_cases hlt:g<w.heap.size
   . exact hlt
   . rw[Array.getElem?_eq_none (by omega)] at h;simp at h
  rw[f.block g hlt (λx=>x)];exact h
theorem Vars.fr (h:Vars w) (f:Fr nob w w'):Vars w':=by
 obtain⟨⟨m,hm⟩,tp,p,hr⟩:=h;exact⟨⟨m,(f.cell (World.block_lt_of_cell? _ _ hm) (λx=>x)).trans hm⟩,tp,p,aNz hr f⟩
theorem Fr.aCb (h:Below w.heap.size w w'):Fr nob w w':=⟨h.os,h.tape,h.output,h.size,λk hk _=>h.block k hk⟩
theorem Fr.bytes (e:TypeId) (h:w'=w∨∃t,w'=Lib.bytesWorld w e t):Fr nob w w':=by
 rcases h with rfl|⟨t,rfl⟩
 . exact Fr.refl _ _
 . exact Fr.aCb (Lib.bytesWorld_below _ _ _)
theorem aEs (s:ByteArray) (w:World) (hs:s.size<=281474976710656) (hd:0<runN bC s.data.toList) (hv:Vars w):
   Calls prog 112 #[s] w λe w'=>e = .returned (kR s (jE s.data.toList))∧Fr nob w w':=by
 have hn:=jQ bC s.data.toList;have hn2:runN bC s.data.toList<=s.size:=by simpa using hn
 have hex:(s.extract 0 (runN bC s.data.toList)).data.toList=s.data.toList.take (runN bC s.data.toList):=mJ _ _;have hdg:=oM s.data.toList;have hlen:(s.data.toList.take (runN bC s.data.toList)).length=runN bC s.data.toList:=by rw[List.length_take];omega
 have hsz:(s.extract 0 (runN bC s.data.toList)).size=runN bC s.data.toList:=by simp;omega
 have hr:=hD (aHg s (by omega) );unfold jE;have hp:=rW _ hdg (by intro h;rw[h] at hlen;simp at hlen;omega);rw[<-hex] at hp;generalize runN bC s.data.toList=n at *;obtain⟨tp,p,hrv⟩:=hv.rng;have RV:=hD hrv;have hok:nJ (s.data.toList.take n)=(decide (n<=19) && decide (aO 0 (s.extract 0 n).data.toList<=9223372036854775807)):=by unfold nJ;rw[hlen,hex]
 rw[hok];clear hok hdg hlen hex hn hrv hv;have HP:=hD hp;have HSZ:=hD hsz;clear hp hsz;by_cases h1:aO 0 (s.extract 0 n).data.toList<=9223372036854775807
 . have hp:=HP.o
   rw[if_pos h1] at hp;have HQ:=hD hp;clear hp;rw[decide_eq_true h1];clear h1 HP;by_cases h2:n<=19
   . rw[decide_eq_true h2]
     go_enter func112,ntmps112;go_wp2_with (first|(go_at_call 73;refine bE (hr.o _) ?_)|(go_at_call 152;go_must (refine (strconv_ParseInt_10_at64_ok _ (by (have:=HSZ.o;omega)) _ HQ _).mono ?_;rintro e w2 ⟨rfl,hw⟩;have F2:=hD (Fr.bytes _ hw);(have B:=(Blk.new w 115 #[U0,.string ⟨#[]⟩,U0]).fr F2 (λx=>x));have c0:=B.cell 0;have c1:=B.cell 1;have c2:=B.cell 2;have f0:=B.frozen 0;have f1:=B.frozen 1;have f2:=B.frozen 2;clear B;clear hw)))
     refine bodyPost_ret (v:=kR s (.ok 1 0 n n)) (by simp[results,results112,go_sem,kR,iW,c0,c1,c2];try rfl) rfl ⟨by simp,Fr.wU F2 _ _ _⟩
   . rw[decide_eq_false h2]
     have h3:(19:Int)<(n:Int):=by omega
     clear h2;go_enter func112,ntmps112;go_wp2_with (first|(go_at_call 73;refine bE (hr.o _) ?_)|(go_at_call 152;go_must (refine (strconv_ParseInt_10_at64_ok _ (by (have:=HSZ.o;omega)) _ HQ _).mono ?_;rintro e w2 ⟨rfl,hw⟩;have F2:=hD (Fr.bytes _ hw);(have B:=(Blk.new w 115 #[U0,.string ⟨#[]⟩,U0]).fr F2 (λx=>x));have c0:=B.cell 0;have c1:=B.cell 1;have c2:=B.cell 2;have f0:=B.frozen 0;have f1:=B.frozen 1;have f2:=B.frozen 2;clear B;clear hw)))
     refine bodyPost_ret (v:=kR s (.err 12)) (by simp[results,results112,go_sem,kR,iW,c0,c1,c2];try rfl) rfl ⟨by simp,Fr.wU F2 _ _ _⟩
 . have hp:=HP.o
   rw[if_neg h1] at hp;have HQ:=hD hp;clear hp;rw[decide_eq_false h1];clear h1 HP;rw[Bool.and_false];by_cases h2:n<=19
   case' pos=>
    have h3:(n:Int)<=19:=by omega
   case' neg=>
    have h3:(19:Int)<(n:Int):=by omega
   all_goals
    clear h2;go_enter func112,ntmps112;go_wp2_with (first|(go_at_call 73;refine bE (hr.o _) ?_)|(go_at_call 152;go_must (refine (strconv_ParseInt_10_at64_range_var _ (by (have:=HSZ.o;omega)) HQ tp p _ (aNz RV ((fR w).alloc _))).mono ?_;rintro e w2 ⟨N,rfl,_,_,hb⟩;have F2:=hD (Fr.aCb hb);(have B:=(Blk.new w 115 #[U0,.string ⟨#[]⟩,U0]).fr F2 (λx=>x));have c0:=B.cell 0;have c1:=B.cell 1;have c2:=B.cell 2;have f0:=B.frozen 0;have f1:=B.frozen 1;have f2:=B.frozen 2;clear B;clear hb)))
    refine bodyPost_ret (v:=kR s (.err 12)) (by simp[results,results112,go_sem,kR,iW,c0,c1,c2];try rfl) rfl ⟨by simp,Fr.wU F2 _ _ _⟩
end Go.Proofs.YtlbjicjinnnboaaGreatDoor.Lx
namespace Go.Proofs.YtlbjicjinnnboaaGreatDoor.Lx
open Go.RowKit Go.Proofs.Tryz
theorem aKb:Lib.countB ⟨(List.append [102,110,32,108,101,116,32,105,102,32,101,108,115,101,32,119,104,105,108,101,32,114,101,116,117,114,110,32,112,114,105,110,116,32,105,110,112,117,116,32] [110,101,119,32,108,101,110,32,116,114,117,101,32,102,97,108,115,101,32,105,110,116,32,98,111,111,108,32,116,101,120,116,32,108,105,115,116]).toArray⟩ ⟨#[32]⟩=15:=by kernel_rfl
theorem aGr:Lib.splitB ⟨#[32]⟩ 0 15 ⟨(List.append [102,110,32,108,101,116,32,105,102,32,101,108,115,101,32,119,104,105,108,101,32,114,101,116,117,114,110,32,112,114,105,110,116,32,105,110,112,117,116,32] [110,101,119,32,108,101,110,32,116,114,117,101,32,102,97,108,115,101,32,105,110,116,32,98,111,111,108,32,116,101,120,116,32,108,105,115,116]).toArray⟩=iP:=by kernel_rfl
theorem zQ (w:World) (hv:Vars w):Calls prog 156 #[.string ⟨(List.append [102,110,32,108,101,116,32,105,102,32,101,108,115,101,32,119,104,105,108,101,32,114,101,116,117,114,110,32,112,114,105,110,116,32,105,110,112,117,116,32] [110,101,119,32,108,101,110,32,116,114,117,101,32,102,97,108,115,101,32,105,110,116,32,98,111,111,108,32,116,101,120,116,32,108,105,115,116]).toArray⟩,.string ⟨#[32]⟩] w λe w'=>
  e = .returned (w.heap.size,16,16)∧w'=w.alloc (.cells (iP.map Value.string).toArray 9):=by
 obtain⟨m,hm⟩:=hv.most;refine mR (strings_Split _ _ m w (by decide) hm (by decide)) ?_;rw[aKb,aGr];exact⟨rfl,rfl⟩
theorem aNm:Lib.countB ⟨#[124,124,32,38,38,32,60,61,32,61,61,32,33,61]⟩ ⟨#[32]⟩=4:=by kernel_rfl
theorem aLn:Lib.splitB ⟨#[32]⟩ 0 4 ⟨#[124,124,32,38,38,32,60,61,32,61,61,32,33,61]⟩=kG:=by kernel_rfl
theorem uJ (w:World) (hv:Vars w):Calls prog 156 #[.string ⟨#[124,124,32,38,38,32,60,61,32,61,61,32,33,61]⟩,.string ⟨#[32]⟩] w λe w'=>
  e = .returned (w.heap.size,5,5)∧w'=w.alloc (.cells (kG.map Value.string).toArray 9):=by
 obtain⟨m,hm⟩:=hv.most;refine mR (strings_Split _ _ m w (by decide) hm (by decide)) ?_;rw[aNm,aLn];exact⟨rfl,rfl⟩
theorem among (ss:List ByteArray) (n:Nat) (hn:ss.length=n) (hm:n<=9223372036854775807) (x:ByteArray) (w:World):
   Calls prog 122 #[(w.heap.size,n,n),x] (w.alloc (.cells (ss.map Value.string).toArray 9)) λe w'=>
    e = .returned (isIn ss x.data.toList)∧w'=w.alloc (.cells (ss.map Value.string).toArray 9):=by
 refine (slices_Contains_string _ _ _ _ ss x _ (by omega) hm (λj hj=>?_)).mono ?_
 . have:=(Blk.new w 9 (ss.map Value.string).toArray).cell j
   rw[Nat.zero_add,this];simp[List.getD,hj]
 . rintro e w' ⟨rfl,rfl⟩
   rw[aA5 (by omega),sM];exact⟨rfl,rfl⟩
theorem aLe (s:ByteArray) (w:World) (hv:Vars w):Calls prog 154 #[s] w λe w'=>e = .returned (qF s.data.toList)∧Fr nob w w':=by
 unfold qF;have V:=hD hv;clear hv;go_enter func154,ntmps154;go_wp2_with (first|(go_at_call 156;go_must (refine mR (zQ _ V) ?_))|(go_at_call 122;go_must (refine mR (among iP 16 rfl (by decide) _ w) ?_)))
 go_ret;exact⟨rfl,(fR w).alloc _⟩
theorem wH (s:ByteArray) (w:World) (hs:s.size<=281474976710656) (hv:Vars w):
  Calls prog 114 #[s] w λe w'=>e = .returned (kR s (sJ s.data.toList))∧Fr nob w w':=by
 have hn:=jQ bA s.data.toList;have hn2:runN bA s.data.toList<=s.size:=by simpa using hn
 have hex:(s.extract 0 (runN bA s.data.toList)).data.toList=s.data.toList.take (runN bA s.data.toList):=mJ _ _;have hr:=hD (aDo s (by omega));have HW:=hD (λw' hv'=>aLe (s.extract 0 (runN bA s.data.toList)) w' hv');rw[hex] at HW;unfold sJ;generalize runN bA s.data.toList=n at *;generalize qF (s.data.toList.take n)=b at *;have V:=hD hv;clear hv hex hn;cases b with
 | true=>
  go_enter func114,ntmps114;go_wp2_with (first|(go_at_call 73;refine bE (hr.o _) ?_)|(go_at_call 154;go_must (refine (HW _ (V.o.fr ((fR w).alloc _))).mono ?_;rintro e w2 ⟨rfl,hf⟩;have F2:=hD hf;(have B:=(Blk.new w 115 #[U0,.string ⟨#[]⟩,U0]).fr F2 (λx=>x));have c0:=B.cell 0;have c1:=B.cell 1;have c2:=B.cell 2;have f0:=B.frozen 0;have f1:=B.frozen 1;have f2:=B.frozen 2;clear B;clear hf)))
  refine bodyPost_ret (v:=kR s (.ok 4 0 n n)) (by simp[results,results114,go_sem,kR,iW,c0,c1,c2];try rfl) rfl ⟨by simp,Fr.wU F2 _ _ _⟩
 | false=>
  by_cases h8:8<n
  . have h3:(8:Int)<(n:Int):=by omega
    rw[if_neg (by decide),if_pos h8];clear h8;go_enter func114,ntmps114;go_wp2_with (first|(go_at_call 73;refine bE (hr.o _) ?_)|(go_at_call 154;go_must (refine (HW _ (V.o.fr ((fR w).alloc _))).mono ?_;rintro e w2 ⟨rfl,hf⟩;have F2:=hD hf;(have B:=(Blk.new w 115 #[U0,.string ⟨#[]⟩,U0]).fr F2 (λx=>x));have c0:=B.cell 0;have c1:=B.cell 1;have c2:=B.cell 2;have f0:=B.frozen 0;have f1:=B.frozen 1;have f2:=B.frozen 2;clear B;clear hf)))
    refine bodyPost_ret (v:=kR s (.err 13)) (by simp[results,results114,go_sem,kR,iW,c0,c1,c2];try rfl) rfl ⟨by simp,Fr.wU F2 _ _ _⟩
  . have h3:(n:Int)<=8:=by omega
    rw[if_neg (by decide),if_neg h8];clear h8;go_enter func114,ntmps114;go_wp2_with (first|(go_at_call 73;refine bE (hr.o _) ?_)|(go_at_call 154;go_must (refine (HW _ (V.o.fr ((fR w).alloc _))).mono ?_;rintro e w2 ⟨rfl,hf⟩;have F2:=hD hf;(have B:=(Blk.new w 115 #[U0,.string ⟨#[]⟩,U0]).fr F2 (λx=>x));have c0:=B.cell 0;have c1:=B.cell 1;have c2:=B.cell 2;have f0:=B.frozen 0;have f1:=B.frozen 1;have f2:=B.frozen 2;clear B;clear hf)))
    refine bodyPost_ret (v:=kR s (.ok 3 0 n n)) (by simp[results,results114,go_sem,kR,iW,c0,c1,c2];try rfl) rfl ⟨by simp,Fr.wU F2 _ _ _⟩
end Go.Proofs.YtlbjicjinnnboaaGreatDoor.Lx
namespace Go.Proofs.YtlbjicjinnnboaaGreatDoor.Lx
open Go.RowKit Go.Proofs.Tryz
theorem aLi (s:ByteArray) (w:World) (hs:s.size<=281474976710656) (h0:0<s.size):
   Calls prog 115 #[s] w λe w'=>e = .returned (kR s (nG s.data.toList))∧Fr nob w w':=by
 have hex:(s.extract 1 s.size).data.toList=s.data.toList.drop 1:=Lib.extract_to_end s 1;have hsx:(s.extract 1 s.size).size=s.size - 1:=by simp
 have hn:=jQ dD (s.extract 1 s.size).data.toList;have hn2:runN dD (s.extract 1 s.size).data.toList+1<=s.size:=by
   have:(s.extract 1 s.size).data.toList.length=s.size - 1:=by simp
   omega
 have hr:=hD (aHf (s.extract 1 s.size) (by omega));unfold nG;rw[hex] at hr hn2;have hl:s.data.toList.length=s.size:=by simp
 rw[hl];have hby:=λh=>bX s (runN dD (s.data.toList.drop 1)+1) h
 generalize runN dD (s.data.toList.drop 1)=n at *;clear hn hex hsx hl;by_cases h1:s.size<=n+1
 . rw[if_pos (.inl h1)]
   have h2:(s.size:Int)<=(n:Int)+1:=by omega
   clear hby;go_enter func115,ntmps115;go_wp2_with (go_at_call 73;refine bE (hr.o _) ?_)
   refine bodyPost_ret (v:=kR s (.err 11)) (by simp[results,results115,go_sem,kR,iW];try rfl) rfl ⟨by simp,(fR w).alloc _⟩
 . have h3:n+1<s.size:=by omega
   have hb:=hby h3;clear hby;by_cases hq:((s[n+1]'h3).toNat:Int)=34
   . rw[if_neg (by rw[hb,hq];simp;omega)]
     have hqb:s[n+1]'h3=34:=by
       have:(s[n+1]'h3).toNat=34:=by omega
       exact UInt8.toNat_inj.1 this
     have hi:(n:Int)+1<(s.size:Int):=by omega
     by_cases h12:12<n
     . rw[if_pos h12]
       have h4:(12:Int)<(n:Int):=by omega
       clear hb h1;go_enter func115,ntmps115;go_wp2_with (go_at_call 73;refine bE (hr.o _) ?_)
       refine bodyPost_ret (v:=kR s (.err 4)) (by simp[results,results115,go_sem,kR,iW];try rfl) rfl ⟨by simp,(fR w).alloc _⟩
     . rw[if_neg h12]
       have h4:(n:Int)<=12:=by omega
       clear hb h1;go_enter func115,ntmps115;go_wp2_with (go_at_call 73;refine bE (hr.o _) ?_)
       refine bodyPost_ret (v:=kR s (.ok 2 1 n (n+2))) (by simp[results,results115,go_sem,kR,iW];try rfl) rfl ⟨by simp,(fR w).alloc _⟩
   . rw[if_pos (.inr (by rw[hb];exact hq))]
     have hi:(n:Int)+1<(s.size:Int):=by omega
     have hq1:(((s[n+1]'h3).toNat:Int) != 34)=true:=bne_iff_ne.2 hq;clear hb h1 hq;go_enter func115,ntmps115;go_wp2_with (go_at_call 73;refine bE (hr.o _) ?_)
     refine bodyPost_ret (v:=kR s (.err 11)) (by simp[results,results115,go_sem,kR,iW];try rfl) rfl ⟨by simp,(fR w).alloc _⟩
theorem aRo (ss:List ByteArray) (n:Nat) (hn:ss.length=n) (hm:n<=9223372036854775807) (x:ByteArray) (g:Nat) (w:World) (hB:Blk w g 9 (ss.map Value.string).toArray):
   Calls prog 122 #[(g,n,n),x] w λe w'=>e = .returned (isIn ss x.data.toList)∧w=w':=by
 refine (slices_Contains_string _ _ _ _ ss x _ (by omega) hm (λj hj=>?_)).mono ?_
 . have:=hB.cell j
   rw[Nat.zero_add,this];simp[List.getD,hj]
 . rintro e w' ⟨rfl,rfl⟩
   rw[aA5 (by omega),sM];exact⟨rfl,rfl⟩
theorem aMu (c:Int) (w:World):Calls prog 71 #[.string ⟨#[40,41,123,125,91,93,44,59,61,60,43,45,42,47,37,33]⟩,.int .u8 c] w λe w'=>
  ∃i:Int,e = .returned i∧aOg c=decide (0<=i)∧w'=w:=by
 refine mR (strings_IndexByte _ c w) ?_;exact⟨_,rfl,rfl,rfl⟩
theorem aLp (s:ByteArray) (w:World) (hs:s.size<=281474976710656) (h0:0<s.size) (hv:Vars w):
   Calls prog 116 #[s] w λe w'=>e = .returned (kR s (kH s.data.toList))∧Fr nob w w':=by
 have hl:s.data.toList.length=s.size:=by simp
 have hb:=bX s 0 h0;have hex:(s.extract 0 2).data.toList=s.data.toList.take 2:=mJ _ _;unfold kH;rw[hl,hb];have V:=hD hv;clear hv hl hb;have HA:=hD (λg w' hB=>aRo kG 5 rfl (by decide) (s.extract 0 2) g w' hB);rw[hex] at HA;have e2:aQq (s.data.toList.take 2)=isIn kG (s.data.toList.take 2):=rfl;rw[e2];generalize isIn kG (s.data.toList.take 2)=b at *;have HO:=hD (aMu ((s[0]'h0).toNat:Int));generalize aOg ((s[0]'h0).toNat:Int)=ob at *;clear hex e2;have h3:(0:Int)<(s.size:Int):=by omega
 by_cases h1:1<s.size
 . have h2:(1:Int)<(s.size:Int):=by omega
   have h4:(2:Int)<=(s.size:Int):=by omega
   have hd:decide ((1:Int)<(s.size:Int))=true:=decide_eq_true h2;cases b with
   | true=>
    rw[if_pos ⟨h1,rfl⟩];go_enter func116,ntmps116;go_wp2
    go_region_held3 (λ_=>True) (trivial) (first|(go_at_call 156;with_reducible refine mR (uJ _ (V.o.fr (((fR w).alloc _).drew))) ?_)|(go_at_call 122;with_reducible refine bE (HA.o _ _ (by (have hB:=Blk.new (w.alloc (.cells #[U0,.string ⟨#[]⟩,U0] 115)) 9 (kG.map Value.string).toArray);rw[World.size_alloc] at hB;exact hB.fr ((fR _).drew) (λx=>x))) ?_))
    go_wp2
    refine bodyPost_ret (v:=kR s (.ok 5 0 2 2)) (by simp[results,results116,go_sem,kR,iW];try rfl) rfl ⟨by simp,(((fR w).alloc _).alloc _).drew⟩
   | false=>
    rw[if_neg (by simp)];go_enter func116,ntmps116;go_wp2
    go_region_held3 (λ_=>True) (trivial) (first|(go_at_call 156;with_reducible refine mR (uJ _ (V.o.fr (((fR w).alloc _).drew))) ?_)|(go_at_call 122;with_reducible refine bE (HA.o _ _ (by (have hB:=Blk.new (w.alloc (.cells #[U0,.string ⟨#[]⟩,U0] 115)) 9 (kG.map Value.string).toArray);rw[World.size_alloc] at hB;exact hB.fr ((fR _).drew) (λx=>x))) ?_))
    cases ob with
    | true=>
     go_wp2_with (go_at_call 71;go_must (refine (HO _).mono ?_;rintro e w5 ⟨i,rfl,hob,rfl⟩;have hi:(0:Int)<=i:=of_decide_eq_true hob.symm;clear hob))
     refine bodyPost_ret (v:=kR s (.ok 5 0 1 1)) (by simp[results,results116,go_sem,kR,iW];try rfl) rfl ⟨by simp,(((fR w).alloc _).alloc _).drew⟩
    | false=>
     go_wp2_with (go_at_call 71;go_must (refine (HO _).mono ?_;rintro e w5 ⟨i,rfl,hob,rfl⟩;have hi:i<(0:Int):=Int.not_le.1 (of_decide_eq_false hob.symm);clear hob))
     refine bodyPost_ret (v:=kR s (.err 10)) (by simp[results,results116,go_sem,kR,iW];try rfl) rfl ⟨by simp,(((fR w).alloc _).alloc _).drew⟩
 . rw[if_neg (by omega)]
   have hd:decide ((1:Int)<(s.size:Int))=false:=decide_eq_false (by omega);clear h1;go_enter func116,ntmps116;go_wp2
   go_quiet (fail)
   cases ob with
   | true=>
    go_wp2_with (go_at_call 71;go_must (refine (HO _).mono ?_;rintro e w5 ⟨i,rfl,hob,rfl⟩;have hi:(0:Int)<=i:=of_decide_eq_true hob.symm;clear hob))
    refine bodyPost_ret (v:=kR s (.ok 5 0 1 1)) (by simp[results,results116,go_sem,kR,iW];try rfl) rfl ⟨by simp,Fr.wU ((fR _).drewN _) _ _ _⟩
   | false=>
    go_wp2_with (go_at_call 71;go_must (refine (HO _).mono ?_;rintro e w5 ⟨i,rfl,hob,rfl⟩;have hi:i<(0:Int):=Int.not_le.1 (of_decide_eq_false hob.symm);clear hob))
    refine bodyPost_ret (v:=kR s (.err 10)) (by simp[results,results116,go_sem,kR,iW];try rfl) rfl ⟨by simp,Fr.wU ((fR _).drewN _) _ _ _⟩
end Go.Proofs.YtlbjicjinnnboaaGreatDoor.Lx
namespace Go.Proofs.YtlbjicjinnnboaaGreatDoor.Lx
open Go.RowKit Go.Proofs.Tryz
theorem aJp (s:ByteArray) (w:World) (hs:s.size<=281474976710656) (h0:0<s.size) (hv:Vars w):
   Calls prog 75 #[s] w λe w'=>e = .returned (kR s (firstM s.data.toList))∧Fr nob w w':=by
 have hb:=bX s 0 h0;have h3:(0:Int)<(s.size:Int):=by omega
 have V:=hD hv;clear hv;unfold firstM;by_cases hd:bC (aY s.data.toList 0)=true
 case' pos=>
  rw[if_pos hd]
  have hr:0<runN bC s.data.toList:=by
    have:=fP bC s.data.toList 0 (by simpa using h0);rw[List.drop_zero,if_pos hd] at this;omega
  rw[hb] at hd;clear hb;have HC:=hD (λw' (hf:Fr nob w w')=>aEs s w' hs hr (V.o.fr hf));obtain⟨k,t,n,er,hV⟩:=nX s (jE s.data.toList);rw[hV] at HC ⊢;go_enter func75,ntmps75;go_wp2_with (first|(go_at_call 111;refine bE (jJ _ _) ?_)|(go_at_call 113;refine bE (jX _ _) ?_)|(go_at_call 112;go_must (refine (HC _ ((fR w).alloc _)).mono ?_;rintro e w2 ⟨rfl,hf⟩;have F2:=hD hf;(have B:=(Blk.new w 115 #[U0,.string ⟨#[]⟩,U0]).fr F2 (λx=>x));have c0:=B.cell 0;have c1:=B.cell 1;have c2:=B.cell 2;have f0:=B.frozen 0;have f1:=B.frozen 1;have f2:=B.frozen 2;clear B;clear hf)))
 case' neg=>
  rw[if_neg hd]
  rw[hb] at hd ⊢;have hd':bC ((s[0]'h0).toNat:Int)=false:=by simpa using hd
  clear hd hb;by_cases hl:fU ((s[0]'h0).toNat:Int)=true
  case' pos=>
   rw[if_pos hl]
   have HC:=hD (λw' (hf:Fr nob w w')=>wH s w' hs (V.o.fr hf));obtain⟨k,t,n,er,hV⟩:=nX s (sJ s.data.toList);rw[hV] at HC ⊢;go_enter func75,ntmps75;go_wp2_with (first|(go_at_call 111;refine bE (jJ _ _) ?_)|(go_at_call 113;refine bE (jX _ _) ?_)|(go_at_call 114;go_must (refine (HC _ ((fR w).alloc _)).mono ?_;rintro e w2 ⟨rfl,hf⟩;have F2:=hD hf;(have B:=(Blk.new w 115 #[U0,.string ⟨#[]⟩,U0]).fr F2 (λx=>x));have c0:=B.cell 0;have c1:=B.cell 1;have c2:=B.cell 2;have f0:=B.frozen 0;have f1:=B.frozen 1;have f2:=B.frozen 2;clear B;clear hf)))
  case' neg=>
   rw[if_neg hl]
   have hl':fU ((s[0]'h0).toNat:Int)=false:=by simpa using hl
   clear hl;by_cases hq:((s[0]'h0).toNat:Int)=34
   case' pos=>
    have hq':(((s[0]'h0).toNat:Int)==34)=true:=beq_iff_eq.2 hq
    rw[if_pos hq'];clear hq;have HC:=hD (λw' (hf:Fr nob w w')=>aLi s w' hs h0);obtain⟨k,t,n,er,hV⟩:=nX s (nG s.data.toList);rw[hV] at HC ⊢;go_enter func75,ntmps75;go_wp2_with (first|(go_at_call 111;refine bE (jJ _ _) ?_)|(go_at_call 113;refine bE (jX _ _) ?_)|(go_at_call 115;go_must (refine (HC _ ((fR w).alloc _)).mono ?_;rintro e w2 ⟨rfl,hf⟩;have F2:=hD hf;(have B:=(Blk.new w 115 #[U0,.string ⟨#[]⟩,U0]).fr F2 (λx=>x));have c0:=B.cell 0;have c1:=B.cell 1;have c2:=B.cell 2;have f0:=B.frozen 0;have f1:=B.frozen 1;have f2:=B.frozen 2;clear B;clear hf)))
   case' neg=>
    have hq':(((s[0]'h0).toNat:Int)==34)=false:=by simpa using hq
    rw[if_neg (by rw[hq'];simp)];clear hq;have HC:=hD (λw' (hf:Fr nob w w')=>aLp s w' hs h0 (V.o.fr hf));obtain⟨k,t,n,er,hV⟩:=nX s (kH s.data.toList);rw[hV] at HC ⊢;go_enter func75,ntmps75;go_wp2_with (first|(go_at_call 111;refine bE (jJ _ _) ?_)|(go_at_call 113;refine bE (jX _ _) ?_)|(go_at_call 116;go_must (refine (HC _ ((fR w).alloc _)).mono ?_;rintro e w2 ⟨rfl,hf⟩;have F2:=hD hf;(have B:=(Blk.new w 115 #[U0,.string ⟨#[]⟩,U0]).fr F2 (λx=>x));have c0:=B.cell 0;have c1:=B.cell 1;have c2:=B.cell 2;have f0:=B.frozen 0;have f1:=B.frozen 1;have f2:=B.frozen 2;clear B;clear hf)))
 all_goals
  refine bodyPost_ret (v:= .tuple #[.agg #[k,t,U0],n,er]) (by simp[results,results75,go_sem,c0,c1,c2];try rfl) rfl ⟨by simp,Fr.wU F2 _ _ _⟩
end Go.Proofs.YtlbjicjinnnboaaGreatDoor.Lx
namespace Go.Proofs.YtlbjicjinnnboaaGreatDoor.Lx
open Go.RowKit Go.Proofs.Tryz
section
variable {l:List UInt8}{p:Nat}
end
end Go.Proofs.YtlbjicjinnnboaaGreatDoor.Lx
namespace Go.Proofs.YtlbjicjinnnboaaGreatDoor.Lx
open Go.RowKit Go.Proofs.Tryz
theorem nZ (c:Int) (w:World):Calls prog 71 #[.string ⟨#[32,9,13,10]⟩,.int .u8 c] w λe w'=>
  ∃i:Int,e = .returned i∧fB c=decide (0<=i)∧w'=w:=by
 refine mR (strings_IndexByte _ c w) ?_;exact⟨_,rfl,rfl,rfl⟩
theorem aEy (s:ByteArray) (w:World):Calls prog 72 #[s,.string ⟨#[47,47]⟩] w λe w'=>
  e = .returned (dH s.data.toList)∧w=w':=by
 refine mR (strings_HasPrefix _ _ w) ?_;exact⟨rfl,rfl⟩
theorem aQf (s:ByteArray) (w:World) (hs:s.size<=281474976710656) (hv:Vars w):
   Calls prog 49 #[s] w λe w'=>aRt w.heap.size w' e (wM s.data.toList)∧Fr nob w w':=by
 have hl:s.data.toList.length=s.size:=by simp
 have V:=hD hv;clear hv;unfold wM;rw[hl];have HL:=hD hl;clear hl;by_cases hbig:600<s.size
 . rw[if_pos hbig]
   have h2:(600:Int)<(s.size:Int):=by omega
   clear hbig;go_enter func49,ntmps49;go_wp2
   go_step3
   go_wp2
   rw[Exit.noGoto_ret];go_ret3
   exact⟨rfl,Fr.refl _ _⟩
 . rw[if_neg hbig]
   have h2:(s.size:Int)<=600:=by omega
   have h600:s.size<=600:=by omega
   clear hbig;go_enter func49,ntmps49;go_wp2
   go_step3
   go_wp2
   go_step3
   go_wp2
   go_loopw [5,6] (λl i w'=>∃(k:Nat) (K:List Tok),k<=s.size∧K.length<=k∧i = .int .i64 k∧zF w.heap.size w' l K∧Fr nob w w'∧lexFrom s.data.toList 0=(lexFrom (s.data.toList.drop k) k).pre K) (λ_ i _=>s.size - (intOf i).toNat)
   case atStart=>
    exact⟨0,[],aA4 _,aA1 _,rfl,⟨Own.nil _ _ _,λg hg=>by simp[blk] at hg⟩,Fr.refl _ _,by rw[pre_nil];rfl⟩
   case round=>
    obtain⟨k,K,hks,hKk,rfl,ht,hf,hlx⟩:=hrel;have T:=hD ht;have F:=hD hf;have LX:=hD hlx;have V2:=hD (V.o.fr hf);obtain⟨A,c,rfl,hc,hcm⟩:=ht.own.cap;clear ht hf hlx;by_cases hlt:k<s.size
    . have hR:(s.extract k s.size).data.toList=s.data.toList.drop k:=Lib.extract_to_end s k
      have hRs:(s.extract k s.size).size=s.size - k:=by simp
      have h0:0<(s.data.toList.drop k).length:=by rw[List.length_drop,HL.o];omega
      have hb0:=bX (s.extract k s.size) 0 (by omega);rw[hR] at hb0;by_cases hbl:fB (aY (s.data.toList.drop k) 0)=true
      . have N1:=hD (lI (p:=k) h0 hbl)
        rw[hb0] at hbl;have HB:=hD hbl;clear hbl hb0 hR h0;go_wp2_with (go_at_call 71;go_must (refine (nZ _ _).mono ?_;rintro e w5 ⟨i,rfl,hob,rfl⟩;have hi:(0:Int)<=i:=of_decide_eq_true (hob.symm.trans HB);clear hob))
        go_roundw
        case rel=>exact⟨k+1,K,by omega,by omega,by go_num,T,F,by rw[LX.o,N1.o,List.drop_drop]⟩
        case measure=>simp[intOf];omega
      . have hblf:fB (aY (s.data.toList.drop k) 0)=false:=by simpa using hbl
        clear hbl;have hP:=λw'=>aEy (s.extract k s.size) w'
        rw[hR] at hP;by_cases hrm:dH (s.data.toList.drop k)=true
        . have N1:=hD (jW (p:=k) h0 hblf hrm)
          rw[hrm] at hP;have HP:=hD hP;have hr:=aLt (s.extract k s.size) (by omega);rw[hR] at hr;have hrl:=jQ bW (s.data.toList.drop k);have hr1:1<=runN bW (s.data.toList.drop k):=by
           refine kJ bW _ h0 ?_;cases hd:s.data.toList.drop k with
           | nil=>rw[hd] at h0;simp at h0
           | cons c r=>
            rw[hd] at hrm;unfold dH Lib.hasPrefix at hrm;simp at hrm
            simp[bW,aY,<-hrm.1]
          rw[List.length_drop,HL.o] at hrl;generalize runN bW (s.data.toList.drop k)=n at *;have HR:=hD hr;rw[hb0] at hblf;have HB:=hD hblf;clear hblf hb0 hR h0 hP hr hrm;go_wp2_with (first|(go_at_call 71;go_must (refine (nZ _ _).mono ?_;rintro e w5 ⟨i,rfl,hob,rfl⟩;have hi:i<(0:Int):=Int.not_le.1 (of_decide_eq_false (hob.symm.trans HB));clear hob))|(go_at_call 72;go_must (refine bE (HP _) ?_))|(go_at_call 73;refine bE (HR _) ?_))
          go_roundw
          case rel=>exact⟨k+n,K,by omega,by omega,by go_num,T,F,by rw[LX.o,N1.o,List.drop_drop]⟩
          case measure=>simp[intOf];omega
        . have hrf:dH (s.data.toList.drop k)=false:=by simpa using hrm
          clear hrm;rw[hrf] at hP;have HP:=hD hP;have hF:=λw' hv'=>aJp (s.extract k s.size) w' (by omega) (by omega) hv'
          rw[hR] at hF;cases hone:firstM (s.data.toList.drop k) with
          | err er=>
           have N1:=hD (sN (p:=k) h0 hblf hrf hone);have her:=pJ hone;rw[hone] at hF;simp only[kR,iW] at hF;have HF:=hD hF;rw[hb0] at hblf;have HB:=hD hblf;have he2:((er:Int) != 0)=true:=by simp;omega
           clear hblf hb0 hR h0 hP hF hrf hone her;go_wp2_with (first|(go_at_call 71;go_must (refine (nZ _ _).mono ?_;rintro e w5 ⟨i,rfl,hob,rfl⟩;have hi:i<(0:Int):=Int.not_le.1 (of_decide_eq_false (hob.symm.trans HB));clear hob))|(go_at_call 72;go_must (refine bE (HP _) ?_))|(go_at_call 75;go_must (refine stepM (HF _ V2) λw2 F2=>?_)))
           rw[Exit.noGoto_ret];go_ret3
           rw[LX.o,N1.o];exact⟨rfl,(F.o.tr F2).alloc _⟩
          | ok kd o m n=>
           have N1:=hD (yI (p:=k) h0 hblf hrf hone);obtain⟨hn1,hn2,hom⟩:=jH h0 hone;rw[List.length_drop,HL.o] at hn2;rw[hone] at hF;have htx:(s.extract k s.size).extract o (m+o)=bs (((s.data.toList.drop k).drop o).take m):=by
            rw[<-hR,<-show m+o - o=m by omega,<-Lib.extract_data,show m+o - o+o=m+o by omega,pR]
           simp only[kR,iW] at hF;rw[htx] at hF;generalize ((s.data.toList.drop k).drop o).take m=tx at *;have HF:=hD hF;rw[hb0] at hblf;have HB:=hD hblf;clear hblf hb0 hR h0 hP hF hrf hone hom htx;go_wp2_with (first|(go_at_call 71;go_must (refine (nZ _ _).mono ?_;rintro e w5 ⟨i,rfl,hob,rfl⟩;have hi:i<(0:Int):=Int.not_le.1 (of_decide_eq_false (hob.symm.trans HB));clear hob))|(go_at_call 72;go_must (refine bE (HP _) ?_))|(go_at_call 75;go_must (refine (HF _ V2).mono ?_;rintro e w2 ⟨rfl,hf2⟩;have F2:=hD hf2;have S2:=hD hf2.size;clear hf2))|(at_builtin;refine aL (v:= .slice A K.length c) (m:=1) (news:=[kd,bs tx,k]) rfl _ _ rfl aNv rfl rfl (((T.o.no F2).own.alloc _).alloc _) (Rd.eZ (n:=1) (cs:=[kd,bs tx,k]) (Blk.new2 _ _ _ _) rfl (by decide)) (by simp[Value.oneCell']) (by omega) (by unfold maxLen;omega) ?_;intro A3 c3 w3 ho3 hf3 hv3;have O3:=hD ho3;have F3:=hD hf3;have V3:=hD hv3;clear ho3 hf3 hv3))
           go_roundw
           case rel=>
            refine⟨k+n,K++[⟨kd,tx,k⟩],by omega,by simp;omega,by go_num,⟨?_,λg hg=>?_⟩,?_,?_⟩
            . have e1:dP (K++[⟨kd,tx,k⟩])=dP K++[.int .i64 kd,.string (bs tx),.int .i64 k]:=by simp[dP]
              rw[e1,aA3];exact O3.o
            . rcases V3.o with h|h
              . exact T.o.new g (h ▸ hg)
              . rw[hg] at h;injection h with h
                simp at h
                have:=S2.o;have:=F.o.size;omega
            . exact ((((F.o.tr F2).alloc _).alloc _).trans F3 (λ_ _ x=>x) (λb hb h=>by have:=T.o.new b h;omega))
            . rw[LX.o,N1.o,aIg,List.drop_drop]
           case measure=>simp[intOf];omega
    . have hk:k=s.size:=by omega
      have hend:lexFrom (s.data.toList.drop k) k = .good [⟨0,[],k⟩]:=by rw[List.drop_of_length_le (by rw[HL.o];omega),lex_nil]
      have E1:=hD hend;clear hend hlt;have hge:(s.size:Int)<=(k:Int):=by omega
      clear hk;go_wp2_with (at_builtin;refine aL (v:= .slice A K.length c) (m:=1) (news:=[U0,.string ⟨#[]⟩,k]) rfl _ _ rfl aNv rfl rfl (T.o.own.alloc _) (Rd.eZ (n:=1) (cs:=[U0,.string ⟨#[]⟩,k]) (Blk.new _ _ _) rfl (by decide)) (by simp[Value.oneCell']) (by omega) (by unfold maxLen;omega) ?_;intro A3 c3 w3 ho3 hf3 hv3;have O3:=hD ho3;have F3:=hD hf3;have V3:=hD hv3;clear ho3 hf3 hv3)
      try rw[Exit.noGoto_ret]
      go_ret3
      rw[LX.o,E1.o];refine⟨⟨_,rfl,?_,λg hg=>?_⟩,?_⟩
      . have e1:dP (K++[⟨0,[],k⟩])=dP K++[.int .i64 0,.string ⟨#[]⟩,.int .i64 k]:=by simp[dP,bs]
        rw[e1,aA3];exact O3.o
      . have hg':blk (.slice A3 (K.length+1) c3)=some g:=hg
        rcases V3.o with h|h
        . exact T.o.new g (h ▸ hg')
        . rw[hg'] at h;injection h with h
          simp at h
          have:=F.o.size;omega
      . exact (F.o.alloc _).trans F3 (λ_ _ x=>x) (λb hb h=>by have:=T.o.new b h;omega)
end Go.Proofs.YtlbjicjinnnboaaGreatDoor.Lx
namespace Go.Proofs.YtlbjicjinnnboaaGreatDoor.Lx
open Go.RowKit Go.Proofs.Tryz
theorem aPn (s:ByteArray) (hs:s.size<=281474976710656) (a:Int) (w:World):
  Calls prog 117 #[s,a] w λe w'=>e = .returned (iU s.data.toList a)∧w=w':=by
 have hl:s.data.toList.length=s.size:=by simp
 have hle:=(aJb s.data.toList a).2;rw[hl] at hle;have e:iU s.data.toList a=1+Lib.countByte (s.extract 0 (min (max a 0) (s.size:Int)).toNat).data.toList 10:=by
  unfold iU Lib.countByte;rw[mJ,<-hl,aDb]
 have hm1:(0:Int)<=min (max a 0) (s.size:Int):=by omega
 have hm2:min (max a 0) (s.size:Int)<=(s.size:Int):=by omega
 rw[e] at hle ⊢;have HC:=hD (λw'=>strings_Count_one (s.extract 0 (min (max a 0) (s.size:Int)).toNat) 10 w');generalize Lib.countByte (s.extract 0 (min (max a 0) (s.size:Int)).toNat).data.toList 10=n at *;have hn:(n:Int)<=281474976710656:=by omega
 clear e hl hle;go_enter func117,ntmps117;go_wp2_with (go_at_call 157;go_must (refine mR (HC _) ?_))
 go_ret;exact⟨by congr 2,rfl⟩
end Go.Proofs.YtlbjicjinnnboaaGreatDoor.Lx
namespace Go.Proofs.YtlbjicjinnnboaaGreatDoor
open Go.RowKit Go.Proofs.Tryz
variable {ts:List Tok}{q:PQ}{src:ByteArray}{tb tc g:Nat}{w:World}
def aPf (src:ByteArray) (ts:List Tok) (q:PQ):Nat:=iU src.data.toList (kE ts q).place
theorem aHu (h:gM src tb tc ts g w q) (hs:src.size<=281474976710656):
  Calls prog 77 #[(g,())] w λe w'=>e = .returned (aPf src ts q)∧Fr nob w w':=by
 have HN:=hD (λwx (hx:gM src tb tc ts g wx q)=>jC hx);have H:=hD h;have CK:=hD (show ∀wx:World,Fr nob w wx->wx.cell? (g,0)=src from λwx f=>(h.no f).cells.2.1);have HL:=hD (λwx=>Lx.aPn src hs (kE ts q).place wx);have c0:=CK.o _ (Fr.refl _ _);unfold pW at HN;unfold aPf;clear h;obtain⟨L,hL⟩:∃L,iU src.data.toList ((kE ts q).place:Int)=L:=⟨_,rfl⟩;rw[hL] at HL ⊢;clear hL;have ff:=tf2;go_enter func77,ntmps77;go_wp2_with fail
 go_region_held3 (λwx=>wx.cell? (g,0)=src) (first|exact K2.o|go_keep)
  (first
    | (go_at_call 76;go_loud (refine (HN _ (H.o.no (fR w).drew)).mono ?_);go_loud (rintro e w2 ⟨rfl,hf⟩);go_loud (have F2:=hD ((fR w).drew.tr hf));go_loud (have K2:=hD (CK _ F2));clear hf)
    | (go_at_call 117;go_loud (refine (HL _).mono ?_);go_loud (rintro e w3 ⟨rfl,rfl⟩)))
 go_wp2
 go_ret;exact⟨rfl,F2⟩
def xD:List ByteArray:=[⟨#[105,110,116]⟩,⟨#[98,111,111,108]⟩,⟨#[116,101,120,116]⟩,⟨#[108,105,115,116]⟩]
theorem aMt (l:List UInt8):1+Lib.idxOfS xD (bs l)=(nO l:Int):=by
 unfold nO;have hx:∀x:List UInt8,(bs x=bs l)↔l=x:=λx=>⟨λh=>by have:=congrArg (λb=>b.data.toList) h;simpa[bs] using this.symm,λh=>by rw[h]⟩
 unfold Lib.idxOfS xD;by_cases h1:l=[105,110,116]
 . rw[if_pos h1,h1];rfl
 . rw[if_neg h1]
   by_cases h2:l=[98,111,111,108]
   . rw[if_pos h2,h2];rfl
   . rw[if_neg h2]
     by_cases h3:l=[116,101,120,116]
     . rw[if_pos h3,h3];rfl
     . rw[if_neg h3]
       by_cases h4:l=[108,105,115,116]
       . rw[if_pos h4,h4];rfl
       . rw[if_neg h4]
         have k1:¬(⟨#[105,110,116]⟩:ByteArray)=bs l:=λe=>h1 ((hx [105,110,116]).1 e)
         have k2:¬(⟨#[98,111,111,108]⟩:ByteArray)=bs l:=λe=>h2 ((hx [98,111,111,108]).1 e)
         have k3:¬(⟨#[116,101,120,116]⟩:ByteArray)=bs l:=λe=>h3 ((hx [116,101,120,116]).1 e)
         have k4:¬(⟨#[108,105,115,116]⟩:ByteArray)=bs l:=λe=>h4 ((hx [108,105,115,116]).1 e)
         simp[Lib.idxFromS,k1,k2,k3,k4]
theorem aIb (l:List UInt8) (w:World):Calls prog 121 #[bs l] w λe w'=>e = .returned (nO l)∧Fr nob w w':=by
 have hB:=Blk.new w 9 (xD.map Value.string).toArray;have HI:=hD (slices_Index_string w.heap.size 0 4 4 xD (bs l) (w.alloc (.cells (xD.map Value.string).toArray 9)) (by decide) (by decide) (λj hj=>by
  rw[Nat.zero_add,hB.cell j];simp[List.getD,hj]))
 rw[aA5 (by decide)] at HI;have ht:=aMt l;have F:Hd (Fr nob w (w.alloc (.cells (xD.map Value.string).toArray 9))):=(fR w).alloc _;obtain⟨z,hz⟩:∃z,Lib.idxOfS xD (bs l)=z:=⟨_,rfl⟩;rw[hz] at HI ht;have hz4:nO l<=4:=by unfold nO;(repeat' split)<;>omega
 have hw:IntKind.i64.wrap (1+z)=1+z:=IntWalk.i64_in _ (by omega);have hw1:(-9223372036854775808:Int)<=1+z:=by omega
 have hw2:(1:Int)+z<=9223372036854775807:=by omega
 unfold xD at HI F;rw[<-ht];clear hB hz ht hz4;generalize bs l=x at *;go_enter func121,ntmps121;go_wp2_with fail
 refine HI.o.mono ?_;rintro e w2 ⟨rfl,rfl⟩;go_wp2
 go_ret;exact⟨by first|rfl|simp,F⟩
def aIc (ts:List Tok) (q:PQ):Nat:=if oU ts 4 q=true then nO (kE ts q).text else 0
def aIa (ts:List Tok) (q:PQ):PQ:=if aIc ts q=0 then tT ts 20 q else wC ts q
theorem aDu (h:gM src tb tc ts g w q):
  Calls prog 82 #[(g,())] w λe w'=>e = .returned (aIc ts q)∧gM src tb tc ts g w' (aIa ts q)∧FrR g w w':=by
 have HN:=hD (jC h);have HT:=hD (λwx=>aIb (kE ts q).text wx);have HK:=hD (λwx (hx:gM src tb tc ts g wx q)=>nV hx 4);have H:=hD h;unfold aIa aIc;obtain⟨b,hb⟩:∃b,oU ts 4 q=b:=⟨_,rfl⟩;rw[hb] at HK ⊢;obtain⟨t,ht⟩:∃t,nO (kE ts q).text=t:=⟨_,rfl⟩;rw[ht] at HT ⊢;unfold pW at HN;have ff:=tf1;clear hb ht h;cases b with
 | false=>
  rw[if_neg (by decide),if_pos rfl];go_enter func82,ntmps82;go_wp2_with fail
  refine HN.o.mono ?_;rintro e w2 ⟨rfl,hf⟩;have H2:=hD (H.o.no hf);have F2:=hD hf;clear hf;go_wp2_with fail
  refine stepM (HT _) λw3 hf=>?_;have H3:=hD (H2.o.no hf);have F3:=hD (F2.o.tr hf);clear hf;go_wp2_with fail
  refine stepM (HK _ H3) λw4 hf=>?_;have H4:=hD (H3.o.no hf);have F4:=hD (F3.o.tr hf);clear hf;go_wp2_with fail
  refine dU (lC H4 20) λw5 H5 hf=>?_;have F5:=hD (FrR.trans (FrR.no F4) hf);clear hf;go_wp2
  go_ret;exact⟨rfl,H5,F5⟩
 | true=>
  rw[if_pos rfl];by_cases h0:t=0
  . rw[if_pos h0,h0]
    rw[h0] at HT;go_enter func82,ntmps82;go_wp2_with fail
    refine HN.o.mono ?_;rintro e w2 ⟨rfl,hf⟩;have H2:=hD (H.o.no hf);have F2:=hD hf;clear hf;go_wp2_with fail
    refine stepM (HT _) λw3 hf=>?_;have H3:=hD (H2.o.no hf);have F3:=hD (F2.o.tr hf);clear hf;go_wp2_with fail
    refine stepM (HK _ H3) λw4 hf=>?_;have H4:=hD (H3.o.no hf);have F4:=hD (F3.o.tr hf);clear hf;go_wp2_with fail
    refine dU (lC H4 20) λw5 H5 hf=>?_;have F5:=hD (FrR.trans (FrR.no F4) hf);clear hf;go_wp2
    go_ret;exact⟨rfl,H5,F5⟩
  . rw[if_neg h0]
    have htb:((t:Int)==0)=false:=bN.2 (by omega);go_enter func82,ntmps82;go_wp2_with fail
    refine HN.o.mono ?_;rintro e w2 ⟨rfl,hf⟩;have H2:=hD (H.o.no hf);have F2:=hD hf;clear hf;go_wp2_with fail
    refine stepM (HT _) λw3 hf=>?_;have H3:=hD (H2.o.no hf);have F3:=hD (F2.o.tr hf);clear hf;go_wp2_with fail
    refine stepM (HK _ H3) λw4 hf=>?_;have H4:=hD (H3.o.no hf);have F4:=hD (F3.o.tr hf);clear hf h0;go_wp2_with fail
    refine dU (nS H4) λw5 H5 hf=>?_;have F5:=hD (FrR.trans (FrR.no F4) hf);clear hf;go_wp2
    go_ret;exact⟨rfl,H5,F5⟩
def aIe (ts:List Tok) (q:PQ):Bool:=oU ts 3 q && (decide ((ts.getD (q.i+1) aDa).kind=5) && decide ((ts.getD (q.i+1) aDa).text=[40]))
theorem gM.aTb (h:gM src tb tc ts g w q) (h1:q.i+1<ts.length):
  w.cell? (tb,q.i*3+3)=(ts.getD (q.i+1) aDa).kind∧w.cell? (tb,q.i*3+3+1)=(bs (ts.getD (q.i+1) aDa).text):=by
 obtain⟨b0,ht⟩:=h.toks;have hi:ts[q.i+1]?=some (ts.getD (q.i+1) aDa):=by
  rw[List.getD,gE h1];rfl
 obtain⟨g2,hg,_,hlt,hat⟩:=ht.some (by omega);injection hg with hg;injection hg with hg;subst hg;obtain⟨a,b,_⟩:=hat (q.i+1) _ hi;rw[show (q.i+1)*3=q.i*3+3 by omega] at a b;exact⟨a,b⟩
theorem aQu (ht:dF ts) (hr:q.i<ts.length) (hk:oU ts 3 q=true):q.i+1<ts.length:=by
 by_cases h:q.i+1<ts.length
 . exact h
 . have hl:=ht.last
   rw[show ts.length - 1=q.i by omega] at hl;unfold oU kE at hk;simp only[Bool.and_eq_true,decide_eq_true_eq] at hk;rw[hl] at hk;exact absurd hk.2 (by decide)
theorem aEg (h:gM src tb tc ts g w q) (ht:dF ts):
  Calls prog 187 #[(g,())] w λe w'=>e = .returned (aIe ts q)∧Fr nob w w':=by
 have HK:=hD (nV h 3);have H:=hD h;have hq1:=λhk=>aQu ht h.room hk
 have HCAP:=hD h.cap;unfold aIe;obtain⟨b,hb⟩:∃b,oU ts 3 q=b:=⟨_,rfl⟩;rw[hb] at HK hq1 ⊢;clear hb h;cases b with
 | false=>
  rw[Bool.false_and];clear hq1;go_enter func187,ntmps187;go_wp2_with fail
  refine HK.o.mono ?_;rintro e w2 ⟨rfl,hf⟩;go_wp2
  go_ret;exact⟨rfl,hf⟩
 | true=>
  have h1:=hq1 rfl;have hcap:=HCAP.o;obtain⟨n,hn⟩:∃n,ts.length - q.i=n+1+1:=⟨ts.length - q.i - 2,by omega⟩;obtain⟨c,hc⟩:∃c,tc - q.i=c+1+1:=⟨tc - q.i - 2,by omega⟩;have HN:=hD hn;have HC:=hD hc;rw[Bool.true_and];have HT:=hD (λwx (hx:gM src tb tc ts g wx q)=>hx.aTb h1);generalize hk:(ts.getD (q.i+1) aDa).kind=tk at *;generalize htt:(ts.getD (q.i+1) aDa).text=tt at *;have hbt:(bs tt).toList=tt:=by rw[ByteArray.toList_eq];rfl
  generalize bs tt=bt at *;clear hk htt hn hc h1 hcap hq1;by_cases h5:tk=5
  . have h5b:((tk:Int)==5)=true:=by rw[h5];rfl
    rw[decide_eq_true h5,Bool.true_and];have h40:(bt.toList==[40])=decide (tt=[40]):=by
     rw[hbt];by_cases hx:tt=[40]
     . rw[decide_eq_true hx,hx];rfl
     . rw[decide_eq_false hx];exact bN.2 hx
    obtain⟨z,hz⟩:∃z,decide (tt=[40])=z:=⟨_,rfl⟩;rw[hz] at h40 ⊢;clear hbt h5 hz;go_enter func187,ntmps187;go_wp2_with fail
    refine HK.o.mono ?_;rintro e w2 ⟨rfl,hf⟩;obtain⟨hg,_,c1,_,_,_,_⟩:=(H.o.no hf).cells;obtain⟨x0,x1⟩:=HT.o _ (H.o.no hf);rw[HN.o,HC.o] at c1;have F2:=hD hf;clear hf;go_wp2
    go_ret;exact⟨by simp,F2⟩
  . have h5b:((tk:Int)==5)=false:=bN.2 (by omega)
    rw[decide_eq_false h5,Bool.false_and];clear hbt h5;go_enter func187,ntmps187;go_wp2_with fail
    refine HK.o.mono ?_;rintro e w2 ⟨rfl,hf⟩;obtain⟨hg,_,c1,_,_,_,_⟩:=(H.o.no hf).cells;obtain⟨x0,x1⟩:=HT.o _ (H.o.no hf);rw[HN.o,HC.o] at c1;have F2:=hD hf;clear hf;go_wp2
    go_ret;exact⟨rfl,F2⟩
theorem aAd (h:gM src tb tc ts g w q) (k line n:Nat) (hn:q.m<=1000000):
   Calls prog 233 #[(g,()),k,line,n] w λe w'=>
     e = .returned q.m∧(∃nv,gM src tb tc ts g w' (aRy k line n [] Un nv q))∧FrR g w w':=by
 have HP:=hD (vX h k line [] none 0 0 hn);have hlen:q.xs.length=q.m*5:=h.own.len;have HL:=hD hlen;have hm1:(q.m:Int)<=1000000:=by omega
 rw[show bs []=⟨#[]⟩ from rfl] at HP;clear h hlen;go_enter func233,ntmps233;go_wp2_with fail
 refine HP.o.mono ?_;rintro e w2 ⟨rfl,⟨nv,h2⟩,hf⟩;have H2:=hD h2;have F2:=hD hf;clear h2 hf;obtain⟨hg,_,_,_,_,_,c5⟩:=H2.o.cells;have ho:=H2.o.own;have hnw:=H2.o.newer;change Own w2 50 5 nv (q.m+1) (q.xs++[.int .i64 k,.int .i64 line,.int .i64 (0:Nat),.string (bs []),.slice none 0 0]) at ho;change ∀k,blk nv=some k->g<k at hnw;change w2.cell? ⟨g,5,none⟩=some nv at c5;obtain⟨hl,A,c,rfl,⟨_,hz⟩|⟨nb,cur,rfl,hc0,hb,hnc,hcm,hsz,htk⟩⟩:=ho
 . omega
 . have hr:=hb.frozen (q.m*5+2)
   have hc2:∃u,w2.cell? (nb,q.m*5+2)=some u:=by
     rw[hb.cell];exact⟨_,Array.getElem?_eq_getElem (by rw[hsz];omega)⟩
   obtain⟨u,hu⟩:=hc2;have hlt:(q.m:Int)<(q.m:Int)+1:=by omega
   have hlt2:q.m<q.m+1:=by omega
   have HB:=hD hb;have HNW:=hD hnw;clear hl htk hsz;go_wp2
   go_ret;have hbn:blk (nb,q.m+1,c)=some nb:=by simp[blk];omega
   have hgn:nb≠g:=λe=>HB.o.ne H2.o.blk (by decide) e
   have f:Fr (bY nb) w2 (w2.setCell (nb,q.m*5+2) n):=(Fr.refl _ w2).setCell _ _ (λ_=>rfl);obtain⟨b0,ht⟩:=H2.o.toks;refine⟨rfl,⟨(nb,q.m+1,c),H2.o.blk.fr f (λe=>hgn e.symm),?_,⟨b0,ht.own.fr f (λk2 hk hm=>?_),ht.new⟩,H2.o.room,H2.o.newer⟩,F2.o.trans (f.mono (λk2 _ e=> .inr ⟨?_,?_⟩))⟩
   . have hst:=H2.o.own.store (g:=nb) hbn (q.m*5+2) n
     have e:(aRy k line 0 [] Un (nb,q.m+1,c) q).xs.set (q.m*5+2) n=(aRy k line n [] Un (nb,q.m+1,c) q).xs:=by
      show (q.xs++([k,line,(0:Nat),bs [],Un]:List Value)).set (q.m*5+2) n=q.xs++([k,line,n,bs [],Un]:List Value)
      rw[<-HL.o,List.set_append_right _ _ (by omega),show q.xs.length+2 - q.xs.length=2 by omega];rfl
     rw[e] at hst;exact hst
   . exact ht.own.aD HB (by decide) (by rw[hk,show k2=nb from hm])
   . rw[show k2=nb from e];exact HNW nb hbn
   . exact⟨cur,_,by rw[show k2=nb from e];exact HB⟩
end Go.Proofs.YtlbjicjinnnboaaGreatDoor
