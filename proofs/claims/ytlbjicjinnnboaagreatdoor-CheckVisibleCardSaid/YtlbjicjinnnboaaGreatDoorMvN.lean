/- MvN: laws and walks for CheckVisible. -/
import Derived.Test.YtlbjicjinnnboaaGreatDoorMvM
import Derived.Test.YtlbjicjinnnboaaGreatDoorMvC
import Derived.Laws.EntriesVeiled
set_option maxHeartbeats 8000000
set_option maxRecDepth 100000
set_option linter.unusedVariables false
set_option linter.unusedSimpArgs false
namespace Go.Proofs.YtlbjicjinnnboaaGreatDoor
open Go.RowKit Go.Proofs.Tryz
variable {w w0:World}{s s2:PS}{ts:List Tok}{g tb tc n b0 b1:Nat}{src X:ByteArray}{R M:Nat->Prop}{r:List Nat×PS}{kv:Int}{cs:Array Value}{b:Bool}{l:List Nat}{K:World->Prop}{op:List UInt8}
structure Lim where
 n:Nat
 d:Nat
variable {N:Lim}
structure Sim (ts:List Tok) (R:Nat->Prop) (w:World) (q:PQ) (s:PS) (lvs:List Value) (N:Lim):Prop where
 e:q.e=s.e
 place:q.place=s.place
 deep:q.deep=N.d
 pos:s.e=0->q.i=s.i∧q.deep=s.deep
 row:s.e=0->q.m=s.nodes.length∧q.xs=cB s.nodes lvs∧s.nodes.length=lvs.length
 below:s.e=0->bD w s.nodes lvs
 avoid:s.e=0->∀v∈lvs,∀k,blk v=some k->¬R k
 bad:s.e≠0->q.m<=s.nodes.length+N.n
def Most (w0 w:World):Prop:=0<w0.heap.size∧∃m:Int,Blk w 0 3 #[m]
theorem Most.no {w':World} (h:Most w0 w) (f:Fr nob w w'):Most w0 w':=⟨h.1,h.2.imp λm hm=>hm.fr f (λx=>x)⟩
theorem Most.frR {w':World} (h:Most w0 w) (hb:Blk w g 82 cs) (f:FrR g w w'):Most w0 w':=⟨h.1,h.2.imp λm hm=>f.blk hm (λe=>hm.ne hb (by decide) e) (by decide)⟩
theorem Most.here (h:Most w0 w):Most w w:=⟨h.2.choose_spec.lt,h.2⟩
structure QS (src:ByteArray) (tb tc:Nat) (ts:List Tok) (g:Nat) (R:Nat->Prop) (w0 w:World) (s:PS) (N:Lim):Prop where
 q:∃q lvs,gM src tb tc ts g w q∧Sim ts R w q s lvs N
 res:∀k,R k->k<w.heap.size
 ok:dA ts s
 toks:dF ts
 long:src.size<=281474976710656
 fr:FrR g w0 w
 most:Most w0 w
section
variable {src:ByteArray}{tb tc:Nat}{ts:List Tok}{g:Nat}{N:Lim}{R:Nat->Prop}{w0 w w1 w':World}{s s':PS}{q q':PQ}{lvs:List Value}
theorem Sim.more (h:Sim ts R w q s lvs N) (hn:N.n<=n):Sim ts R w q s lvs ⟨n,N.d⟩:=⟨h.e,h.place,h.deep,h.pos,h.row,h.below,h.avoid,λhe=>by have:=h.bad he;show q.m<=s.nodes.length+n;omega⟩
theorem QS.more (h:QS src tb tc ts g R w0 w s N) (hn:N.n<=n):QS src tb tc ts g R w0 w s ⟨n,N.d⟩:=by
 obtain⟨q,lvs,hq,hs⟩:=h.q;exact⟨⟨q,lvs,hq,hs.more hn⟩,h.res,h.ok,h.toks,h.long,h.fr,h.most⟩
theorem Sim.no (h:Sim ts R w q s lvs N) (f:Fr nob w w'):Sim ts R w' q s lvs N:=⟨h.e,h.place,h.deep,h.pos,h.row,λhe=>(h.below he).no f,h.avoid,h.bad⟩
theorem Sim.frR (h:Sim ts R w q s lvs N) (hb:Blk w g 82 cs) (f:FrR g w w'):Sim ts R w' q s lvs N:=⟨h.e,h.place,h.deep,h.pos,h.row,λhe=>(h.below he).frR hb (by decide) f,h.avoid,h.bad⟩
theorem QS.no (h:QS src tb tc ts g R w0 w s N) (f:Fr nob w w'):QS src tb tc ts g R w0 w' s N:=by
 obtain⟨q,lvs,hq,hs⟩:=h.q;exact⟨⟨q,lvs,hq.no f,hs.no f⟩,λk hk=>Nat.lt_of_lt_of_le (h.res k hk) f.size,h.ok,h.toks,h.long,h.fr.trans (FrR.no f),h.most.no f⟩
theorem QS.alloc (h:QS src tb tc ts g R w0 w s N) (o:Obj):QS src tb tc ts g R w0 (w.alloc o) s N:=h.no ((fR w).alloc o)
theorem QS.here (h:QS src tb tc ts g R w0 w s N):QS src tb tc ts g R w w s N:=⟨h.q,h.res,h.ok,h.toks,h.long,Fr.refl _ _,h.most.here⟩
theorem QS.back (h:QS src tb tc ts g R w0 w s N){N':Lim} (h':QS src tb tc ts g R w w' s' N'):QS src tb tc ts g R w0 w' s' N':=⟨h'.q,h'.res,h'.ok,h'.toks,h'.long,h.fr.trans h'.fr,⟨h.most.1,h'.most.2⟩⟩
theorem QS.go (h:QS src tb tc ts g R w0 w s N) (hq:gM src tb tc ts g w q) (hs:Sim ts R w q s lvs N) (hq':gM src tb tc ts g w' q') (f:FrR g w w') (hk:dA ts s') (hm:Sim ts R w q' s' lvs N):QS src tb tc ts g R w0 w' s' N:=
 ⟨⟨q',lvs,hq',hm.frR hq.blk f⟩,λk hk=>Nat.lt_of_lt_of_le (h.res k hk) f.size,hk,h.toks,h.long,h.fr.trans f,h.most.frR hq.blk f⟩
theorem Sim.tok (h:Sim ts R w q s lvs N) (h0:s.e=0):kE ts q=bI ts s:=by
 unfold kE bI;rw[(h.pos h0).1]
theorem Sim.isX (h:Sim ts R w q s lvs N) (X:ByteArray):qIs ts [X] q=pIs ts X.data.toList s:=by
 unfold qIs pIs;rw[h.e];by_cases h0:s.e=0
 . rw[h.tok h0]
   unfold isIn;simp
 . rw[decide_eq_false h0];simp
theorem Sim.aJe (h:Sim ts R w q s lvs N) (k:Nat):oU ts k q=bM ts k s:=by
 unfold oU bM;rw[h.e];by_cases h0:s.e=0
 . rw[h.tok h0]
 . rw[decide_eq_false h0];simp
theorem Sim.take (h:Sim ts R w q s lvs N) (h0:s.e=0) (hr:(pGo s).i<ts.length):Sim ts R w (wC ts q) (pGo s) lvs N:=by
 have hi:=(h.pos h0).1;have hr2:s.i+1<ts.length:=hr;have e:wC ts q={ q with i:=q.i+1 }:=by unfold wC;rw[if_pos (by omega)]
 rw[e];exact⟨h.e,h.place,h.deep,λhe=>⟨by show q.i+1=s.i+1;omega,(h.pos he).2⟩,h.row,h.below,h.avoid,h.bad⟩
theorem Sim.fail (h:Sim ts R w q s lvs N) (k:Nat) (hk:k≠0):Sim ts R w (tT ts k q) (aR ts k s) lvs N:=by
 unfold tT aR;rw[h.e];by_cases h0:s.e=0
 . rw[if_pos h0,if_pos h0]
   refine⟨rfl,by show (kE ts q).place=(bI ts s).place;rw[h.tok h0],h.deep,λhe=>absurd he hk,λhe=>absurd he hk,λhe=>absurd he hk,λhe=>absurd he hk,λ_=>?_⟩
   show q.m<=s.nodes.length+N.n
   rw[(h.row h0).1];omega
 . rw[if_neg h0,if_neg h0];exact h
theorem QS.kind (h:QS src tb tc ts g R w0 w s N) (k:Nat) (hb:bM ts k s=b):
  Calls prog 50 #[(g,()),k] w λe w'=>e = .returned b∧QS src tb tc ts g R w0 w' s N:=by
 obtain⟨q,lvs,hq,hs⟩:=h.q;refine (nV hq k).mono λe w' ⟨he,hf⟩=>⟨?_,h.no hf⟩
 rw[he,hs.aJe,hb]
theorem QS.has (h:QS src tb tc ts g R w0 w s N) (X:ByteArray) (hb:pIs ts X.data.toList s=b):
  Calls prog 118 #[(g,()),X] w λe w'=>e = .returned b∧QS src tb tc ts g R w0 w' (if b=true then pGo s else s) N:=by
 obtain⟨q,lvs,hq,hs⟩:=h.q;refine (aBy hq X).mono λe w' ⟨he,hq',hf⟩=>⟨by rw[he,hs.isX,hb],?_⟩
 unfold aRz at hq';rw[hs.isX,hb] at hq';cases b with
 | false=>rw[if_neg (by decide)] at hq' ⊢;exact h.go hq hs hq' hf h.ok hs
 | true=>
  rw[if_pos rfl] at hq' ⊢;have hk:=h.ok.yL h.toks hb;exact h.go hq hs hq' hf hk (hs.take (aM hb).1 hk.room)
theorem QS.fail (h:QS src tb tc ts g R w0 w s N) (k:Nat) (hk:k<=21) (hk0:1<=k):
  Calls prog 119 #[(g,()),k] w λe w'=>e = .returned (.tuple #[])∧QS src tb tc ts g R w0 w' (aR ts k s) N:=by
 obtain⟨q,lvs,hq,hs⟩:=h.q;exact (lC hq k).mono λe w' ⟨he,hq',hf⟩=>⟨he,h.go hq hs hq' hf (h.ok.fail h.toks k hk hk0) (hs.fail k (by omega))⟩
theorem QS.must (h:QS src tb tc ts g R w0 w s N) (X:ByteArray):
   Calls prog 78 #[(g,()),X] w λe w'=>e = .returned (.tuple #[])∧QS src tb tc ts g R w0 w' (aA ts X.data.toList s) N:=by
 obtain⟨q,lvs,hq,hs⟩:=h.q;refine (aHt hq X).mono λe w' ⟨he,hq',hf⟩=>⟨he,h.go hq hs hq' hf (h.ok.must h.toks _) ?_⟩
 unfold aPe aA;rw[hs.isX];by_cases hb:pIs ts X.data.toList s=true
 . rw[if_pos hb,if_pos hb]
   exact hs.take (aM hb).1 (h.ok.yL h.toks hb).room
 . rw[if_neg hb,if_neg hb]
   exact hs.fail 20 (by decide)
theorem QS.name (h:QS src tb tc ts g R w0 w s N){x:ByteArray} (hx:bs (dZ ts s)=x):
   Calls prog 79 #[(g,())] w λe w'=>e = .returned x∧QS src tb tc ts g R w0 w' (aI ts s) N:=by
 obtain⟨q,lvs,hq,hs⟩:=h.q;refine (aHs hq).mono λe w' ⟨he,hq',hf⟩=>⟨?_,h.go hq hs hq' hf (h.ok.named h.toks) ?_⟩
 . rw[he,<-hx]
   unfold aPd dZ;rw[hs.aJe];by_cases hb:bM ts 3 s=true
   . rw[if_pos hb,if_pos hb,hs.tok (aW hb).1]
   . rw[if_neg hb,if_neg hb]
 . unfold aId aI
   rw[hs.aJe];by_cases hb:bM ts 3 s=true
   . rw[if_pos hb,if_pos hb]
     exact hs.take (aW hb).1 (h.ok.lQ h.toks (aW hb).2 (by decide)).room
   . rw[if_neg hb,if_neg hb]
     exact hs.fail 20 (by decide)
theorem QS.line (h:QS src tb tc ts g R w0 w s N):
  Calls prog 77 #[(g,())] w λe w'=>∃y:Nat,e = .returned y∧(s.e=0->y=bJ src.data.toList ts s)∧QS src tb tc ts g R w0 w' s N:=by
 obtain⟨q,lvs,hq,hs⟩:=h.q;refine (aHu hq h.long).mono λe w' ⟨he,hf⟩=>⟨_,he,λh0=>?_,h.no hf⟩
 unfold aPf bJ;rw[hs.tok h0]
theorem QS.calls (h:QS src tb tc ts g R w0 w s N) (hb:gG ts s=b):
   Calls prog 187 #[(g,())] w λe w'=>e = .returned b∧QS src tb tc ts g R w0 w' s N:=by
 obtain⟨q,lvs,hq,hs⟩:=h.q;refine (aEg hq h.toks).mono λe w' ⟨he,hf⟩=>⟨?_,h.no hf⟩
 rw[he,<-hb];unfold aIe gG;rw[hs.aJe];by_cases hk:bM ts 3 s=true
 . rw[hk,(hs.pos (aW hk).1).1]
 . rw[show bM ts 3 s=false by simpa using hk];rfl
theorem Sim.aQp (h:Sim ts R w q s lvs N):aIc ts q=fT ts s:=by
 unfold aIc fT bQ;rw[h.aJe];by_cases hb:bM ts 4 s=true
 . rw[if_pos hb,if_pos hb,h.tok (aW hb).1]
 . rw[if_neg hb,if_neg hb];rfl
theorem QS.typed (h:QS src tb tc ts g R w0 w s N) (hn:fT ts s=n):
   Calls prog 82 #[(g,())] w λe w'=>e = .returned n∧QS src tb tc ts g R w0 w' (cO ts s) N:=by
 obtain⟨q,lvs,hq,hs⟩:=h.q;refine (aDu hq).mono λe w' ⟨he,hq',hf⟩=>⟨by rw[he,hs.aQp,hn],h.go hq hs hq' hf (h.ok.typed h.toks) ?_⟩
 have hk:=h.ok.typed h.toks;unfold aIa;unfold cO at hk ⊢;rw[hs.aQp];by_cases hb:fT ts s=0
 . rw[if_pos hb,if_pos hb]
   exact hs.fail 20 (by decide)
 . rw[if_neg hb] at hk
   rw[if_neg hb,if_neg hb];have h0:s.e=0:=by
    unfold fT bQ at hb;by_cases hkk:bM ts 4 s=true
    . exact (aW hkk).1
    . rw[if_neg hkk] at hb;exact absurd rfl hb
   exact hs.take h0 hk.room
end
section
variable {src:ByteArray}{tb tc:Nat}{ts:List Tok}{g:Nat}{N:Lim}{R:Nat->Prop}{w0 w w1 w':World}{s s':PS}{q q':PQ}{lvs:List Value}
theorem QS.few (h:QS src tb tc ts g R w0 w s N) (hn:s.nodes.length+N.n<=1000000):∀q lvs,gM src tb tc ts g w q->Sim ts R w q s lvs N->q.m<=1000000:=λq lvs hq hs=>by
 by_cases h0:s.e=0
 . rw[(hs.row h0).1];omega
 . have:=hs.bad h0;omega
theorem QS.put (h:QS src tb tc ts g R w0 w s N) (k:Nat) (hkv:((k:Nat):Int)=kv) (y line:Nat) (hy:s.e=0->y=line){name:List UInt8} (hX:bs name=X){A1:Option Addr}{M c1:Nat}
   (hl:s.e=0->Own w 3 1 (.slice A1 M c1) l.length (ints l)) (hlr:∀k,blk (.slice A1 M c1)=some k->¬R k) (hn:s.nodes.length+N.n<=1000000):
   Calls prog 126 #[(g,()),kv,y,X,.slice A1 M c1] w λe w'=>∃x:Nat,e = .returned x∧(s.e=0->x=s.nodes.length)∧QS src tb tc ts g R w0 w' (bR k line 0 name l s).2 N:=by
 obtain⟨q,lvs,hq,hs⟩:=h.q;subst hX;subst hkv;refine (vX hq k y name A1 M c1 (h.few hn q lvs hq hs)).mono λe w' ⟨he,⟨nv,hq'⟩,hf⟩=>⟨q.m,he,λh0=>(hs.row h0).1,⟨⟨_,lvs++[.slice A1 M c1],hq',?_⟩,λk hk=>Nat.lt_of_lt_of_le (h.res k hk) hf.size,h.ok.put ..,h.toks,h.long,h.fr.trans hf,h.most.frR hq.blk hf⟩⟩
 refine⟨hs.e,hs.place,hs.deep,hs.pos,λh0=>?_,λh0=>?_,λh0 v hv=>?_,λh0=>?_⟩
 . obtain⟨h1,h2,h3⟩:=hs.row h0
   refine⟨?_,?_,?_⟩
   . show q.m+1=(s.nodes++[_]).length
     rw[aA3,h1];rfl
   . show q.xs++_=cB (s.nodes++[_]) (lvs++[_])
     rw[gQ _ _ _ _ h3,h2,<-hy h0];rfl
   . show (s.nodes++[_]).length=(lvs++[_]).length
     rw[aA3,aA3,h3];rfl
 . exact bD.snoc ((hl h0).frR hq.blk (by decide) (by decide) hf) ((hs.below h0).frR hq.blk (by decide) hf)
 . rcases List.mem_append.1 hv with hv|hv
   . exact hs.avoid h0 v hv
   . rw[List.mem_singleton.1 hv];exact hlr
 . have hb:=hs.bad h0
   show q.m+1<=(s.nodes++[_]).length+N.n
   rw[aA3];simp;omega
theorem QS.aOd (h:QS src tb tc ts g R w0 w s N) (h0:s.e≠0) (k:Nat) (hkv:((k:Nat):Int)=kv) (y:Nat){name:List UInt8} (hX:bs name=X){A1:Option Addr}{M c1:Nat} (hn:s.nodes.length+N.n<=1000000):
  Calls prog 126 #[(g,()),kv,y,X,.slice A1 M c1] w λe w'=>∃x:Nat,e = .returned x∧QS src tb tc ts g R w0 w' s ⟨N.n+1,N.d⟩:=by
 obtain⟨q,lvs,hq,hs⟩:=h.q;subst hX;subst hkv;refine (vX hq k y name A1 M c1 (h.few hn q lvs hq hs)).mono λe w' ⟨he,⟨nv,hq'⟩,hf⟩=>⟨q.m,he,⟨⟨_,lvs,hq',?_⟩,λk hk=>Nat.lt_of_lt_of_le (h.res k hk) hf.size,h.ok,h.toks,h.long,h.fr.trans hf,h.most.frR hq.blk hf⟩⟩
 refine⟨hs.e,hs.place,hs.deep,λe=>absurd e h0,λe=>absurd e h0,λe=>absurd e h0,λe=>absurd e h0,λ_=>?_⟩;have hb:=hs.bad h0
 show q.m+1<=s.nodes.length+(N.n+1)
 omega
theorem QS.number (h:QS src tb tc ts g R w0 w s N) (k n:Nat){nv0:Int} (hkv:((k:Nat):Int)=kv) (hnv:((n:Nat):Int)=nv0) (y line:Nat) (hy:s.e=0->y=line) (hn:s.nodes.length+N.n<=1000000):
   Calls prog 233 #[(g,()),kv,y,nv0] w λe w'=>∃x:Nat,e = .returned x∧(s.e=0->x=s.nodes.length)∧QS src tb tc ts g R w0 w' (bR k line n [] [] s).2 N:=by
 obtain⟨q,lvs,hq,hs⟩:=h.q;subst hkv;subst hnv;refine (aAd hq k y n (h.few hn q lvs hq hs)).mono λe w' ⟨he,⟨nv,hq'⟩,hf⟩=>⟨q.m,he,λh0=>(hs.row h0).1,⟨⟨_,lvs++[.slice none 0 0],hq',?_⟩,λk hk=>Nat.lt_of_lt_of_le (h.res k hk) hf.size,h.ok.put ..,h.toks,h.long,h.fr.trans hf,h.most.frR hq.blk hf⟩⟩
 refine⟨hs.e,hs.place,hs.deep,hs.pos,λh0=>?_,λh0=>?_,λh0 v hv=>?_,λh0=>?_⟩
 . obtain⟨h1,h2,h3⟩:=hs.row h0
   refine⟨?_,?_,?_⟩
   . show q.m+1=(s.nodes++[_]).length
     rw[aA3,h1];rfl
   . show q.xs++_=cB (s.nodes++[_]) (lvs++[_])
     rw[gQ _ _ _ _ h3,h2,<-hy h0];rfl
   . show (s.nodes++[_]).length=(lvs++[_]).length
     rw[aA3,aA3,h3];rfl
 . exact bD.snoc (Own.nil _ _ _) ((hs.below h0).frR hq.blk (by decide) hf)
 . rcases List.mem_append.1 hv with hv|hv
   . exact hs.avoid h0 v hv
   . rw[List.mem_singleton.1 hv];intro k hk;simp[blk] at hk
 . have hb:=hs.bad h0
   show q.m+1<=(s.nodes++[_]).length+N.n
   rw[aA3];simp;omega
theorem QS.aJv (h:QS src tb tc ts g R w0 w s N):g<w.heap.size∧w.cell? (g,2)=N.d∧w.frozen? (g,U2)=false∧(s.e=0->N.d=s.deep)∧w.cell? (g,3)=s.e:=by
 obtain⟨q,lvs,hq,hs⟩:=h.q;obtain⟨hg,_,_,c2,c3,_,_⟩:=hq.cells;rw[hs.e] at c3;rw[hs.deep] at c2;exact⟨hg,c2,hq.blk.frozen 2,λh0=>by rw[<-hs.deep];exact (hs.pos h0).2,c3⟩
theorem QS.aOb (h:QS src tb tc ts g R w0 w s N) (x:Nat) (hs':s'.e=s.e∧s'.place=s.place∧s'.nodes=s.nodes∧(s.e=0->s'.i=s.i∧s'.deep=x)) (hk:dA ts s'):QS src tb tc ts g R w0 (w.setCell (g,U2) x) s' ⟨N.n,x⟩:=by
 obtain⟨q,lvs,hq,hs⟩:=h.q;obtain⟨i',nodes',deep',e',place'⟩:=s';obtain⟨i,nodes,deep,e,place⟩:=s;dsimp only at hs';obtain⟨rfl,rfl,rfl,h0⟩:=hs';have f:FrR g w (w.setCell (g,U2) x):=((Fr.refl (bY g) w).setCell (g,U2) _ (λ_=>rfl)).mono (λk _ e=> .inl e);refine⟨⟨_,lvs,hq.aOb x,?_⟩,λk hk=>Nat.lt_of_lt_of_le (h.res k hk) f.size,hk,h.toks,h.long,h.fr.trans f,h.most.frR hq.blk f⟩;exact⟨hs.e,hs.place,rfl,λhe=>⟨by rw[(h0 he).1];exact (hs.pos he).1,(h0 he).2.symm⟩,hs.row,λhe=>(hs.below he).frR hq.blk (by decide) f,hs.avoid,hs.bad⟩
theorem QS.bad (h:QS src tb tc ts g R w0 w s N) (h0:s.e≠0) (he:s'.e=s.e) (hp:s'.place=s.place) (hn:s.nodes.length<=s'.nodes.length) (hk:dA ts s'):QS src tb tc ts g R w0 w s' N:=by
 obtain⟨q,lvs,hq,hs⟩:=h.q;have h1:s'.e≠0:=by rw[he];exact h0
 refine⟨⟨q,lvs,hq,⟨by rw[he];exact hs.e,by rw[hp];exact hs.place,hs.deep,λe=>absurd e h1,λe=>absurd e h1,λe=>absurd e h1,λe=>absurd e h1,λ_=>?_⟩⟩,h.res,hk,h.toks,h.long,h.fr,h.most⟩;have:=hs.bad h0;omega
end
theorem QS.deeper (h:QS src tb tc ts g R w0 w s N) (h0:s.e=0) (f:Nat) (cap:Array Value){n2:Nat}
   (hdn:aX ts s={ s with deep:=s.deep+1 }->∀w1,QS src tb tc ts g R w0 w1 { s with deep:=s.deep+1 } ⟨N.n,N.d+1⟩->FrR g w w1 ->
     Calls prog f cap w1 λe w'=>e = .returned (.tuple #[])∧QS src tb tc ts g R w0 w' s2 ⟨n2,N.d+1⟩∧(s2.e=0->s2.deep=s.deep+1)∧K w')
   (hK:∀w' w'',FrR g w' w''->K w'->K w'') (hen:Enters prog f) (hup:s.deep<16->dA ts (pUp s2)):
   Calls prog 159 #[(g,()),.func (.func f) #[] cap] w λe w'=>e = .returned (.tuple #[]) ∧
     ((16<=s.deep->QS src tb tc ts g R w0 w' (aR ts 21 s) N∧FrR g w w')∧(s.deep<16->QS src tb tc ts g R w0 w' (pUp s2) ⟨n2,N.d⟩∧K w')):=by
 obtain⟨hg,c2,f2,hd0,_⟩:=h.aJv;have hd:=hd0 h0;clear hd0;have H:=hD h;have HF:=hD hdn;have HK:=hD hK;have HUP:=hD hup;clear h hdn hK hup;by_cases h16:16<=s.deep
 . have k1:(16:Int)<=(N.d:Int):=by omega
   have k2:¬(N.d:Int)<16:=by omega
   have H16:=hD h16;clear h16 hd;go_enter func159,ntmps159;go_wp2_with fail
   refine stepM (H.o.here.fail 21 (by decide) (by decide)) λw2 H2=>?_;go_wp2
   refine aPz rfl rfl ⟨rfl,λ_=>⟨H.o.back H2,H2.o.fr⟩,λhlt=>absurd H16.o (by omega)⟩
 . have k1:¬(16:Int)<=(N.d:Int):=by omega
   have k2:(N.d:Int)<16:=by omega
   have hk16:s.deep<16:=by omega
   have e1:aX ts s={ s with deep:=s.deep+1 }:=by
     unfold aX;simp only;rw[if_neg h16]
   have H1:=hD (H.o.aOb (s':={ s with deep:=s.deep+1 }) (N.d+1) ⟨rfl,rfl,rfl,λ_=>⟨rfl,by show s.deep+1=N.d+1;omega⟩⟩ (by rw[<-e1];exact H.o.ok.down H.o.toks h0));have F1:Hd (FrR g w (w.setCell (g,U2) ((N.d+1:Nat):Int))):=((Fr.refl (bY g) w).setCell (g,U2) _ (λ_=>rfl)).mono (λk _ e=> .inl e);rw[show (((N.d+1:Nat)):Int)=(N.d:Int)+1 by omega] at H1 F1;have HF2:=hD (HF e1);have K16:=hD hk16;have HDD:=hD hd;clear h16 hd e1 hk16;go_enter func159,ntmps159;go_wp2_with fail
   rw[hen];generalize w.setCell _ _=w1 at *;go_wp2_with fail
   refine (HF2 w1 H1 F1).mono ?_;rintro e w2 ⟨rfl,h2,hd2,hk2⟩;have H2:=hD h2;have HD2:=hD hd2;have K2:=hD hk2;clear h2 hd2 hk2 c2 f2;obtain⟨hg2,c2,f2,_,_⟩:=H2.o.aJv;have HC2:=hD c2;clear c2;have c2:w2.cell? (g,2)=((N.d:Int)+1:Int):=by rw[HC2.o];congr 2
   have kk:(N.d:Int)+1 - 1=(N.d:Int):=by omega
   go_wp2_with fail
   have F3:Hd (FrR g w2 (w2.setCell (g,U2) N.d)):=((Fr.refl (bY g) w2).setCell (g,U2) _ (λ_=>rfl)).mono (λk _ e=> .inl e);refine fK rfl rfl ⟨rfl,λhge=>absurd hge (by have:=K16.o;omega),λhlt=>⟨?_,HK _ _ F3 K2⟩⟩;refine H2.o.aOb (s':=pUp s2) N.d ⟨rfl,rfl,rfl,λh=>⟨rfl,?_⟩⟩ (HUP hlt)
   show s2.deep - 1=N.d
   have h1:=HD2.o h;have h3:=HDD.o;omega
theorem QS.take (h:QS src tb tc ts g R w0 w s N) (h0:s.e=0) (hk:dA ts (pGo s)):
  Calls prog 120 #[(g,())] w λe w'=>e = .returned (pW (bI ts s))∧QS src tb tc ts g R w0 w' (pGo s) N:=by
 obtain⟨q,lvs,hq,hs⟩:=h.q;refine (nS hq).mono λe w' ⟨he,hq',hf⟩=>⟨by rw[he,hs.tok h0],h.go hq hs hq' hf hk (hs.take h0 hk.room)⟩
theorem zI (h:QS src tb tc ts g R w0 w s N) (h0:s.e=0) (hk:dA ts (pGo s)) (f:Nat) (cap:Array Value){N2:Lim}
  {b2:Nat} (hb0:Blk w b0 118 #[(g,())]) (hb1:Blk w b1 1 #[.func (.func f) #[] cap]) (hb2:Blk w b2 9 #[X])
  (n0:b0≠g) (n1:b1≠g) (n2:b2≠g)
  (hF:∀w1,QS src tb tc ts g R w0 w1 (pGo s) N->FrR g w w1->Calls prog f cap w1 λe w'=>e = .returned (.tuple #[])∧QS src tb tc ts g R w0 w' s2 N2∧(∀b t cs,Blk w1 b t cs->(t=118∨t=9)->Blk w' b t cs)∧K w')
  (hK:∀w' w'',FrR g w' w''->K w'->K w'') (hen:Enters prog f):
  Calls prog 160 #[(b0,()),(b1,()),(b2,())] w λe w'=>e = .returned (.tuple #[])∧QS src tb tc ts g R w0 w' (aA ts X.data.toList s2) N2∧K w':=by
 have H:=hD h;have HF:=hD hF;have HK:=hD hK;have T:=hD (h.here.take h0 hk);have B0:=hD hb0;have B1:=hD hb1;have B2:=hD hb2;have x0:w.cell? (b0,0)=(g,()):=by rw[hb0.cell 0];rfl
 clear h hF hK hb0 hb1 hb2 hk;go_enter func160,ntmps160;go_wp2_with fail
 refine T.o.mono ?_;rintro e w2 ⟨rfl,h2⟩;have C0:=hD (h2.fr.blk B0 n0 (by decide));have C1:=hD (h2.fr.blk B1 n1 (by decide));have C2:=hD (h2.fr.blk B2 n2 (by decide));have HF2:=hD (HF w2 (H.o.back h2) h2.fr);have x1:w2.cell? (b1,0)=some (.func (.func f) #[] cap):=by rw[C1.o.cell 0];rfl
 clear h2 x0;go_wp2_with fail
 rw[hen];go_wp2_with fail
 refine HF2.o.mono ?_;rintro e w3 ⟨rfl,h3,hb,hk3⟩;have H3:=hD h3;have K3:=hD hk3;have x0:w3.cell? (b0,0)=(g,()):=by rw[(hb _ _ _ C0.o (.inl rfl)).cell 0];rfl
 have x2:w3.cell? (b2,0)=X:=by rw[(hb _ _ _ C2.o (.inr rfl)).cell 0];rfl
 clear h3 hk3 hb x1;go_wp2_with fail
 refine stepM (H3.o.here.must X) λw4 H4=>?_;go_wp2
 refine fK rfl rfl ⟨rfl,H3.o.back H4,HK _ _ H4.o.fr K3⟩
theorem QS.is1 (h:QS src tb tc ts g R w0 w s N) (X:ByteArray){b:Nat} (hb:Blk w b 9 #[X]){z:Bool} (hz:pIs ts X.data.toList s=z):
  Calls prog 83 #[(g,()),(b,1,1)] w λe w'=>e = .returned z∧Fr nob w w':=by
 obtain⟨q,lvs,hq,hs⟩:=h.q;refine (aAf hq [X] b 1 hb rfl (by decide)).mono λe w' ⟨he,hf⟩=>⟨by rw[he,hs.isX,hz],hf⟩
theorem tV:Enters prog 160:=enters_of func160 (by kernel_rfl) rfl
theorem QS.within (h:QS src tb tc ts g R w0 w s N) (op X:ByteArray) (f:Nat) (cap:Array Value){n2:Nat}
  (hF:pIs ts op.data.toList s=true->s.deep<16->∀w1,QS src tb tc ts g R w0 w1 (pGo { s with deep:=s.deep+1 }) ⟨N.n,N.d+1⟩->FrR g w w1 ->
    Calls prog f cap w1 λe w'=>e = .returned (.tuple #[])∧QS src tb tc ts g R w0 w' s2 ⟨n2,N.d+1⟩∧(∀b t cs,Blk w1 b t cs->(t=118∨t=9)->Blk w' b t cs)∧K w')
  (hK:∀w' w'',FrR g w' w''->K w'->K w'') (hen:Enters prog f) (hdeep:s2.e=0->s2.deep=s.deep+1) (hup:s.deep<16->dA ts (pUp (aA ts X.data.toList s2))):
  Calls prog 123 #[(g,()),op,X,.func (.func f) #[] cap] w λe w'=>e = .returned (.tuple #[]) ∧
    ((pIs ts op.data.toList s=false->QS src tb tc ts g R w0 w' (aR ts 20 s) N∧FrR g w w')∧(pIs ts op.data.toList s=true->16<=s.deep->QS src tb tc ts g R w0 w' (aR ts 21 s) N∧FrR g w w') ∧
     (pIs ts op.data.toList s=true->s.deep<16->QS src tb tc ts g R w0 w' (pUp (aA ts X.data.toList s2)) ⟨n2,N.d⟩∧K w')):=by
 have hmf:∀(fn:Fn) (first cap:Array Value) (w:World),(Instr.makeFunc fn first cap).run prog w = .ok (.func fn first cap) w:=λ_ _ _ _=>rfl
 obtain⟨W1,hW1⟩:∃W1,W1=(((w.alloc (.cells #[(g,())] 118)).alloc (.cells #[X] 9)).alloc (.cells #[.func (.func f) #[] cap] 1)):=⟨_,rfl⟩;have F1:=hD (show Fr nob w W1 from by rw[hW1];exact (((fR w).alloc _).alloc _).alloc _);have hsz1:(w.alloc (.cells #[(g,())] 118)).heap.size=w.heap.size+1:=by simp
 have hsz2:((w.alloc (.cells #[(g,())] 118)).alloc (.cells #[X] 9)).heap.size=w.heap.size+1+1:=by simp
 have hszW:W1.heap.size=w.heap.size+1+1+1:=by rw[hW1];simp
 have B0:=hD (show Blk W1 w.heap.size 118 #[(g,())] from by rw[hW1];exact ((Blk.new w _ _).alloc _).alloc _);have B1:=hD (show Blk W1 (w.heap.size+1) 9 #[X] from by
  rw[hW1];have:=Blk.new (w.alloc (.cells #[(g,())] 118)) 9 #[X];rw[hsz1] at this;exact this.alloc _)
 have B2:=hD (show Blk W1 (w.heap.size+1+1) 1 #[.func (.func f) #[] cap] from by
  rw[hW1];have:=Blk.new ((w.alloc (.cells #[(g,())] 118)).alloc (.cells #[X] 9)) 1 #[.func (.func f) #[] cap];rw[hsz2] at this;exact this)
 have H1:=hD (h.no F1);have hgl:g<w.heap.size:=h.aJv.1;have GL:=hD hgl;have A2:Hd (Fr nob W1 (W1.alloc (.cells #[op] 9))):=(fR W1).alloc _;obtain⟨z,hz⟩:∃z,pIs ts op.data.toList s=z:=⟨_,rfl⟩;have HI:=hD ((H1.o.no A2).is1 op (Blk.new W1 _ _) hz);have HF:=hD hF;have HK:=hD hK;have HUP:=hD hup;have HDP:=hD hdeep;have HZ:=hD hz;rw[hz];rw[hz] at HF;have x0:(W1.alloc (.cells #[op] 9)).cell? (w.heap.size,0)=(g,()):=by rw[(B0.o.alloc _).cell 0];rfl
 have y0:W1.cell? (w.heap.size,0)=(g,()):=by rw[B0.o.cell 0];rfl
 clear h hF hK hup hdeep hsz1 hsz2 hz hgl;have HS:=hD hszW;clear hszW;rw[HS.o] at HI;cases z with
 | false=>
  go_enter func123,ntmps123;go_wp2_with fail
  rw[<-hW1];clear hW1;refine HI.o.mono ?_;rintro e w2 ⟨rfl,hf⟩;have F2:=hD (A2.o.tr hf);have H2:=hD (H1.o.no F2);have C0:=hD (B0.o.fr F2 (λx=>x));have C1:=hD (B1.o.fr F2 (λx=>x));have C2:=hD (B2.o.fr F2 (λx=>x));have G2:=hD (F1.o.tr F2);clear hf x0;have x0:w2.cell? (w.heap.size,0)=(g,()):=by rw[C0.o.cell 0];rfl
  go_wp2_with fail
  refine stepM (H2.o.here.fail 20 (by decide) (by decide)) λw3 H3=>?_;go_wp2
  refine aPz rfl rfl ⟨rfl,λ_=>⟨H2.o.back H3,FrR.trans (FrR.no G2) H3.o.fr⟩,λe=>(by cases e),λe=>(by cases e)⟩
 | true=>
  have h0:=(aM HZ).1;have HH0:=hD h0;go_enter func123,ntmps123;go_wp2_with fail
  rw[<-hW1];clear hW1;refine HI.o.mono ?_;rintro e w2 ⟨rfl,hf⟩;have F2:=hD (A2.o.tr hf);have H2:=hD (H1.o.no F2);have C0:=hD (B0.o.fr F2 (λx=>x));have C1:=hD (B1.o.fr F2 (λx=>x));have C2:=hD (B2.o.fr F2 (λx=>x));have G2:=hD (F1.o.tr F2);clear hf x0;have x0:w2.cell? (w.heap.size,0)=(g,()):=by rw[C0.o.cell 0];rfl
  have HW:=hD (H2.o.deeper h0 160 #[(w.heap.size,()),(w.heap.size+1+1,()),(w.heap.size+1,())] (s2:=aA ts X.data.toList s2) (n2:=n2) (K:=K)
    (λhdn w3 h3 hf3=>by
      have hlt:s.deep<16:=by
       by_cases hh:16<=s.deep
       . exfalso
         unfold aX at hdn;simp only at hdn;rw[if_pos hh] at hdn;have e1:=congrArg PS.e hdn;unfold aR at e1;rw[if_pos HH0.o] at e1;simp at e1
         have:=HH0.o;omega
       . omega
      have hk:dA ts (pGo { s with deep:=s.deep+1 }):=by rw[<-hdn];exact H2.o.ok.goDown H2.o.toks HZ.o
      have ng:∀k,w.heap.size<=k->k≠g:=λk hk e=>by have:=GL.o;omega
      refine (zI h3 HH0 hk f cap (hf3.blk C0 (ng _ (aA1 _)) (by decide)) (hf3.blk C2 (ng _ (by omega)) (by decide)) (hf3.blk C1 (ng _ (by omega)) (by decide)) (ng _ (aA1 _)) (ng _ (by omega)) (ng _ (by omega))
       (λw4 h4 hf4=>HF.o (by first|trivial|rfl) hlt w4 h4 (FrR.trans (FrR.trans (FrR.no G2) hf3) hf4)) HK hen).mono λe w' ⟨he,hq,hk⟩=>⟨he,hq,λhz=>?_,hk⟩
      have h2e:s2.e=0:=Ext.e0 ((Ext.refl s2).must (ts:=ts) X.data.toList) hz;rw[bH];exact HDP h2e)
    HK.o tV HUP)
  clear h0;go_wp2_with fail
  refine HW.o.mono ?_;rintro e w5 ⟨rfl,h5,h6⟩;have H5:=hD h5;have H6:=hD h6;clear h5 h6;go_wp2_with fail
  first
    | refine fK rfl rfl ⟨rfl,λe=>(by cases e),λ_ hge=>⟨(H5 hge).1,FrR.trans (FrR.no G2) (H5 hge).2⟩,λ_ hlt=>H6.o hlt⟩
    | refine aPz rfl rfl ⟨rfl,λe=>(by cases e),λ_ hge=>⟨(H5 hge).1,FrR.trans (FrR.no G2) (H5 hge).2⟩,λ_ hlt=>H6.o hlt⟩
def RB (R:Nat->Prop) (b:Nat):Nat->Prop:=λk=>R k∨k=b
section
variable {src:ByteArray}{tb tc:Nat}{ts:List Tok}{g:Nat}{N:Lim}{R R':Nat->Prop}{w0 w w':World}{s:PS}{b:Nat}
theorem QS.box (h:QS src tb tc ts g R w0 w s N) (o:Obj):QS src tb tc ts g (RB R w.heap.size) w0 (w.alloc o) s N:=by
 obtain⟨q,lvs,hq,hs⟩:=h.q;have h1:=h.alloc o;refine⟨⟨q,lvs,hq.no ((fR w).alloc o),?_⟩,λk hk=>?_,h.ok,h.toks,h.long,h1.fr,h1.most⟩
 . have hs1:=hs.no ((fR w).alloc o)
   exact⟨hs.e,hs.place,hs.deep,hs.pos,hs.row,hs1.below,λh0 v hv k hk hR=>by
     rcases hR with hR|hR
     . exact hs.avoid h0 v hv k hk hR
     . have:=oN (hs.below h0) v hv k hk
       omega,hs.bad⟩
 . rcases hk with hk|hk
   . exact h1.res k hk
   . rw[hk];simp
theorem QS.drop (h:QS src tb tc ts g R' w0 w s N) (hR:∀k,R k->R' k):QS src tb tc ts g R w0 w s N:=by
 obtain⟨q,lvs,hq,hs⟩:=h.q;exact⟨⟨q,lvs,hq,⟨hs.e,hs.place,hs.deep,hs.pos,hs.row,hs.below,λh0 v hv k hk hr=>hs.avoid h0 v hv k hk (hR k hr),hs.bad⟩⟩,λk hk=>h.res k (hR k hk),h.ok,h.toks,h.long,h.fr,h.most⟩
theorem bD.avoid (f:Fr M w w'):∀{ns:List aF}{vs:List Value},bD w ns vs->(∀v∈vs,∀k,blk v=some k->¬M k)->bD w' ns vs
 | [],[],_,_=>trivial
 | [],_ :: _,h,_=>h.elim
 | _ :: _,[],h,_=>h.elim
 | _ :: _,v :: _,h,hn=>⟨h.1.fr f (λk hk=>hn v List.mem_cons_self k hk),bD.avoid f h.2 (λv hv=>hn v (List.mem_cons_of_mem _ hv))⟩
theorem QS.own (h:QS src tb tc ts g R w0 w s N) (hb:Blk w b 3 cs) (hR:R b) (hn:w0.heap.size<=b) (f:Fr (bY b) w w'):QS src tb tc ts g R w0 w' s N:=by
 obtain⟨q,lvs,hq,hs⟩:=h.q;have hg:g≠b:=λe=>hq.blk.ne hb (by decide) e
 obtain⟨b0,ht⟩:=hq.toks;refine⟨⟨q,lvs,⟨hq.blk.fr f hg,hq.own.fr f (λk hk hm=>hq.own.aD hb (by decide) (by rw[hk,show k=b from hm])),⟨b0,ht.own.fr f (λk hk hm=>ht.own.aD hb (by decide) (by rw[hk,show k=b from hm])),ht.new⟩,hq.room,hq.newer⟩,?_⟩,λk hk=>Nat.lt_of_lt_of_le (h.res k hk) f.size,h.ok,h.toks,h.long,?_,⟨h.most.1,h.most.2.imp λm hm=>hm.fr f (λe=>by have e1:(0:Nat)=b:=e;have:=h.most.1;omega)⟩⟩
 . exact⟨hs.e,hs.place,hs.deep,hs.pos,hs.row,λh0=>(hs.below h0).avoid f (λv hv k hk hm=>hs.avoid h0 v hv k hk (by rw[show k=b from hm];exact hR)),hs.avoid,hs.bad⟩
 . exact Fr.trans h.fr f (λ_ _ x=>x) (λk hk hm=>by have:k=b:=hm;omega)
end
section
variable (src:ByteArray) (tb tc:Nat) (ts:List Tok) (g:Nat)
def fM (n:Nat) (k:Task) (F:FuncId) (args:Array Value):Prop:=
 ∀(R:Nat->Prop) (w0 w:World) (s:PS) (r:List Nat×PS) (N:Lim),QS src tb tc ts g R w0 w s N->run src.data.toList ts n k s=some r->r.2.nodes.length+N.n+10*n+10<=1000000 ->
  Calls prog F args w λe w'=>∃x:Nat,e = .returned x∧(r.2.e=0->x=oneOf r.1)∧QS src tb tc ts g R w0 w' r.2 ⟨if s.e=0 then 10*n else N.n+2,N.d⟩
end
theorem wS:Enters prog 204:=enters_of func204 (by kernel_rfl) rfl
theorem QS.tZ (h:QS src tb tc ts g R w0 w s N):∃cs,Blk w g 82 cs:=by
 obtain⟨q,lvs,hq,hs⟩:=h.q;exact⟨_,hq.blk⟩
theorem aEv (hG:fM src tb tc ts g n (.chain 0) 162 #[(g,())])
   (h:QS src tb tc ts g R w0 w s N) (h0:s.e=0) (hr:run src.data.toList ts n (.chain 0) s=some r) (hn:r.2.nodes.length+N.n+10*n+10<=1000000) {v:Value}
   (hb0:Blk w b0 78 #[(g,())]) (hb1:Blk w b1 3 #[v]) (hR:R b1) (hnew:w0.heap.size<=b1):
   Calls prog 204 #[(b0,()),(b1,())] w λe w'=>e = .returned (.tuple #[])∧QS src tb tc ts g R w0 w' r.2 ⟨10*n,N.d⟩ ∧
     (∀b t cs,Blk w b t cs->(t=118∨t=9)->Blk w' b t cs)∧(∃x:Nat,Blk w' b1 3 #[x]∧(r.2.e=0->x=oneOf r.1))∧Blk w' b0 78 #[(g,())]:=by
 have HX:=hD (hG R w w s r N h.here hr hn);rw[if_pos h0] at HX;have H:=hD h;have B0:=hD hb0;have B1:=hD hb1;obtain⟨cg,hcg⟩:=h.tZ;have G:=hD hcg;have x0:w.cell? (b0,0)=(g,()):=by rw[hb0.cell 0];rfl
 clear h hG hr hn hb0 hb1 hcg h0;go_enter func204,ntmps204;go_wp2_with fail
 refine HX.o.mono ?_;rintro e w2 ⟨x,rfl,hx,h2⟩;have H2:=hD h2;have HXE:=hD hx;have C1:=hD (h2.fr.blk B1 (λe=>B1.o.ne G (by decide) e) (by decide));have C0:=hD (h2.fr.blk B0 (λe=>B0.o.ne G (by decide) e) (by decide));have y1:w2.cell? (b1,0)=some v:=by rw[C1.o.cell 0];rfl
 have z1:=C1.o.frozen 0;clear h2 hx x0;go_wp2_with fail
 have f:Fr (bY b1) w2 (w2.setCell (b1,()) x):=(Fr.refl _ w2).setCell _ _ (λ_=>rfl);refine fK rfl rfl ⟨rfl,(H.o.back H2).own C1 hR hnew f,λb t cs hb ht=>?_,⟨x,?_,HXE⟩,?_⟩
 . have hb2:=H2.o.fr.blk hb (λe=>by rcases ht with rfl|rfl<;>exact hb.ne G (by decide) e) (by rcases ht with rfl|rfl<;>decide)
   exact hb2.far (p:=(b1,())) (by rcases ht with rfl|rfl<;>exact λe=>hb2.ne C1 (by decide) e) _
 . exact C1.o.setCell 0 x
 . exact C0.o.far (p:=(b1,())) (λe=>C0.o.ne C1 (by decide) e) _
theorem QS.zero (h:QS src tb tc ts g R w0 w s N) (h0:s.e=0) (m:Nat):QS src tb tc ts g R w0 w s ⟨m,N.d⟩:=by
 obtain⟨q,lvs,hq,hs⟩:=h.q;exact⟨⟨q,lvs,hq,hs.e,hs.place,hs.deep,hs.pos,hs.row,hs.below,hs.avoid,λhe=>absurd h0 he⟩,h.res,h.ok,h.toks,h.long,h.fr,h.most⟩
theorem sP {src:List UInt8}{X:List UInt8} (hp:pIs ts op s=true) (hr:run src ts n (.chain 0) (aA ts op (aX ts s))=some r):
   (s.deep<16->run src ts n (.chain 0) (pGo { s with deep:=s.deep+1 })=some r) ∧
     (16<=s.deep->(pUp (aA ts X r.2)).e=(aR ts 21 s).e∧(aR ts 21 s).e≠0∧(pUp (aA ts X r.2)).place=(aR ts 21 s).place∧(aR ts 21 s).nodes.length<=(pUp (aA ts X r.2)).nodes.length):=by
 have h0:=(aM hp).1;constructor
 . intro hd
   have e1:aX ts s={ s with deep:=s.deep+1 }:=by
     unfold aX;rw[if_neg (by omega)]
   have e2:aA ts op (aX ts s)=pGo { s with deep:=s.deep+1 }:=by
     rw[e1];unfold aA;rw[if_pos (by simpa[pIs,bI] using hp)]
   rw[<-e2];exact hr
 . intro hd
   have e1:aX ts s={ aR ts 21 s with deep:=s.deep+1 }:=by
     unfold aX;rw[if_pos hd];simp only[fD]
   have f0:(aR ts 21 s).e≠0:=by
     unfold aR;rw[if_pos h0];exact (by decide:(21:Nat)≠0)
   have d0:(aX ts s).e≠0:=by rw[e1];exact f0
   have x1:Ext (aX ts s) (aA ts op (aX ts s)):=(Ext.refl _).must _;have x2:=x1.trans (aK _ _ _ _ hr);have x3:Ext (aX ts s) (pUp (aA ts X r.2)):=(x2.must (ts:=ts) X).up;have x4:=x3.err d0;obtain⟨x,hx⟩:=x3.nodes;rw[e1] at x4 hx;exact⟨x4.1,f0,x4.2,by rw[hx];simp⟩
theorem qH {P:Program}{fn:Func}{p:Tmp}{ty:TypeId} (h:fn.results = #[.cell p ty]) (tmps:Array Value) (w:World) (q:Addr) (v:Value) (hp:tmps.getD p undef = .pointer (some q)) (ha:(isAgg ty).run P w = .ok false w) (hl:w.cell? q=some v):
  (results fn tmps).run P w = .ok v w:=by
 have hp':tmps[p]?.getD undef = .pointer (some q):=by simpa using hp
 have hv:(loadVar ty q).run P w = .ok v w:=by
  unfold loadVar;rw[Sem.run_bind,ha];simp[hl]
 simp[results,h,hp',asAddr,hv]
theorem QS.inner (hG:fM src tb tc ts g n (.chain 0) 162 #[(g,())])
  (h:QS src tb tc ts g R w0 w s N) (op X:ByteArray) (hr:pIs ts op.data.toList s=true->run src.data.toList ts n (.chain 0) (aA ts op.data.toList (aX ts s))=some r) (hn:pIs ts op.data.toList s=true->r.2.nodes.length+N.n+10*n+10<=1000000):
  Calls prog 189 #[(g,()),op,X] w λe w'=>∃x:Nat,e = .returned x ∧
    (pIs ts op.data.toList s=false->x=0∧QS src tb tc ts g R w0 w' (aR ts 20 s) N) ∧
    (pIs ts op.data.toList s=true->((pUp (aA ts X.data.toList r.2)).e=0->x=oneOf r.1)∧QS src tb tc ts g R w0 w' (pUp (aA ts X.data.toList r.2)) ⟨N.n+10*n,N.d⟩):=by
 have hmf:∀(fn:Fn) (first cap:Array Value) (w:World),(Instr.makeFunc fn first cap).run prog w = .ok (.func fn first cap) w:=λ_ _ _ _=>rfl
 obtain⟨cg,hcg⟩:=h.tZ;have hgl:g<w.heap.size:=hcg.lt;have hA:(w.alloc (.cells #[(g,())] 78)).heap.size=w.heap.size+1:=by simp
 obtain⟨W1,hW1⟩:∃W1,W1=((w.alloc (.cells #[(g,())] 78)).alloc (.cells #[U0] 3)):=⟨_,rfl⟩;have B0:=hD (show Blk W1 w.heap.size 78 #[(g,())] from by rw[hW1];exact (Blk.new w _ _).alloc _);have B1:=hD (show Blk W1 (w.heap.size+1) 3 #[U0] from by
  rw[hW1];have:=Blk.new (w.alloc (.cells #[(g,())] 78)) 3 #[U0];rw[hA] at this;exact this)
 have H1:=hD (show QS src tb tc ts g (RB R (w.heap.size+1)) w W1 s N from by
  have:=(h.here.alloc (.cells #[(g,())] 78)).box (.cells #[U0] 3);rw[hA] at this;rw[hW1];exact this)
 have S0:=hD h;have GL:=hD hgl;have h0:pIs ts op.data.toList s=true->s.e=0:=λe=>(aM e).1
 have hok:dA ts s:=h.ok;have ht:=h.toks;obtain⟨s2,h2a,h2b,h2c⟩:∃s2:PS,(pIs ts op.data.toList s=true->s2=r.2)∧(s2.e=0->s2.deep=s.deep+1)∧(s.deep<16->dA ts (pUp (aA ts X.data.toList s2))):=by
  by_cases hp:pIs ts op.data.toList s=true
  . refine⟨r.2,λ_=>rfl,λ_=>?_,λ_=>?_⟩
    . have:=iG _ _ _ _ (hr hp)
      rw[bH,dO] at this;exact this
    . exact ((iQ ht _ _ _ _ (hr hp) ((hok.down ht (h0 hp)).must ht _)).must ht _).up
  . refine⟨{ s with deep:=s.deep+1 },λe=>absurd e hp,λ_=>rfl,λhd=>?_⟩
    have k:dA ts { s with deep:=s.deep+1 }:=⟨hok.room,by show s.deep+1<=17;omega,λe=>by show s.deep+1<=16;omega,hok.err,hok.place⟩;exact (k.must ht _).up
 have HW:=hD (H1.o.within op X 204 #[(w.heap.size,()),(w.heap.size+1,())] (s2:=s2) (n2:=N.n+10*n)
  (K:=λw'=>∃x:Nat,Blk w' (w.heap.size+1) 3 #[x]∧(r.2.e=0->x=oneOf r.1))
  (λhp hd w1 hw1 hf=>by
    have hrr:=(sP (X:=X.data.toList) hp (hr hp)).1 hd;have hnn:=hn hp;have hne:∀k,w.heap.size<=k->k≠g:=λk hk e=>by have:=GL.o;omega
    refine (aEv hG hw1 (h0 hp) hrr (by exact hnn) (hf.blk B0 (hne _ (aA1 _)) (by decide)) (hf.blk B1 (hne _ (by omega)) (by decide)) (Or.inr rfl) (Nat.le_succ _)).mono ?_;rintro e w' ⟨he,hq,hb,hx,_⟩;rw[h2a hp];exact⟨he,hq.more (by show 10*n<=_;omega),hb,hx⟩)
  (λw' w'' hf ⟨x,hx,hxx⟩=>⟨x,hf.blk hx (λe=>by have:=GL.o;omega) (by decide),hxx⟩)
  wS
  h2b h2c)
 have H2A:=hD h2a;have HOK:=hD (show pIs ts op.data.toList s=true->dA ts (pUp (aA ts X.data.toList r.2)) from λhp=>((iQ ht _ _ _ _ (hr hp) ((hok.down ht (h0 hp)).must ht _)).must ht _).up);have HR:=hD hr;clear h hcg hA hr hn hG h0 hgl h2a h2b h2c hok ht;go_enter func189,ntmps189;go_wp2_with fail
 rw[<-hW1];clear hW1;refine HW.o.mono ?_;rintro e w2 ⟨rfl,hA,hB,hC⟩;have Q2:=hD (show (∃x:Nat,Blk w2 (w.heap.size+1) 3 #[x]∧(pIs ts op.data.toList s=false->x=0∧QS src tb tc ts g (RB R (w.heap.size+1)) w w2 (aR ts 20 s) N) ∧
    (pIs ts op.data.toList s=true->((pUp (aA ts X.data.toList r.2)).e=0->x=oneOf r.1)∧QS src tb tc ts g (RB R (w.heap.size+1)) w w2 (pUp (aA ts X.data.toList r.2)) ⟨N.n+10*n,N.d⟩)) from by
  have hbk:FrR g W1 w2->Blk w2 (w.heap.size+1) 3 #[U0]:=λhf=>hf.blk B1 (λe=>by have:=GL.o;omega) (by decide)
  by_cases hp:pIs ts op.data.toList s=true
  . by_cases hd:16<=s.deep
    . obtain⟨hq,hf⟩:=hB hp hd
      obtain⟨e1,e2,e3,e4⟩:=(sP (X:=X.data.toList) hp (HR hp)).2 hd;refine⟨0,hbk hf,λe=>(by rw[hp] at e;cases e),λ_=>⟨λe=>absurd e (by rw[e1];exact e2),?_⟩⟩;exact (hq.bad e2 e1 e3 e4 (HOK hp)).more (by show N.n<=N.n+10*n;omega)
    . obtain⟨hq,x,hx,hxx⟩:=hC hp (by omega)
      rw[H2A.o hp] at hq;refine⟨x,hx,λe=>(by rw[hp] at e;cases e),λ_=>⟨λe=>hxx (((Ext.refl r.2).must (ts:=ts) X.data.toList).up.e0 e),hq⟩⟩
  . obtain⟨hq,hf⟩:=hA (by simpa using hp)
    exact⟨0,hbk hf,λ_=>⟨rfl,hq⟩,λe=>absurd e hp⟩)
 clear hA hB hC;obtain⟨x,hx,hz⟩:=Q2.o;have HX:=hD hx;have HZ:=hD hz;have y1:w2.cell? (w.heap.size+1,0)=x:=by rw[hx.cell 0];rfl
 have z1:=hx.frozen 0;clear hx hz;go_wp2_with fail
 have f:Fr (bY (w.heap.size+1)) w2 (w2.setCell (w.heap.size+1,()) x):=(Fr.refl _ w2).setCell _ _ (λ_=>rfl);have hx2:=HX.o.setCell 0 x;have y2:(w2.setCell (w.heap.size+1,()) x).cell? (w.heap.size+1,0)=x:=by rw[hx2.cell 0];rfl
 refine bodyPost_ret (qH rfl _ _ _ _ rfl (by kernel_rfl) y2) rfl ?_;exact⟨x,rfl,λhp=>⟨(HZ.o.1 hp).1,S0.o.back (((HZ.o.1 hp).2.own HX (Or.inr rfl) (Nat.le_succ _) f).drop (λk hk=>Or.inl hk))⟩,λhp=>⟨(HZ.o.2 hp).1,S0.o.back (((HZ.o.2 hp).2.own HX (Or.inr rfl) (Nat.le_succ _) f).drop (λk hk=>Or.inl hk))⟩⟩
section
variable {α:Type} (ts:List Tok) (one:Nat->α->PS->Option (α×PS))
def aHl:Nat->α->PS->Option (α×PS)
 | 0,_,_=>none
 | k+1,a,s=>(one k a s).bind λr=>if pIs ts [44] r.2 then aHl k r.1 (pGo r.2) else some (r.1,r.2)
def aQg (k:Nat) (a:α) (s:PS) (r:α×PS):Bool->Prop
 | true=>aHl ts one k a s=some r
 | false=>r=(a,s)
end
section
variable {src:ByteArray}{tb tc:Nat}{ts:List Tok}{g:Nat}{α:Type}
def aNw (src:ByteArray) (tb tc:Nat) (ts:List Tok) (g:Nat) (I:World->PS->α->Prop):Prop:=
 ∀w s a,I w s a->∃R N,QS src tb tc ts g R w w s N∧∀w' s',(s'.e=0->s.e=0)->QS src tb tc ts g R w w' s' N->I w' s' a
theorem aNw.has {I:World->PS->α->Prop} (hI:aNw src tb tc ts g I){a:α} (h:I w s a) (X:ByteArray) (hb:pIs ts X.data.toList s=b):
  Calls prog 118 #[(g,()),X] w λe w'=>e = .returned b∧I w' (if b=true then pGo s else s) a:=by
 obtain⟨R,N,hq,hk⟩:=hI _ _ _ h;exact (hq.has X hb).mono λe w' ⟨he,h'⟩=>⟨he,hk _ _ (by cases b<;>exact λe=>e) h'⟩
theorem aNw.must {I:World->PS->α->Prop} (hI:aNw src tb tc ts g I){a:α} (h:I w s a) (X:ByteArray):
  Calls prog 78 #[(g,()),X] w λe w'=>e = .returned (.tuple #[])∧I w' (aA ts X.data.toList s) a:=by
 obtain⟨R,N,hq,hk⟩:=hI _ _ _ h;exact (hq.must X).mono λe w' ⟨he,h'⟩=>⟨he,hk _ _ ((Ext.refl s).must _).e0 h'⟩
theorem aNw.cell {I:World->PS->α->Prop} (hI:aNw src tb tc ts g I){a:α} (h:I w s a):g<w.heap.size∧w.cell? (g,3)=s.e∧s.i<ts.length∧ts.length<=1000:=by
 obtain⟨R,N,hq,hk⟩:=hI _ _ _ h;obtain⟨h1,_,_,_,h2⟩:=hq.aJv;exact⟨h1,h2,hq.ok.room,hq.toks.few⟩
theorem aHk {one:Nat->α->PS->Option (α×PS)}{I:World->PS->α->Prop}{f:Nat}{cap:Array Value}{L:Nat}{len:α->Nat} (hI:aNw src tb tc ts g I) (hen:Enters prog f)
   (hmono:∀k a s r,one k a s=some r->s.nodes.length<=r.2.nodes.length∧s.i<=r.2.i∧len r.1=len a+1)
   (hone:∀k w s a r,k<=n->I w s a->s.e=0->len a<=1000->one k a s=some r->r.2.nodes.length<=L->Calls prog f cap w λe w'=>e = .returned (.tuple #[])∧I w' r.2 r.1)
   {a:α} {r:α×PS} (h:I w s a) (ha:len a=0) (hs2:aA ts [40] s=s2) (hr:(if pIs ts [41] s2=false∧s2.e=0 then aHl ts one n a s2 else some (a,s2))=some r) (hL:r.2.nodes.length<=L):
   Calls prog 80 #[(g,()),.func (.func f) #[] cap] w λe w'=>e = .returned (.tuple #[])∧I w' (aA ts [41] r.2) r.1:=by
 have HI:=hD hI;have HM:=hD hmono;have HO:=hD hone;have H0:=hD h;have HS2:=hD hs2;have HL:=hD hL;have HA:=hD ha;have hmn:∀k a s r,aHl ts one k a s=some r->s.nodes.length<=r.2.nodes.length:=by
   intro k;induction k with
   | zero=>intro a s r h;cases h
   | succ k ih=>
     intro a s r h;simp only[aHl,bS] at h;obtain⟨u,hu,h⟩:=h;have h1:=(hmono _ _ _ _ hu).1;split at h
     . have h2:=ih _ _ _ h
       have h3:(pGo u.2).nodes=u.2.nodes:=rfl;rw[h3] at h2;omega
     . simp only[aA0] at h
       subst h;exact h1
 have HMN:=hD hmn;clear hmn hI hmono hone h hs2 hL ha;by_cases h41:pIs ts [41] s2=true
 . rw[if_neg (by rw[h41];simp)] at hr
   simp only[aA0] at hr;subst hr;have H41:=hD h41;clear h41;go_enter func80,ntmps80;go_wp2_with fail
   refine stepM (HI.o.must H0 ⟨#[40]⟩) λw1 h1=>?_;have H1:=hD (show I w1 s2 a from by rw[<-HS2.o];exact h1);clear h1;go_wp2_with fail
   refine stepM (HI.o.has H1 ⟨#[41]⟩ H41) λw2 H2=>?_;rw[if_pos rfl] at H2;go_wp2
   refine aPz rfl rfl ⟨rfl,?_⟩;unfold aA;rw[if_pos H41.o];exact H2.o
 . have h41f:pIs ts [41] s2=false:=by simpa using h41
   have H41:=hD h41f;clear h41;obtain⟨b,hb,HR⟩:∃b:Bool,b=decide (s2.e=0)∧Hd (aQg ts one n a s2 r b):=by
     by_cases h0:s2.e=0
     . rw[if_pos ⟨h41f,h0⟩] at hr
       exact⟨true,by simp[h0],hr⟩
     . rw[if_neg (by rintro⟨_,h⟩;exact h0 h)] at hr
       simp only[aA0] at hr;exact⟨false,by simp[h0],hr.symm⟩
   have HB:=hD hb;have heb:((s2.e:Int)==0)=b:=by
     rw[hb];by_cases h0:s2.e=0
     . rw[decide_eq_true h0,h0];rfl
     . rw[decide_eq_false h0];exact bN.2 (by omega)
   clear hr h41f hb;go_enter func80,ntmps80;go_wp2_with fail
   refine stepM (HI.o.must H0 ⟨#[40]⟩) λw1 h1=>?_;have H1:=hD (show I w1 s2 a from by rw[<-HS2.o];exact h1);clear h1;go_wp2_with fail
   refine stepM (HI.o.has H1 ⟨#[41]⟩ H41) λw2 H2=>?_;rw[if_neg (by decide)] at H2;obtain⟨hg,c3,_,_⟩:=HI.o.cell H2.o;go_wp2
   clear hg c3 heb;go_loopg [4] n (λk more wr=>∃(l:α) (s':PS) (b:Bool),more = .bool b∧Hd (k<=n)∧Hd (I wr s' l)∧Hd (aQg ts one k l s' r b)∧Hd (b=true->s'.e=0∧len l<=s'.i))
   case atStart=>exact⟨a,s2,b,by simp,hD (aA1 n),H2,HR,hD (λe=>⟨by have:=HB.o;rw[e] at this;simpa using this.symm,by rw[HA.o];omega⟩)⟩
   case round=>
     obtain⟨l,s',b',rfl,HK,H3,HR3,HE⟩:=hrel;clear H0 H1 H2 HR HB H41;cases b' with
     | false=>
       have hr:r=(l,s'):=HR3.o;subst hr;clear HR3 HE;go_wp2_with fail
       refine stepM (HI.o.must H3 ⟨#[41]⟩) λw4 H4=>?_;go_wp2
       refine fK rfl rfl ⟨rfl,H4⟩
     | true=>
       have hr:aHl ts one gk l s'=some r:=HR3.o;cases gk with
       | zero=>cases hr
       | succ k=>
        simp only[aHl,bS] at hr;obtain⟨u,hu,hr⟩:=hr;obtain⟨he,hl⟩:=HE.o rfl;obtain⟨_,_,hi1,hi2⟩:=HI.o.cell H3.o;obtain⟨m1,m2,m3⟩:=HM.o _ _ _ _ hu;have hul:u.2.nodes.length<=L:=by
         have h9:=HL.o;by_cases hp:pIs ts [44] u.2=true
         . rw[if_pos hp] at hr
           have h8:=HMN.o _ _ _ _ hr;have h7:(pGo u.2).nodes=u.2.nodes:=rfl;rw[h7] at h8;omega
         . rw[if_neg hp] at hr
           simp only[aA0] at hr;subst hr;exact h9
        have HC:=hD (HO k _ _ _ _ (by have:=HK.o;omega) H3 he (by omega) hu hul);obtain⟨z,hz⟩:∃z,pIs ts [44] u.2=z:=⟨_,rfl⟩;have HZ:=hD hz;have HN:=hD (show len u.1<=(pGo u.2).i from by show len u.1<=u.2.i+1;omega);have HR4:=hD (show aQg ts one k u.1 (if z=true then pGo u.2 else u.2) r z from by
         rw[hz] at hr;cases z with
         | true=>rw[if_pos rfl] at hr ⊢;exact hr
         | false=>
           rw[if_neg (by decide)] at hr ⊢;simp only[aA0] at hr;exact hr.symm)
        clear hr hu he hl hi1 hi2 m1 m2 m3 hul hz HR3 HE;go_wp2_with fail
        rw[hen];go_wp2_with fail
        refine HC.o.mono ?_;rintro e w4 ⟨rfl,h4⟩;have H4:=hD h4;clear h4;go_wp2_with fail
        refine stepM (HI.o.has H4 ⟨#[44]⟩ (b:=z) HZ) λw5 H5=>?_;go_wp2
        go_roundg k
        case measure=>omega
        case rel=>exact⟨u.1,_,z,by simp,hD (by have:=HK.o;omega),H5,HR4,hD (λe=>by
         subst e;exact⟨(aM HZ).1,HN⟩)⟩
end
theorem fM.zero (k:Task) (F:FuncId) (args:Array Value):fM src tb tc ts g 0 k F args:=by
 intro R w0 w s r N h hr hn;simp[run] at hr
theorem aEf (h:∀(lv:Nat) (z:Int),((lv:Nat):Int)=z->lv<=5->fM src tb tc ts g n (.chain lv) 186 #[(g,()),z]):fM src tb tc ts g n (.chain 0) 162 #[(g,())]:=by
 intro R w0 w s r N h1 hr hn;have HC:=hD (h 0 0 rfl (by decide) R w0 w s r N h1 hr hn);generalize (if s.e=0 then 10*n else N.n+2)=M at *;clear h h1 hr hn;go_enter func162,ntmps162;go_wp2_with fail
 refine HC.o.mono ?_;rintro e w1 ⟨x,rfl,hx,h1⟩;have S1:=hD h1;have HX:=hD hx;clear h1 hx;go_wp2
 go_ret;exact⟨x,rfl,HX,S1⟩
theorem tX:Enters prog 223:=enters_of func223 (by kernel_rfl) rfl
theorem aAw (hG:fM src tb tc ts g n .factor 202 #[(g,())])
  (h:QS src tb tc ts g R w0 w s N) (h0:s.e=0) (hk:dA ts (pGo s)) (hr:run src.data.toList ts n .factor (pGo s)=some r) (hn:r.2.nodes.length+N.n+10*n+10<=1000000) {v:Value}
  (hb0:Blk w b0 78 #[(g,())]) (hb1:Blk w b1 3 #[v]) (hR:R b1) (hnew:w0.heap.size<=b1):
  Calls prog 223 #[(b0,()),(b1,())] w λe w'=>e = .returned (.tuple #[])∧QS src tb tc ts g R w0 w' r.2 ⟨10*n,N.d⟩ ∧
    (∃x:Nat,Blk w' b1 3 #[x]∧(r.2.e=0->x=oneOf r.1)):=by
 have HT:=hD (h.here.take h0 hk);have H:=hD h;have B0:=hD hb0;have B1:=hD hb1;have HG:=hD hG;have HR:=hD hr;have HN:=hD hn;have H0:=hD h0;obtain⟨cg,hcg⟩:=h.tZ;have G:=hD hcg;have x0:w.cell? (b0,0)=(g,()):=by rw[hb0.cell 0];rfl
 clear h hG hr hn hb0 hb1 hcg h0 hk;go_enter func223,ntmps223;go_wp2_with fail
 refine HT.o.mono ?_;rintro e w2 ⟨rfl,h2⟩;have H2:=hD h2;have C1:=hD (h2.fr.blk B1 (λe=>B1.o.ne G (by decide) e) (by decide));have C0:=hD (h2.fr.blk B0 (λe=>B0.o.ne G (by decide) e) (by decide));clear h2 x0;have x0:w2.cell? (b0,0)=(g,()):=by rw[C0.o.cell 0];rfl
 have HF:=HG.o R w2 w2 (pGo s) r N H2.o.here HR HN.o;rw[if_pos (show (pGo s).e=0 from H0.o)] at HF;have HF:=hD HF;go_wp2_with fail
 refine HF.o.mono ?_;rintro e w3 ⟨x,rfl,hx,h3⟩;have H3:=hD h3;have HX:=hD hx;have D1:=hD (h3.fr.blk C1 (λe=>B1.o.ne G (by decide) e) (by decide));have y1:w3.cell? (b1,0)=some v:=by rw[D1.o.cell 0];rfl
 have z1:=D1.o.frozen 0;clear h3 hx x0;go_wp2_with fail
 have f:Fr (bY b1) w3 (w3.setCell (b1,()) x):=(Fr.refl _ w3).setCell _ _ (λ_=>rfl);refine fK rfl rfl ⟨rfl,(H.o.back (H2.o.back H3)).own D1 hR hnew f,⟨x,D1.o.setCell 0 x,HX⟩⟩
section
variable {src:ByteArray}{tb tc:Nat}{ts:List Tok}{g:Nat}{N:Lim}{R:Nat->Prop}{w0 w:World}{s:PS}
theorem QS.wD (h:QS src tb tc ts g R w0 w s N) (k:Nat) (hkv:((k:Nat):Int)=kv) (y line:Nat) (hy:s.e=0->y=line){name:List UInt8} (hX:bs name=X) (hl:s.e=0->l=[]) (hn:s.nodes.length+N.n<=1000000):
  Calls prog 126 #[(g,()),kv,y,X,Un] w λe w'=>∃x:Nat,e = .returned x∧(s.e=0->x=s.nodes.length)∧QS src tb tc ts g R w0 w' (bR k line 0 name l s).2 N:=
 h.put k hkv y line hy hX (λh0=>by rw[hl h0];exact Own.nil _ _ _) (λk hk=>by simp[blk] at hk) hn
theorem QS.xA (h:QS src tb tc ts g R w0 w s N) (x:Nat){B:Nat} (hB:w.heap.size=B) (k:Nat) (hkv:((k:Nat):Int)=kv) (y line:Nat) (hy:s.e=0->y=line){name:List UInt8} (hX:bs name=X) (hl:s.e=0->l=[x]) (hn:s.nodes.length+N.n<=1000000):
   Calls prog 126 #[(g,()),kv,y,X,(B,1,1)] (w.alloc (.cells #[(x:Int)] 3)) λe w'=>∃x:Nat,e = .returned x∧(s.e=0->x=s.nodes.length)∧QS src tb tc ts g R w0 w' (bR k line 0 name l s).2 N:=by
 subst hB;refine (h.alloc _).put k hkv y line hy hX (λh0=>?_) (λk hk hR=>?_) hn
 . rw[hl h0]
   exact⟨rfl,_,1,rfl,.inr ⟨w.heap.size,_,rfl,by decide,Blk.new w _ _,aA1 _,by decide,rfl,rfl⟩⟩
 . have:=h.res k hR
   have:=nK hk;omega
theorem QS.aOe (h:QS src tb tc ts g R w0 w s N) (x z:Nat){B:Nat} (hB:w.heap.size=B) (k:Nat) (hkv:((k:Nat):Int)=kv) (y line:Nat) (hy:s.e=0->y=line){name:List UInt8} (hX:bs name=X) (hl:s.e=0->l=[x,z]) (hn:s.nodes.length+N.n<=1000000):
   Calls prog 126 #[(g,()),kv,y,X,(B,2,2)] (w.alloc (.cells #[(x:Int),(z:Int)] 3)) λe w'=>∃x:Nat,e = .returned x∧(s.e=0->x=s.nodes.length)∧QS src tb tc ts g R w0 w' (bR k line 0 name l s).2 N:=by
 subst hB;refine (h.alloc _).put k hkv y line hy hX (λh0=>?_) (λk hk hR=>?_) hn
 . rw[hl h0]
   exact⟨rfl,_,2,rfl,.inr ⟨w.heap.size,_,rfl,by decide,Blk.new w _ _,aA1 _,by decide,rfl,rfl⟩⟩
 . have:=h.res k hR
   have:=nK hk;omega
theorem yQ {src':List UInt8}{k:Task} (hp:pIs ts op s=true) (hr:run src' ts n k (pGo (aX ts s))=some r) (hd:16<=s.deep):
  (pUp r.2).e=(aR ts 21 s).e∧(aR ts 21 s).e≠0∧(pUp r.2).place=(aR ts 21 s).place∧(aR ts 21 s).nodes.length<=(pUp r.2).nodes.length:=by
 have h0:=(aM hp).1;have e1:aX ts s={ aR ts 21 s with deep:=s.deep+1 }:=by
  unfold aX;rw[if_pos hd];simp only[fD]
 have f0:(aR ts 21 s).e≠0:=by
  unfold aR;rw[if_pos h0];exact (by decide:(21:Nat)≠0)
 have d0:(aX ts s).e≠0:=by rw[e1];exact f0
 have x3:Ext (aX ts s) (pUp r.2):=((Ext.refl (aX ts s)).go.trans (aK _ _ _ _ hr)).up;have x4:=x3.err d0;obtain⟨x,hx⟩:=x3.nodes;rw[e1] at x4 hx;exact⟨x4.1,f0,x4.2,by rw[hx];simp⟩
theorem QS.signed (hG:fM src tb tc ts g n .factor 202 #[(g,())])
   (h:QS src tb tc ts g R w0 w s N) (hp:pIs ts op s=true) (hr:run src.data.toList ts n .factor (pGo (aX ts s))=some r) (hn:r.2.nodes.length+N.n+10*n+10<=1000000) 
   (hb0:Blk w b0 78 #[(g,())]) (hb1:Blk w b1 3 #[U0]) (hR:R b1) (hnew:w0.heap.size<=b1):
   Calls prog 159 #[(g,()),.func (.func 223) #[] #[(b0,()),(b1,())]] w λe w'=>e = .returned (.tuple #[]) ∧
     ∃x:Nat,Blk w' b1 3 #[x]∧(r.2.e=0->x=oneOf r.1)∧QS src tb tc ts g R w0 w' (pUp r.2) ⟨10*n,N.d⟩:=by
 have h0:=(aM hp).1;obtain⟨cg,hcg⟩:=h.tZ;have n0:b0≠g:=hb0.ne hcg (by decide);have n1:b1≠g:=hb1.ne hcg (by decide);have hkr:dA ts (pUp r.2):=(iQ h.toks _ _ _ _ hr (h.ok.goDown h.toks hp)).up;refine ((h.zero h0 0).deeper h0 223 #[(b0,()),(b1,())] (s2:=r.2) (n2:=10*n) (K:=λw'=>∃x:Nat,Blk w' b1 3 #[x]∧(r.2.e=0->x=oneOf r.1))
   (λhdn w1 hw1 hf=>?_) (λw' w'' hf ⟨x,hx,hxx⟩=>⟨x,hf.blk hx n1 (by decide),hxx⟩) tX (λ_=>hkr)).mono ?_
 . refine (aAw hG hw1 h0 (by rw[<-hdn];exact h.ok.goDown h.toks hp) (by rw[<-hdn];exact hr) (by show r.2.nodes.length+0+10*n+10<=1000000;omega) (hf.blk hb0 n0 (by decide)) (hf.blk hb1 n1 (by decide)) hR hnew).mono ?_
   rintro e w' ⟨he,hq,hx⟩;refine⟨he,hq,λ_=>?_,hx⟩;have:=iG _ _ _ _ hr;rw[lV,dO] at this;exact this
 . rintro e w' ⟨he,hA,hB⟩
   refine⟨he,?_⟩;by_cases hd:16<=s.deep
   . obtain⟨hq,hf⟩:=hA hd
     obtain⟨e1,e2,e3,e4⟩:=yQ hp hr hd;exact⟨0,hf.blk hb1 n1 (by decide),λe=>absurd (show (pUp r.2).e=0 from e) (by rw[e1];exact e2),(hq.bad e2 e1 e3 e4 hkr).more (aA4 _)⟩
   . obtain⟨hq,x,hx,hxx⟩:=hB (by omega)
     exact⟨x,hx,hxx,hq⟩
end
section
variable {src:ByteArray}{tb tc:Nat}{ts:List Tok}{g:Nat}{N N':Lim}{R:Nat->Prop}{w0 w w':World}{s s':PS}{v:Value}{l:List Nat}{bl:Nat}
theorem zB:∀{ns:List aF}{vs:List Value},bD w ns vs->∀v∈vs,∃n xs,Own w 3 1 v n xs
 | [],[],_,_,hv=>by cases hv
 | [],_ :: _,h,_,_=>h.elim
 | _ :: _,[],h,_,_=>h.elim
 | _ :: ns,u :: vs,h,v,hv=>by
  rcases List.mem_cons.1 hv with rfl|hv
  . exact⟨_,_,h.1⟩
  . exact zB h.2 v hv
theorem gM.frM {q:PQ}{lvs:List Value} (hq:gM src tb tc ts g w q) (hs:Sim ts R w q s lvs N) (f:Fr M w w')
   (hM:∀k,M k->∃t cs,Blk w k t cs∧t≠82∧t≠50∧t≠115∧(t=3->R k)):gM src tb tc ts g w' q∧Sim ts R w' q s lvs N:=by
 obtain⟨b0,ht⟩:=hq.toks;refine⟨⟨hq.blk.fr f (λhm=>?_),hq.own.fr f (λk hk hm=>?_),⟨b0,ht.own.fr f (λk hk hm=>?_),ht.new⟩,hq.room,hq.newer⟩,hs.e,hs.place,hs.deep,hs.pos,hs.row,λh0=>(hs.below h0).avoid f (λv hv k hk hm=>?_),hs.avoid,hs.bad⟩
 . obtain⟨t,cs,hb,h1,h2,h3,h4⟩:=hM _ hm
   exact hb.ne hq.blk h1 rfl
 . obtain⟨t,cs,hb,h1,h2,h3,h4⟩:=hM _ hm
   exact hq.own.aD hb (Ne.symm h2) hk
 . obtain⟨t,cs,hb,h1,h2,h3,h4⟩:=hM _ hm
   exact ht.own.aD hb (Ne.symm h3) hk
 . obtain⟨t,cs,hb,h1,h2,h3,h4⟩:=hM _ hm
   by_cases ht:t=3
   . exact hs.avoid h0 v hv k hk (h4 ht)
   . obtain⟨n,xs,ho⟩:=zB (hs.below h0) v hv
     exact ho.aD hb (Ne.symm ht) hk
theorem QS.frM (h:QS src tb tc ts g R w0 w s N) (f:Fr M w w') (hn:∀k,M k->w0.heap.size<=k)
   (hM:∀k,M k->∃t cs,Blk w k t cs∧t≠82∧t≠50∧t≠115∧(t=3->R k)):QS src tb tc ts g R w0 w' s N:=by
 obtain⟨q,lvs,hq,hs⟩:=h.q;obtain⟨hq',hs'⟩:=hq.frM hs f hM;refine⟨⟨q,lvs,hq',hs'⟩,λk hk=>Nat.lt_of_lt_of_le (h.res k hk) f.size,h.ok,h.toks,h.long,?_,⟨h.most.1,h.most.2.imp λm hm=>hm.fr f (λe=>?_)⟩⟩
 . exact Fr.trans h.fr f (λ_ _ x=>x) (λk hk hm=>by have:=hn k hm;omega)
 . have:=hn _ e
   have:=h.most.1;omega
theorem QS.cell (h:QS src tb tc ts g R w0 w s N){b:Nat}{t:TypeId} (hb:Blk w b t cs) (h1:t≠82) (h2:t≠50) (h3:t≠115) (h4:t≠3) (hn:w0.heap.size<=b) (i:Nat) (u:Value):QS src tb tc ts g R w0 (w.setCell (b,i) u) s N:=
 h.frM (M:=bY b) ((Fr.refl (bY b) w).setCell _ _ (λ_=>rfl)) (λk hk=>by rw[show k=b from hk];exact hn) (λk hk=>⟨t,cs,by rw[show k=b from hk];exact hb,h1,h2,h3,λe=>absurd e h4⟩)
structure QRw (src:ByteArray) (tb tc:Nat) (ts:List Tok) (g:Nat) (R:Nat->Prop) (bl:Nat) (w0 w:World) (s:PS) (N:Lim) (v:Value) (l:List Nat):Prop where
 q:QS src tb tc ts g (RV R v) w0 w s N
 cell:Blk w bl 27 #[v]
 own:Own w 3 1 v l.length (ints l)
 nr:∀k,blk v=some k->¬R k
 nw:∀k,blk v=some k->w0.heap.size<=k
 bnew:w0.heap.size<=bl
theorem QRw.to (h:QRw src tb tc ts g R bl w0 w s N v l) (h':QS src tb tc ts g (RV R v) w w' s' N'):QRw src tb tc ts g R bl w0 w' s' N' v l:=by
 obtain⟨cs,hg⟩:=h.q.tZ;exact⟨h.q.back h',h'.fr.blk h.cell (λe=>h.cell.ne hg (by decide) e) (by decide),h.own.frR hg (by decide) (by decide) h'.fr,h.nr,h.nw,h.bnew⟩
theorem QRw.app (h:QRw src tb tc ts g R bl w0 w s N v l){o:Obj}{w3:World}{v':Value}{l':List Nat} (ho:Own w3 3 1 v' l'.length (ints l')) (hf:Fr (obl (blk v)) (w.alloc o) w3) (hv:blk v'=blk v∨blk v'=some (w.alloc o).heap.size):
   QRw src tb tc ts g R bl w0 (w3.setCell (bl,()) v') s N v' l':=by
 have h1:=h.q.alloc o;have hown:=h.own.alloc o;obtain⟨q,lvs,hq,hs⟩:=h1.q;have hMk:∀k,obl (blk v) k->∃t cs,Blk (w.alloc o) k t cs∧t≠82∧t≠50∧t≠115∧(t=3->RV R v k):=λk hk=>by
   obtain⟨cs,hb⟩:=hown.ty hk;exact⟨_,cs,hb,by decide,by decide,by decide,λ_=> .inr hk⟩
 obtain⟨hq3,hs3⟩:=hq.frM hs hf hMk;have hlt:s.e=0->∀u∈lvs,∀j,blk u=some j->j<(w.alloc o).heap.size:=λh0=>oN (hs.below h0)
 have hR':∀k,RV R v' k->k<w3.heap.size:=λk hk=>by
   rcases hk with hk|hk
   . have:=h1.res k (.inl hk);have:=hf.size;omega
   . exact ho.aZ hk
 have h3:QS src tb tc ts g (RV R v') w0 w3 s N:=by
   have h3:=h1.frM hf (λk hk=>h.nw k hk) hMk;refine⟨⟨q,lvs,hq3,hs3.e,hs3.place,hs3.deep,hs3.pos,hs3.row,hs3.below,λh0 u hu j hj hr=>?_,hs3.bad⟩,hR',h3.ok,h3.toks,h3.long,h3.fr,h3.most⟩;rcases hr with hr|hr
   . exact hs.avoid h0 u hu j hj (.inl hr)
   . rcases hv with e|e
     . exact hs.avoid h0 u hu j hj (.inr (by rw[<-e];exact hr))
     . rw[e] at hr
       injection hr with hr;have:=hlt h0 u hu j hj;omega
 have hc3:Blk w3 bl 27 #[v]:=(h.cell.alloc o).fr hf (λhm=>hown.aD (h.cell.alloc o) (by decide) hm);refine⟨h3.cell hc3 (by decide) (by decide) (by decide) (by decide) h.bnew 0 v',hc3.setCell 0 v',?_,λk hk hr=>?_,λk hk=>?_,h.bnew⟩
 . exact ho.fr (M:=bY bl) ((Fr.refl (bY bl) w3).setCell _ _ (λ_=>rfl)) (λk hk hm=>ho.aD hc3 (by decide) (by rw[hk,show k=bl from hm]))
 . rcases hv with e|e
   . rw[e] at hk;exact h.nr k hk hr
   . rw[e] at hk
     injection hk with hk;have:=h1.res k (.inl hr);omega
 . rcases hv with e|e
   . rw[e] at hk;exact h.nw k hk
   . rw[e] at hk
     injection hk with hk;have:=h1.fr.size;omega
theorem QRw.start (h:QS src tb tc ts g R w0 w s N) (hc:Blk w bl 27 #[Un]) (hb:w0.heap.size<=bl):QRw src tb tc ts g R bl w0 w s N Un []:=by
 have hn:∀k,blk Un≠some k:=λk hk=>by simp[blk] at hk
 obtain⟨q,lvs,hq,hs⟩:=h.q;refine⟨⟨⟨q,lvs,hq,hs.e,hs.place,hs.deep,hs.pos,hs.row,hs.below,λh0 u hu j hj hr=>?_,hs.bad⟩,λk hk=>?_,h.ok,h.toks,h.long,h.fr,h.most⟩,hc,Own.nil _ _ _,λk hk=>absurd hk (hn k),λk hk=>absurd hk (hn k),hb⟩
 . rcases hr with hr|hr
   . exact hs.avoid h0 u hu j hj hr
   . exact hn _ hr
 . rcases hk with hk|hk
   . exact h.res k hk
   . exact absurd hk (hn k)
end
theorem aIo {x y:List UInt8} (h:pIs ts x s=true) (hxy:x≠y):pIs ts y s=false:=by
 cases hh:pIs ts y s with
 | false=>rfl
 | true=>exact absurd ((aM h).2.2.symm.trans (aM hh).2.2) hxy
structure aRr (src:ByteArray) (tb tc:Nat) (ts:List Tok) (g n:Nat):Prop where
 factor:fM src tb tc ts g n .factor 202 #[(g,())]
 atom:fM src tb tc ts g n .atom 222 #[(g,())]
theorem xW (ih:aRr src tb tc ts g n):fM src tb tc ts g (n+1) .factor 202 #[(g,())]:=by
 intro R w0 w s r N h hr hn;have IH:=hD ih;have S0:=hD h;obtain⟨cg,hcg⟩:=h.tZ;have hgl:g<w.heap.size:=hcg.lt;have GL:=hD hgl;have A0:Hd (Fr nob w (w.alloc (.cells #[(g,())] 78))):=(fR w).alloc _;have B0:=hD (Blk.new w 78 #[(g,())]);have hsz1:(w.alloc (.cells #[(g,())] 78)).heap.size=w.heap.size+1:=by simp
 obtain⟨W1,hW1⟩:∃W1,W1=w.alloc (.cells #[(g,())] 78):=⟨_,rfl⟩;rw[<-hW1] at A0 B0 hsz1;have S1:=hD (S0.o.no A0).here;have x0:W1.cell? (w.heap.size,0)=(g,()):=by rw[B0.o.cell 0];rfl
 have HW:=hD hW1;have HS1:=hD hsz1;simp only[run] at hr;by_cases hp:pIs ts [45] s=true
 . rw[if_pos hp] at hr
   have HB33:=hD (aIo (y:=[33]) hp (by decide));have HB45:=hD hp;simp only[mS] at hr;obtain⟨q,hq,rfl⟩:=hr;have HQ1:=hD (aJ _ _ _ _ hq trivial);have HR:=hD hq;have HP:=hD hp;have H0:=hD (aM hp).1;rw[if_pos H0.o];have hn2:q.2.nodes.length+1+N.n+10*(n+1)+10<=1000000:=by simpa[bR,pUp] using hn
   have HN1:=hD (show q.2.nodes.length+N.n+10*n+10<=1000000 by omega);have HN2:=hD (show (pUp q.2).nodes.length+10*n<=1000000 by show q.2.nodes.length+10*n<=1000000;omega);have HE:=hD (show (pUp q.2).e=0->s.e=0 from λ_=>H0.o);clear h hq hn hn2 hcg hgl hsz1 hW1 hp;go_enter func202,ntmps202;go_wp2_with fail
   rw[<-HW.o];refine S1.o.line.mono ?_;rintro e w2 ⟨y,rfl,hy,h2⟩;have S2:=hD h2;have HY:=hD hy;have B2:=hD (S2.o.fr.blk B0 (λe=>by have:=GL.o;omega) (by decide));have L2:=hD S2.o.fr.size;clear h2 hy x0;have x0:w2.cell? (w.heap.size,0)=(g,()):=by rw[B2.o.cell 0];rfl
   have A3:Hd (Fr nob w2 (w2.alloc (.cells #[.string ⟨#[33]⟩] 9))):=(fR w2).alloc _;have HI:=hD ((S2.o.no A3).is1 ⟨#[33]⟩ (Blk.new w2 _ _) HB33);have z0:(w2.alloc (.cells #[.string ⟨#[33]⟩] 9)).cell? (w.heap.size,0)=(g,()):=by rw[(B2.o.alloc _).cell 0];rfl
   go_wp2_with fail
   refine HI.o.mono ?_;rintro e w3 ⟨rfl,h3⟩;have A3':=hD (A3.o.tr h3);have S3:=hD (S2.o.no A3');have B3:=hD (B2.o.fr A3' (λx=>x));have L3:=hD A3'.o.size;clear h3 x0 z0;have x0:w3.cell? (w.heap.size,0)=(g,()):=by rw[B3.o.cell 0];rfl
   have A4:Hd (Fr nob w3 (w3.alloc (.cells #[.string ⟨#[45]⟩] 9))):=(fR w3).alloc _;have HJ:=hD ((S3.o.no A4).is1 ⟨#[45]⟩ (Blk.new w3 _ _) HB45);have z0:(w3.alloc (.cells #[.string ⟨#[45]⟩] 9)).cell? (w.heap.size,0)=(g,()):=by rw[(B3.o.alloc _).cell 0];rfl
   go_wp2_with fail
   refine HJ.o.mono ?_;rintro e w4 ⟨rfl,h4⟩;have A4':=hD (A4.o.tr h4);have S4:=hD (S3.o.no A4');have B4:=hD (B3.o.fr A4' (λx=>x));have L4:=hD A4'.o.size;clear h4 x0 z0;have x0:w4.cell? (w.heap.size,0)=(g,()):=by rw[B4.o.cell 0];rfl
   have HG4:=hD (show g<w4.heap.size by have:=GL.o;have:=L2.o;have:=L3.o;have:=L4.o;have:=HS1.o;omega);have HL4:=hD (show W1.heap.size<=w4.heap.size by have:=L2.o;have:=L3.o;have:=L4.o;omega);have S5:=hD (S4.o.box (.cells #[U0] 3));have C5:=hD (Blk.new w4 3 #[U0]);have B5:=hD (B4.o.alloc (.cells #[U0] 3));have HD:=hD (S5.o.signed IH.o.factor HP HR HN1 B5 C5 (Or.inr rfl) HL4);have x5:(w4.alloc (.cells #[U0] 3)).cell? (w.heap.size,0)=(g,()):=by rw[B5.o.cell 0];rfl
   have hmf:∀(fn:Fn) (first cap:Array Value) (w:World),(Instr.makeFunc fn first cap).run prog w = .ok (.func fn first cap) w:=λ_ _ _ _=>rfl
   go_wp2_with fail
   refine HD.o.mono ?_;rintro e w6 ⟨rfl,x,hx,hxx,h6⟩;have S6:=hD h6;have C6:=hD hx;have HXX:=hD hxx;have B6:=hD (S6.o.fr.blk B0 (λe=>by have:=GL.o;omega) (by decide));clear hx hxx h6 x0 x5;have x0:w6.cell? (w.heap.size,0)=(g,()):=by rw[B6.o.cell 0];rfl
   have y0:w6.cell? (w4.heap.size,0)=x:=by rw[C6.o.cell 0];rfl
   have HPT:=hD (S6.o.drop (λk hk=>Or.inl hk) |>.xA (R:=R) x rfl 7 rfl y (bJ src.data.toList ts s) (λe=>HY.o (HE e)) (name:=[]) rfl (l:=q.1) (λe=>by rw[HQ1.o,HXX.o e]) HN2);go_wp2_with fail
   refine HPT.o.mono ?_;rintro e w7 ⟨x7,rfl,hx7,h7⟩;have S7:=hD h7;have HX7:=hD hx7;clear h7 hx7;go_wp2
   go_ret;refine⟨x7,rfl,λe=>?_,(S0.o.no A0).back (S7.o.more (by show 10*n<=10*(n+1);omega))⟩;rw[HX7.o e];rfl
 . have HB45:=hD (show pIs ts [45] s=false by simpa using hp)
   rw[if_neg hp] at hr;clear hp;by_cases hp:pIs ts [33] s=true
   . rw[if_pos hp] at hr
     have HB33:=hD hp;simp only[mS] at hr;obtain⟨q,hq,rfl⟩:=hr;have HQ1:=hD (aJ _ _ _ _ hq trivial);have HR:=hD hq;have HP:=hD hp;have H0:=hD (aM hp).1;rw[if_pos H0.o];have hn2:q.2.nodes.length+1+N.n+10*(n+1)+10<=1000000:=by simpa[bR,pUp] using hn
     have HN1:=hD (show q.2.nodes.length+N.n+10*n+10<=1000000 by omega);have HN2:=hD (show (pUp q.2).nodes.length+10*n<=1000000 by show q.2.nodes.length+10*n<=1000000;omega);have HE:=hD (show (pUp q.2).e=0->s.e=0 from λ_=>H0.o);clear h hq hn hn2 hcg hgl hsz1 hW1 hp;go_enter func202,ntmps202;go_wp2_with fail
     rw[<-HW.o];refine S1.o.line.mono ?_;rintro e w2 ⟨y,rfl,hy,h2⟩;have S2:=hD h2;have HY:=hD hy;have B2:=hD (S2.o.fr.blk B0 (λe=>by have:=GL.o;omega) (by decide));have L2:=hD S2.o.fr.size;clear h2 hy x0;have x0:w2.cell? (w.heap.size,0)=(g,()):=by rw[B2.o.cell 0];rfl
     have A3:Hd (Fr nob w2 (w2.alloc (.cells #[.string ⟨#[33]⟩] 9))):=(fR w2).alloc _;have HI:=hD ((S2.o.no A3).is1 ⟨#[33]⟩ (Blk.new w2 _ _) HB33);have z0:(w2.alloc (.cells #[.string ⟨#[33]⟩] 9)).cell? (w.heap.size,0)=(g,()):=by rw[(B2.o.alloc _).cell 0];rfl
     go_wp2_with fail
     refine HI.o.mono ?_;rintro e w3 ⟨rfl,h3⟩;have A3':=hD (A3.o.tr h3);have S3:=hD (S2.o.no A3');have B3:=hD (B2.o.fr A3' (λx=>x));have L3:=hD A3'.o.size;clear h3 x0 z0;have x0:w3.cell? (w.heap.size,0)=(g,()):=by rw[B3.o.cell 0];rfl
     have S4:=hD S3.o;have B4:=hD B3.o;have L4:=hD (aA1 w3.heap.size);generalize hw34:w3=w4 at *;have HG4:=hD (show g<w4.heap.size by have:=GL.o;have:=L2.o;have:=L3.o;have:=L4.o;have:=HS1.o;omega);have HL4:=hD (show W1.heap.size<=w4.heap.size by have:=L2.o;have:=L3.o;have:=L4.o;omega);have S5:=hD (S4.o.box (.cells #[U0] 3));have C5:=hD (Blk.new w4 3 #[U0]);have B5:=hD (B4.o.alloc (.cells #[U0] 3));have HD:=hD (S5.o.signed IH.o.factor HP HR HN1 B5 C5 (Or.inr rfl) HL4);have x5:(w4.alloc (.cells #[U0] 3)).cell? (w.heap.size,0)=(g,()):=by rw[B5.o.cell 0];rfl
     have hmf:∀(fn:Fn) (first cap:Array Value) (w:World),(Instr.makeFunc fn first cap).run prog w = .ok (.func fn first cap) w:=λ_ _ _ _=>rfl
     go_wp2_with fail
     refine HD.o.mono ?_;rintro e w6 ⟨rfl,x,hx,hxx,h6⟩;have S6:=hD h6;have C6:=hD hx;have HXX:=hD hxx;have B6:=hD (S6.o.fr.blk B0 (λe=>by have:=GL.o;omega) (by decide));clear hx hxx h6 x0 x5;have x0:w6.cell? (w.heap.size,0)=(g,()):=by rw[B6.o.cell 0];rfl
     have y0:w6.cell? (w4.heap.size,0)=x:=by rw[C6.o.cell 0];rfl
     have HPT:=hD (S6.o.drop (λk hk=>Or.inl hk) |>.xA (R:=R) x rfl 8 rfl y (bJ src.data.toList ts s) (λe=>HY.o (HE e)) (name:=[]) rfl (l:=q.1) (λe=>by rw[HQ1.o,HXX.o e]) HN2);go_wp2_with fail
     refine HPT.o.mono ?_;rintro e w7 ⟨x7,rfl,hx7,h7⟩;have S7:=hD h7;have HX7:=hD hx7;clear h7 hx7;go_wp2
     go_ret;refine⟨x7,rfl,λe=>?_,(S0.o.no A0).back (S7.o.more (by show 10*n<=10*(n+1);omega))⟩;rw[HX7.o e];rfl
   . rw[if_neg hp] at hr
     have HB33:=hD (show pIs ts [33] s=false by simpa using hp);obtain⟨M',hM'⟩:∃M',M'=(if s.e=0 then 10*(n+1) else N.n+2):=⟨_,rfl⟩;rw[<-hM'];have HM':=hD hM';clear hM';have hn3:r.2.nodes.length+N.n+10*n+10<=1000000:=by omega
     have HR:=hD hr;have HN:=hD hn3;clear h hr hn hn3 hcg hgl hsz1 hW1 hp;go_enter func202,ntmps202;go_wp2_with fail
     rw[<-HW.o];refine S1.o.line.mono ?_;rintro e w2 ⟨y,rfl,hy,h2⟩;have S2:=hD h2;have HY:=hD hy;have B2:=hD (S2.o.fr.blk B0 (λe=>by have:=GL.o;omega) (by decide));have L2:=hD S2.o.fr.size;clear h2 hy x0;have x0:w2.cell? (w.heap.size,0)=(g,()):=by rw[B2.o.cell 0];rfl
     have A3:Hd (Fr nob w2 (w2.alloc (.cells #[.string ⟨#[33]⟩] 9))):=(fR w2).alloc _;have HI:=hD ((S2.o.no A3).is1 ⟨#[33]⟩ (Blk.new w2 _ _) HB33);have z0:(w2.alloc (.cells #[.string ⟨#[33]⟩] 9)).cell? (w.heap.size,0)=(g,()):=by rw[(B2.o.alloc _).cell 0];rfl
     go_wp2_with fail
     refine HI.o.mono ?_;rintro e w3 ⟨rfl,h3⟩;have A3':=hD (A3.o.tr h3);have S3:=hD (S2.o.no A3');have B3:=hD (B2.o.fr A3' (λx=>x));have L3:=hD A3'.o.size;clear h3 x0 z0;have x0:w3.cell? (w.heap.size,0)=(g,()):=by rw[B3.o.cell 0];rfl
     have A4:Hd (Fr nob w3 (w3.alloc (.cells #[.string ⟨#[45]⟩] 9))):=(fR w3).alloc _;have HJ:=hD ((S3.o.no A4).is1 ⟨#[45]⟩ (Blk.new w3 _ _) HB45);have z0:(w3.alloc (.cells #[.string ⟨#[45]⟩] 9)).cell? (w.heap.size,0)=(g,()):=by rw[(B3.o.alloc _).cell 0];rfl
     go_wp2_with fail
     refine HJ.o.mono ?_;rintro e w4 ⟨rfl,h4⟩;have A4':=hD (A4.o.tr h4);have S4:=hD (S3.o.no A4');have B4:=hD (B3.o.fr A4' (λx=>x));have L4:=hD A4'.o.size;clear h4 x0 z0;have x0:w4.cell? (w.heap.size,0)=(g,()):=by rw[B4.o.cell 0];rfl
     have HA:=IH.o.atom R w4 w4 s r N S4.o.here HR HN.o;obtain⟨M,hM⟩:∃M,M=(if s.e=0 then 10*n else N.n+2):=⟨_,rfl⟩;rw[<-hM] at HA;have HA:=hD HA;have HM:=hD (show M<=M' by rw[hM,HM'.o];split<;>omega);clear hM;go_wp2_with fail
     refine HA.o.mono ?_;rintro e w5 ⟨x,rfl,hx,h5⟩;have S5:=hD h5;have HX:=hD hx;clear h5 hx;go_wp2
     go_ret;exact⟨x,rfl,HX,(S0.o.no A0).back (S4.o.back (S5.o.more HM))⟩
theorem QS.next (h:QS src tb tc ts g R w0 w s N):
  Calls prog 76 #[(g,())] w λe w'=>∃t:Tok,e = .returned (pW t)∧(s.e=0->t=bI ts s)∧QS src tb tc ts g R w0 w' s N:=by
 obtain⟨q,lvs,hq,hs⟩:=h.q;exact (jC hq).mono λe w' ⟨he,hf⟩=>⟨_,he,λh0=>hs.tok h0,h.no hf⟩
theorem oQ (hG:fM src tb tc ts g n (.chain 0) 162 #[(g,())])
  (h:QS src tb tc ts g R w0 w s N) (k1:bM ts 1 s=false) (k2:bM ts 2 s=false) (k3:bM ts 3 s=false) (i1:pIs ts [116,114,117,101] s=false) (i2:pIs ts [102,97,108,115,101] s=false) (i3:pIs ts [108,101,110] s=false)
  (hr:pIs ts [40] s=true->run src.data.toList ts n (.chain 0) (aA ts [40] (aX ts s))=some r) (hn:pIs ts [40] s=true->r.2.nodes.length+N.n+10*n+10<=1000000):
  Calls prog 222 #[(g,())] w λe w'=>∃x:Nat,e = .returned x ∧
    (pIs ts [40] s=false->x=0∧QS src tb tc ts g R w0 w' (aR ts 20 s) N) ∧
    (pIs ts [40] s=true->((pUp (aA ts [41] r.2)).e=0->x=oneOf r.1)∧QS src tb tc ts g R w0 w' (pUp (aA ts [41] r.2)) ⟨N.n+10*n,N.d⟩):=by
 have S0:=hD h;have HG:=hD hG;have HR:=hD hr;have HN:=hD hn;have K1:=hD k1;have K2:=hD k2;have K3:=hD k3;have I1:=hD i1;have I2:=hD i2;have I3:=hD i3;clear h hG hr hn k1 k2 k3 i1 i2 i3;go_enter func222,ntmps222;go_wp2_with fail
 refine S0.o.line.mono ?_;rintro e w1 ⟨y,rfl,hy,h1⟩;have S1:=hD h1;clear h1 hy;go_wp2_with fail
 refine S1.o.next.mono ?_;rintro e w2 ⟨t,rfl,ht,h2⟩;have S2:=hD h2;clear h2 ht;unfold pW;go_wp2_with fail
 have S3:=hD (S2.o.alloc (.cells #[t.kind,bs t.text,t.place] 115));generalize w2.alloc (.cells #[t.kind,bs t.text,t.place] 115)=w3 at *;refine stepM (S3.o.kind 1 K1) λw4 S4=>?_;go_wp2_with fail
 refine stepM (S4.o.kind 2 K2) λw5 S5=>?_;go_wp2_with fail
 refine stepM (S5.o.kind 3 K3) λw6 S6=>?_;go_wp2_with fail
 refine stepM (S6.o.has ⟨#[116,114,117,101]⟩ I1) λw7 S7=>?_;rw[if_neg (by decide)] at S7;go_wp2_with fail
 refine stepM (S7.o.has ⟨#[102,97,108,115,101]⟩ I2) λw8 S8=>?_;rw[if_neg (by decide)] at S8;go_wp2_with fail
 refine stepM (S8.o.has ⟨#[108,101,110]⟩ I3) λw9 S9=>?_;rw[if_neg (by decide)] at S9;go_wp2_with fail
 refine eF (S9.o.inner HG ⟨#[40]⟩ ⟨#[41]⟩ HR HN) λx w10 HA HB=>?_;go_wp2
 go_ret;exact⟨x,rfl,HA,HB⟩
end Go.Proofs.YtlbjicjinnnboaaGreatDoor
