/- MvP: laws and walks for CheckVisible. -/
import Derived.Test.YtlbjicjinnnboaaGreatDoorMvO
import Derived.Test.YtlbjicjinnnboaaGreatDoorMvF
import Derived.Test.YtlbjicjinnnboaaGreatDoorMvM
import Derived.Laws.EntriesVeiled
import Derived.Test.YtlbjicjinnnboaaGreatDoorMvG
set_option maxHeartbeats 8000000
set_option maxRecDepth 100000
set_option linter.unusedVariables false
set_option linter.unusedSimpArgs false
namespace Go.Proofs.YtlbjicjinnnboaaGreatDoor
open Go.RowKit Go.Proofs.Tryz
variable {ts:List Tok}{n g tb tc b0 m c:Nat}{s:PS}{R:Nat->Prop}{w w0 w':World}{src:ByteArray}{l:List Nat}{N:Lim}{o:Obj}{v':Value}{A:Option Addr}
theorem oI {src:List UInt8}{t:Task}{op X:List UInt8}{r:List Nat×PS} (hp:pIs ts op s=true) (hr:run src ts n t (aA ts op (aX ts s))=some r):
   (s.deep<16->run src ts n t (pGo { s with deep:=s.deep+1 })=some r) ∧
     (16<=s.deep->(pUp (aA ts X r.2)).e=(aR ts 21 s).e∧(aR ts 21 s).e≠0∧(pUp (aA ts X r.2)).place=(aR ts 21 s).place∧(aR ts 21 s).nodes.length<=(pUp (aA ts X r.2)).nodes.length):=by
 have h0:=(aM hp).1;constructor
 . intro hd
   have e1:aX ts s={ s with deep:=s.deep+1 }:=by
     unfold aX;rw[if_neg (by omega)]
   have e2:aA ts op (aX ts s)=pGo { s with deep:=s.deep+1 }:=by
     rw[e1];unfold aA;rw[if_pos (by simpa[pIs,bI] using hp)]
   rw[<-e2];exact hr
 . intro hd
   have e1:aX ts s={ aR ts 21 s with deep:=s.deep+1 }:=by
     unfold aX;rw[if_pos hd];simp only[fD]
   have f0:(aR ts 21 s).e≠0:=by
     unfold aR;rw[if_pos h0];exact (by decide:(21:Nat)≠0)
   have d0:(aX ts s).e≠0:=by rw[e1];exact f0
   have x1:Ext (aX ts s) (aA ts op (aX ts s)):=(Ext.refl _).must _;have x2:=x1.trans (aK _ _ _ _ hr);have x3:Ext (aX ts s) (pUp (aA ts X r.2)):=(x2.must (ts:=ts) X).up;have x4:=x3.err d0;obtain⟨x,hx⟩:=x3.nodes;rw[e1] at x4 hx;exact⟨x4.1,f0,x4.2,by rw[hx];simp⟩
def zH (g:Nat) (R:Nat->Prop) (bl b0:Nat) (s:PS) (l:List Nat) (w:World):Prop:=
 ∃A m c l',Blk w bl 27 #[.slice A m c]∧Own w 3 1 (.slice A m c) l'.length (ints l')∧(s.e=0->l'=l)∧(∀k,blk (.slice A m c)=some k->¬R k∧k≠g)∧Blk w b0 78 #[(g,())]
theorem zH.frR {bl:Nat} (h:zH g R bl b0 s l w) (hbl:bl≠g) (hb0:b0≠g) (f:FrR g w w'):zH g R bl b0 s l w':=by
 obtain⟨A,m,c,l',h1,h2,h3,h4,h5⟩:=h;refine⟨A,m,c,l',f.blk h1 hbl (by decide),h2.fr f (λk hk hm=>?_),h3,h4,f.blk h5 hb0 (by decide)⟩;rcases hm with e|⟨_,cs,fz,hc⟩
 . exact (h4 k hk).2 e
 . obtain⟨cs2,hb⟩:=h2.ty hk
   unfold Blk at hb;rw[hb] at hc;injection hc with hc;injection hc with _ ht;exact absurd ht (by decide)
theorem aAi (ih:∀m,m<n->aCu src tb tc ts g m):tK src tb tc ts g (n+1):=by
 intro R w0 w s r N h hr hn hnz;have S0:=hD h;obtain⟨cg,hcg⟩:=h.tZ;have hgl:g<w.heap.size:=hcg.lt;have A0:Hd (Fr nob w (w.alloc (.cells #[(g,())] 78))):=(fR w).alloc _;have B0:=hD (Blk.new w 78 #[(g,())]);obtain⟨W1,hW1⟩:∃W1,W1=w.alloc (.cells #[(g,())] 78):=⟨_,rfl⟩;rw[<-hW1] at A0 B0;have hsz:W1.heap.size=w.heap.size+1:=by rw[hW1];simp
 have HSZ:=hD hsz;have x0:W1.cell? (w.heap.size,0)=(g,()):=by rw[B0.o.cell 0];rfl
 have HW:=hD hW1;have hmf:∀(fn:Fn) (first cap:Array Value) (w:World),(Instr.makeFunc fn first cap).run prog w = .ok (.func fn first cap) w:=λ_ _ _ _=>rfl
 have NE:=hD (show ∀k,w.heap.size<=k->k≠g from λk hk e=>by omega);simp only[run] at hr;by_cases hp:pIs ts [123] s=true
 . rw[if_pos hp] at hr
   simp only[mS] at hr;obtain⟨q,hq,rfl⟩:=hr;have h0:=(aM hp).1;rw[if_pos h0];have S1:=hD ((S0.o.no A0).here.zero h0 (10*n));have hn2:(pUp (aA ts [125] q.2)).nodes.length+1+20*(n+1)+40<=1000000:=by simpa[bR] using hnz h0
   have hnm:=fJ (ts:=ts) [125] q.2;have HN:=hD (show q.2.nodes.length+20*n+40<=1000000 by omega);have HN2:=hD (show (pUp (aA ts [125] q.2)).nodes.length+10*n<=1000000 by omega);have HQ:=hD hq;have HP:=hD hp;have HI:=hD ih;have HUP:Hd (dA ts (pUp (aA ts [125] q.2))):=((iQ h.toks _ _ _ _ hq ((h.ok.down h.toks h0).must h.toks _)).must h.toks _).up;have HDP:=hD (show q.2.e=0->q.2.deep=s.deep+1 from λ_=>by
    have:=iG _ _ _ _ hq;rw[bH,dO] at this;exact this)
   have H0:=hD h0;clear h hcg hgl hsz hq hn hnz hn2 hnm h0 hp ih hW1;go_enter func84,ntmps84;go_wp2_with fail
   rw[<-HW.o];refine S1.o.line.mono ?_;rintro e w2 ⟨y,rfl,hy,h2⟩;have S2:=hD h2;have HY:=hD (hy H0);have L2:=hD S2.o.fr.size;have B2:=hD (S2.o.fr.blk B0 (NE _ (aA1 _)) (by decide));clear hy h2 x0;have x2:w2.cell? (w.heap.size,0)=(g,()):=by rw[B2.o.cell 0];rfl
   have S3:=hD (S2.o.alloc (.cells #[Un] 27));have B3:=hD (B2.o.alloc (.cells #[Un] 27));have C3:=hD (Blk.new w2 27 #[Un]);have x3:(w2.alloc (.cells #[Un] 27)).cell? (w.heap.size,0)=(g,()):=by rw[B3.o.cell 0];rfl
   have NL:Hd (w2.heap.size≠g):=NE _ (by have:=L2.o;have:=HSZ.o;omega);have HWI:=hD (S3.o.within ⟨#[123]⟩ ⟨#[125]⟩ 124 #[(w.heap.size,()),(w2.heap.size,())] (s2:=q.2) (n2:=10*n) (K:=zH g R w2.heap.size w.heap.size q.2 q.1)
    (λ_ hd w3 hw3 hf=>by
      have hrr:=(oI (X:=[125]) HP HQ).1 hd;have hb3:=hf.blk B3 (NE _ (aA1 _)) (by decide);have hc3:=hf.blk C3 NL (by decide);refine (aFz (N:=⟨10*n,N.d+1⟩) HI (QRw.start hw3 hc3 L2) (show (pGo { s with deep:=s.deep+1 }).e=0 from H0) hb3 hrr (aA4 _) HN).mono ?_;rintro e w' ⟨rfl,v',l',hq',he',ho'⟩;obtain⟨A,c,hv,_,_⟩:=hq'.own.cap;obtain⟨cg',hcg'⟩:=hq'.q.tZ;refine⟨rfl,hq'.q.drop (λk hk=>Or.inl hk),λb t cs hb ht=>ho' b t cs hb ?_ ?_ ?_ ?_,A,l'.length,c,l',by rw[<-hv];exact hq'.cell,by rw[<-hv];exact hq'.own,he',λk hk=>⟨hq'.nr k (by rw[hv];exact hk),λe=>hq'.own.aD hcg' (by decide) (by rw[hv,hk,e])⟩,ho' _ _ _ hb3 (by decide) (by decide) (by decide) (by decide)⟩
      all_goals rcases ht with rfl|rfl<;>decide)
    (λw' w'' hf hk=>hk.frR NL (NE _ (aA1 _)) hf) oD HDP (λ_=>HUP.o))
   go_wp2_with fail
   refine HWI.o.mono ?_;rintro e w4 ⟨rfl,_,hB,hC⟩;have Q4:=hD (show QS src tb tc ts g R W1 w4 (pUp (aA ts [125] q.2)) ⟨10*n,N.d⟩∧zH g R w2.heap.size w.heap.size (pUp (aA ts [125] q.2)) q.1 w4 from by
    by_cases hd:16<=s.deep
    . obtain⟨hqs,hf⟩:=hB HP hd
      obtain⟨e1,e2,e3,e4⟩:=(oI (X:=[125]) HP HQ).2 hd;exact⟨hqs.bad e2 e1 e3 e4 HUP,none,0,0,[],hf.blk C3 NL (by decide),Own.nil _ _ _,λe=>absurd e (by rw[e1];exact e2),λk hk=>by simp[blk] at hk,hf.blk B3 (NE _ (aA1 _)) (by decide)⟩
    . obtain⟨hqs,A,m,c,l',h1,h2,h3,h4,h5⟩:=hC HP (by omega)
      exact⟨hqs,A,m,c,l',h1,h2,λe=>h3 (((Ext.refl q.2).must (ts:=ts) [125]).up.e0 e),h4,h5⟩)
   clear hB hC x2 x3;obtain⟨S4,A,m,c,l',h1,h2,h3,h4,h5⟩:=Q4.o;have S4:=hD S4;have y4:w4.cell? (w2.heap.size,0)=some (.slice A m c):=by rw[h1.cell 0];rfl
   have x4:w4.cell? (w.heap.size,0)=(g,()):=by rw[h5.cell 0];rfl
   have HP4:=hD (S4.o.put 18 rfl y (bJ src.data.toList ts s) (λ_=>HY.o) (name:=[]) rfl (A1:=A) (M:=m) (c1:=c) (l:=q.1) (λe=>by have h6:=h3 e;subst h6;exact h2) (λk hk=>(h4 k hk).1) HN2);clear h1 h2 h3 h4 h5;go_wp2_with fail
   refine HP4.o.mono ?_;rintro e w5 ⟨x5,rfl,hx,h6⟩;have S5:=hD h6;have HX:=hD hx;clear hx h6;go_wp2
   go_ret;exact⟨x5,rfl,λe=>HX.o e,(S0.o.no A0).back (S5.o.more (by show 10*n<=10*(n+1);omega))⟩
 . rw[if_neg hp] at hr
   simp only[aA0] at hr;subst hr;obtain⟨M,hM⟩:∃M,M=(if s.e=0 then 10*(n+1) else N.n+1):=⟨_,rfl⟩;rw[<-hM];have hl:(aR ts 20 s).nodes.length=s.nodes.length:=by unfold aR;split<;>rfl
   have hn2:(aR ts 20 s).nodes.length+N.n+40<=1000000:=hn;have hn3:s.e=0->(aR ts 20 s).nodes.length+20*(n+1)+40<=1000000:=hnz;have S1:=hD (show QS src tb tc ts g R W1 W1 s ⟨M - 1,N.d⟩ from by
    by_cases h0:s.e=0
    . exact (S0.o.no A0).here.zero h0 _
    . exact (S0.o.no A0).here.more (by rw[hM,if_neg h0];show N.n<=N.n+1 - 1;omega))
   have HM:=hD (show 1<=M by rw[hM];split<;>omega);have HN:=hD (show (aR ts 20 s).nodes.length+(M - 1)<=1000000 by
    by_cases h0:s.e=0
    . have:=hn3 h0
      rw[hM,if_pos h0];omega
    . rw[hM,if_neg h0];omega)
   have HP:=hD (show pIs ts [123] s=false by simpa using hp);have HOK:=hD h.ok;have HTK:=hD h.toks;clear h hcg hgl hsz hn hnz hn2 hn3 hl hp ih hW1 hM;go_enter func84,ntmps84;go_wp2_with fail
   rw[<-HW.o];refine S1.o.line.mono ?_;rintro e w2 ⟨y,rfl,hy,h2⟩;have S2:=hD h2;have L2:=hD S2.o.fr.size;have B2:=hD (S2.o.fr.blk B0 (NE _ (aA1 _)) (by decide));clear hy h2 x0;have x2:w2.cell? (w.heap.size,0)=(g,()):=by rw[B2.o.cell 0];rfl
   have S3:=hD (S2.o.alloc (.cells #[Un] 27));have B3:=hD (B2.o.alloc (.cells #[Un] 27));have C3:=hD (Blk.new w2 27 #[Un]);have x3:(w2.alloc (.cells #[Un] 27)).cell? (w.heap.size,0)=(g,()):=by rw[B3.o.cell 0];rfl
   have NL:Hd (w2.heap.size≠g):=NE _ (by have:=L2.o;have:=HSZ.o;omega);have HWI:=hD (S3.o.within ⟨#[123]⟩ ⟨#[125]⟩ 124 #[(w.heap.size,()),(w2.heap.size,())] (s2:={ s with deep:=s.deep+1 }) (n2:=0) (K:=λ_=>True)
    (λhp=>absurd (HP.o.symm.trans hp) (by decide)) (λ_ _ _ _=>trivial) oD (λ_=>rfl) (λhd=>by
      have k:dA ts { s with deep:=s.deep+1 }:=⟨HOK.o.room,by show s.deep+1<=17;omega,λe=>by show s.deep+1<=16;omega,HOK.o.err,HOK.o.place⟩;exact (k.must HTK _).up))
   go_wp2_with fail
   refine HWI.o.mono ?_;rintro e w4 ⟨rfl,hA,_,_⟩;obtain⟨hq,hf⟩:=hA HP.o;have S4:=hD hq;have x4:w4.cell? (w.heap.size,0)=(g,()):=by rw[(hf.blk B3.o (NE.o _ (aA1 _)) (by decide)).cell 0];rfl
   have y4:w4.cell? (w2.heap.size,0)=Un:=by rw[(hf.blk C3.o NL.o (by decide)).cell 0];rfl
   have HP4:=hD (S4.o.aOd qO 18 rfl y (name:=[]) rfl (A1:=none) (M:=0) (c1:=0) HN);clear hA hq hf x2 x3;go_wp2_with fail
   refine HP4.o.mono ?_;rintro e w5 ⟨x5,rfl,h6⟩;have S5:=hD h6;clear h6;go_wp2
   go_ret;exact⟨x5,rfl,λe=>absurd e qO,(S0.o.no A0).back (S5.o.more (by show M - 1+1<=M;have:=HM.o;omega))⟩
def aKs (ts:List Tok):Prop:=∀t∈ts,t.kind=5->∀c∈t.text,¬(97<=c∧c<=122)
theorem aMw (hs:aKs ts) (hr:s.i<ts.length){x:List UInt8} (c:UInt8) (hc:c∈x) (h1:97<=c∧c<=122):pIs ts x s=true↔bQ ts s=x:=by
 have hmem:bI ts s∈ts:=by
   unfold bI;rw[List.getD,gE hr];exact List.getElem_mem _
 have hx:x≠[]:=λe=>by rw[e] at hc;cases hc
 constructor
 . intro h
   have h2:=aM h;unfold pIs at h;simp only[Bool.and_eq_true,Bool.or_eq_true,decide_eq_true_eq] at h;obtain⟨⟨h0,hk⟩,ht⟩:=h;rcases hk with hk|hk
   . exact absurd h1 (hs _ hmem hk c (by rw[ht];exact hc))
   . unfold bQ bM
     rw[if_pos (by simp[h0,hk])];exact ht
 . intro h
   unfold bQ at h;by_cases hk:bM ts 4 s=true
   . rw[if_pos hk] at h
     obtain⟨h0,hk⟩:=aW hk;unfold pIs;simp[h0,hk,h]
   . rw[if_neg hk] at h
     exact absurd h.symm hx
section
variable {src:ByteArray}{tb tc:Nat}{ts:List Tok}{g n:Nat}{N:Lim}{R:Nat->Prop}{w0 w:World}{s:PS}{r:List Nat×PS}
structure QRo (src:ByteArray) (tb tc:Nat) (ts:List Tok) (g:Nat) (R:Nat->Prop) (w0 w:World) (s:PS) (N:Lim) (v:Value) (l:List Nat):Prop where
 q:QS src tb tc ts g (RV R v) w0 w s N
 own:Own w 3 1 v l.length (ints l)
 nr:∀k,blk v=some k->¬R k
 nw:∀k,blk v=some k->w0.heap.size<=k
theorem QRo.to {v:Value}{s':PS}{N':Lim} (h:QRo src tb tc ts g R w0 w s N v l) (h':QS src tb tc ts g (RV R v) w w' s' N'):QRo src tb tc ts g R w0 w' s' N' v l:=by
 obtain⟨cs,hg⟩:=h.q.tZ;exact⟨h.q.back h',h.own.frR hg (by decide) (by decide) h'.fr,h.nr,h.nw⟩
theorem QRo.app {v:Value} (h:QRo src tb tc ts g R w0 w s N v l){w3:World}{l':List Nat} (ho:Own w3 3 1 v' l'.length (ints l')) (hf:Fr (obl (blk v)) (w.alloc o) w3) (hv:blk v'=blk v∨blk v'=some (w.alloc o).heap.size):
   QRo src tb tc ts g R w0 w3 s N v' l':=by
 have h1:=h.q.alloc o;have hown:=h.own.alloc o;obtain⟨q,lvs,hq,hs⟩:=h1.q;have hMk:∀k,obl (blk v) k->∃t cs,Blk (w.alloc o) k t cs∧t≠82∧t≠50∧t≠115∧(t=3->RV R v k):=λk hk=>by
   obtain⟨cs,hb⟩:=hown.ty hk;exact⟨_,cs,hb,by decide,by decide,by decide,λ_=> .inr hk⟩
 obtain⟨hq3,hs3⟩:=hq.frM hs hf hMk;have hlt:s.e=0->∀u∈lvs,∀j,blk u=some j->j<(w.alloc o).heap.size:=λh0=>oN (hs.below h0)
 have hR':∀k,RV R v' k->k<w3.heap.size:=λk hk=>by
   rcases hk with hk|hk
   . have:=h1.res k (.inl hk);have:=hf.size;omega
   . exact ho.aZ hk
 have h3:=h1.frM hf (λk hk=>h.nw k hk) hMk;refine⟨⟨⟨q,lvs,hq3,hs3.e,hs3.place,hs3.deep,hs3.pos,hs3.row,hs3.below,λh0 u hu j hj hr=>?_,hs3.bad⟩,hR',h3.ok,h3.toks,h3.long,h3.fr,h3.most⟩,ho,λk hk hr=>?_,λk hk=>?_⟩
 . rcases hr with hr|hr
   . exact hs.avoid h0 u hu j hj (.inl hr)
   . rcases hv with e|e
     . exact hs.avoid h0 u hu j hj (.inr (by rw[<-e];exact hr))
     . rw[e] at hr
       injection hr with hr;have:=hlt h0 u hu j hj;omega
 . rcases hv with e|e
   . rw[e] at hk;exact h.nr k hk hr
   . rw[e] at hk
     injection hk with hk;have:=h1.res k (.inl hr);omega
 . rcases hv with e|e
   . rw[e] at hk;exact h.nw k hk
   . rw[e] at hk
     injection hk with hk;have:=h1.fr.size;omega
theorem QS.aRx (h:QS src tb tc ts g R w0 w s N) (x z:Nat):QRo src tb tc ts g R w0 (w.alloc (.cells #[(x:Int),(z:Int)] 3)) s N (w.heap.size,2,2) [x,z]:=by
 have hk:∀k,blk (w.heap.size,2,2)=some k->k=w.heap.size:=λk hk=>nK hk
 refine⟨?_,⟨rfl,_,2,rfl,.inr ⟨w.heap.size,_,rfl,by decide,Blk.new w _ _,aA1 _,by decide,rfl,rfl⟩⟩,λk h1 hr=>?_,λk h1=>?_⟩
 . have h2:=h.box (.cells #[(x:Int),(z:Int)] 3)
   exact h2.drop (λk hk2=>by
    rcases hk2 with hk2|hk2
    . exact .inl hk2
    . exact .inr (hk k hk2))
 . have:=h.res k hr
   have:=hk k h1;omega
 . have:=h.fr.size
   have:=hk k h1;omega
theorem QS.row0 (h:QS src tb tc ts g R w0 w s N):QRo src tb tc ts g R w0 w s N Un []:=by
 have hn:∀k,blk Un≠some k:=λk hk=>by simp[blk] at hk
 obtain⟨q,lvs,hq,hs⟩:=h.q;refine⟨⟨⟨q,lvs,hq,hs.e,hs.place,hs.deep,hs.pos,hs.row,hs.below,λh0 u hu j hj hr=>?_,hs.bad⟩,λk hk=>?_,h.ok,h.toks,h.long,h.fr,h.most⟩,Own.nil _ _ _,λk hk=>absurd hk (hn k),λk hk=>absurd hk (hn k)⟩
 . rcases hr with hr|hr
   . exact hs.avoid h0 u hu j hj hr
   . exact hn _ hr
 . rcases hk with hk|hk
   . exact h.res k hk
   . exact absurd hk (hn k)
theorem QRo.put {l':List Nat} (h:QRo src tb tc ts g R w0 w s N (.slice A m c) l) (k:Nat){kv:Int} (hkv:((k:Nat):Int)=kv) (y line:Nat) (hy:s.e=0->y=line){name:List UInt8}{X:ByteArray} (hX:bs name=X) (hl:s.e=0->l'=l) (hn:s.nodes.length+N.n<=1000000):
  Calls prog 126 #[(g,()),kv,y,X,.slice A m c] w λe w'=>∃x:Nat,e = .returned x∧(s.e=0->x=s.nodes.length)∧QS src tb tc ts g R w0 w' (bR k line 0 name l' s).2 N:=by
 refine (h.q.drop (R:=R) (λk hk=>Or.inl hk)).put k hkv y line hy hX (λe=>?_) h.nr hn;rw[hl e];have h1:=h.own;exact h1
theorem tK.at (h:tK src tb tc ts g n) (hq:QS src tb tc ts g R w0 w s ⟨m,N.d⟩) (hm:m<=10*n) (hr:run src.data.toList ts n .block s=some r) (hn:r.2.nodes.length+20*n+40<=1000000):
  Calls prog 84 #[(g,())] w λe w'=>∃x:Nat,e = .returned x∧(r.2.e=0->x=oneOf r.1)∧QS src tb tc ts g R w0 w' r.2 ⟨10*n+1,N.d⟩:=by
 refine (h R w0 w s r ⟨m,N.d⟩ hq hr (by show r.2.nodes.length+m+40<=1000000;omega) (λ_=>hn)).mono ?_;rintro e w' ⟨x,he,hx,hs⟩;exact⟨x,he,hx,hs.more (by show (if s.e=0 then 10*n else m+1)<=10*n+1;split<;>omega)⟩
theorem vZ (hB:tK src tb tc ts g n) (h:QS src tb tc ts g R w0 w s N) (h0:s.e=0) (y:Nat){q b:List Nat×PS} (hq:run src.data.toList ts n (.chain 0) s=some q) (hb:run src.data.toList ts n .block q.2=some b) (he:pIs ts [101,108,115,101] b.2=false) (hn:b.2.nodes.length+20*n+40<=1000000):
  Calls prog 163 #[(g,()),y] w λe w'=>∃x:Nat,e = .returned x∧(b.2.e=0->x=b.2.nodes.length)∧QS src tb tc ts g R w0 w' (bR 15 y 0 [] (q.1++b.1) b.2).2 ⟨10*n+1,N.d⟩:=by
 have Z0:=hD (h.zero h0 0);have EX:=hD (oP src tb tc ts g n);have HBL:=hD hB;have HQ:=hD hq;have HBB:=hD hb;have HQ1:=hD (aJ _ _ _ _ hq trivial);have HB1:=hD (aJ _ _ _ _ hb trivial);have HE:Hd (b.2.e=0->q.2.e=0):=(aK _ _ _ _ hb).e0;have HEL:=hD he;have hle:=aV (aK _ _ _ _ hb);have HN:=hD (show q.2.nodes.length+0+10*n+10<=1000000 by omega);have HN2:=hD hn;have HN3:=hD (show b.2.nodes.length+(10*n+1)<=1000000 by omega);clear h h0 hB hq hb he hn hle;go_enter func163,ntmps163;go_wp2_with fail
 refine eF (EX.o.expr.at Z0 HQ HN) λx1 w1 HX1 S1=>?_;go_wp2_with fail
 refine eF (HBL.o.at (N:=N) (m:=0+10*n) S1 (by omega) HBB HN2) λx2 w2 HX2 S2=>?_;go_wp2_with fail
 have S3:=hD (S2.o.alloc (.cells #[(x1:Int),(x2:Int)] 3));have C3:=hD (Blk.new w2 3 #[(x1:Int),(x2:Int)]);have R3:Hd (∀k,R k->k<w2.heap.size):=S2.o.res;refine (S3.o.here.has ⟨#[101,108,115,101]⟩ HEL).mono ?_;rintro e w3 ⟨rfl,h3⟩;rw[if_neg (by decide)] at h3;have T3:=hD (S3.o.back h3);obtain⟨cg,hcg⟩:=S3.o.tZ;have D3:=hD (h3.fr.blk C3 (λe=>C3.o.ne hcg (by decide) e) (by decide));clear h3 hcg;go_wp2_with fail
 have OW:=hD (show Own w3 3 1 (w2.heap.size,2,2) [x1,x2].length (ints [x1,x2]) from ⟨rfl,_,2,rfl,.inr ⟨w2.heap.size,_,rfl,by decide,D3,aA1 _,by decide,rfl,rfl⟩⟩);refine eF (T3.o.put 15 rfl y y (λ_=>rfl) (name:=[]) rfl (l:=q.1++b.1) (λe=>by rw[HQ1.o,HB1.o,<-HX1.o (HE.o e),<-HX2.o e];exact OW) (λk hk hr=>by have:=R3.o k hr;have:=nK hk;omega) HN3) λx4 w4 HX4 S4=>?_;go_wp2
 go_ret;exact⟨x4,rfl,λe=>HX4.o e,S4⟩
theorem rP (hB:tK src tb tc ts g n) (h:QS src tb tc ts g R w0 w s N) (h0:s.e=0) (y:Nat){q b:List Nat×PS} (hq:run src.data.toList ts n (.chain 0) s=some q) (hb:run src.data.toList ts n .block q.2=some b){c:List Nat×PS} (he:pIs ts [101,108,115,101] b.2=true) (hc:run src.data.toList ts n .block (pGo b.2)=some c) (hn:c.2.nodes.length+20*n+40<=1000000):
  Calls prog 163 #[(g,()),y] w λe w'=>∃x:Nat,e = .returned x∧(c.2.e=0->x=c.2.nodes.length)∧QS src tb tc ts g R w0 w' (bR 15 y 0 [] (q.1++b.1++c.1) c.2).2 ⟨10*n+1,N.d⟩:=by
 have Z0:=hD (h.zero h0 0);have EX:=hD (oP src tb tc ts g n);have HBL:=hD hB;have HQ:=hD hq;have HBB:=hD hb;have HQ1:=hD (aJ _ _ _ _ hq trivial);have HB1:=hD (aJ _ _ _ _ hb trivial);have HE:Hd (b.2.e=0->q.2.e=0):=(aK _ _ _ _ hb).e0;have HEL:=hD he;have HC:=hD hc;have HC1:=hD (aJ _ _ _ _ hc trivial);have H0:=hD (aM he).1;have hle:=aV (aK _ _ _ _ hb);have hle2:b.2.nodes.length<=c.2.nodes.length:=(show (pGo b.2).nodes.length<=c.2.nodes.length from aV (aK _ _ _ _ hc));have HN:=hD (show q.2.nodes.length+0+10*n+10<=1000000 by omega);have HN2:=hD (show b.2.nodes.length+20*n+40<=1000000 by omega);have HN4:=hD hn;have HN3:=hD (show c.2.nodes.length+(10*n+1)<=1000000 by omega);clear h h0 hB hq hb he hn hle hc hle2;go_enter func163,ntmps163;go_wp2_with fail
 refine eF (EX.o.expr.at Z0 HQ HN) λx1 w1 HX1 S1=>?_;go_wp2_with fail
 refine eF (HBL.o.at (N:=N) (m:=0+10*n) S1 (by omega) HBB HN2) λx2 w2 HX2 S2=>?_;go_wp2_with fail
 have Q3:=hD (S2.o.aRx x1 x2);refine stepM (Q3.o.q.here.has ⟨#[101,108,115,101]⟩ HEL) λw3 h3=>?_;rw[if_pos rfl] at h3;have T3:=hD (Q3.o.to h3);clear h3;go_wp2_with fail
 refine eF (HBL.o.at (N:=N) (m:=0) (T3.o.q.here.zero H0 0) (by omega) HC HN4) λx4 w4 HX4 h4=>?_;have T4:=hD (T3.o.to h4);clear h4;go_wp2_with (at_builtin;go_loud (refine aL (v:= .slice (some (w2.heap.size,())) 2 2) (n:=2) (m:=1) (xs:=ints [x1,x2]) (news:=[x4]) rfl _ _ rfl gW rfl rfl (T4.o.own.alloc _) (Rd.eZ (n:=1) (cs:=[x4]) (Blk.new _ _ _) rfl (by decide)) (by simp[Value.oneCell']) (by decide) (by unfold maxLen;decide) ?_);intro A5 c5 w5 ho hf hv;go_loud (have T5:=hD (T4.o.app (l':=[x1,x2,x4]) ho hf hv));clear ho hf hv)
 refine eF (T5.o.put 15 rfl y y (λ_=>rfl) (name:=[]) rfl (l':=q.1++b.1++c.1) (λe=>by rw[HQ1.o,HB1.o,HC1.o,<-HX1.o (HE.o H0.o),<-HX2.o H0.o,<-HX4.o e];rfl) HN3) λx6 w6 HX6 S6=>?_;go_wp2
 go_ret;exact⟨x6,rfl,λe=>HX6.o e,S6⟩
end
theorem aDw (hsg:aKs ts) (hB:tK src tb tc ts g n):aCu src tb tc ts g (n+1):=by
 intro R w0 w s r N h h0 hr hn;have Z0:=hD (h.zero h0 0);have H0:=hD h0;have HBL:=hD hB;have EX:=hD (oP src tb tc ts g n);have hw:=λ(x:List UInt8) (c:UInt8) (hc:c∈x) (h1:97<=c∧c<=122)=>aMw (s:=s) hsg h.ok.room c hc h1
 have hgo:∀{x:List UInt8},x≠[]->bQ ts s=x->dA ts (pGo s):=λ{x} hx hh=>by
   unfold bQ at hh;by_cases hk:bM ts 4 s=true
   . exact h.ok.lQ h.toks (aW hk).2 (by decide)
   . rw[if_neg hk] at hh
     exact absurd hh.symm hx
 simp only[run] at hr;by_cases i0:bQ ts s=[108,101,116]
 . rw[if_pos i0] at hr
   have I0:=hD ((hw [108,101,116] 108 (by decide) (by decide)).2 i0);simp only[mS] at hr;obtain⟨q,hq,rfl⟩:=hr;have HQ:=hD hq;have hn2:(aA ts [59] q.2).nodes.length+1+20*(n+1)+40<=1000000:=by simpa[bR] using hn
   have hnm:=aB (ts:=ts) [59] q.2;have HN:=hD (show q.2.nodes.length+0+10*n+20<=1000000 by omega);obtain⟨NM,hname⟩:∃NM,bs (dZ ts (pGo s))=NM:=⟨_,rfl⟩;have HNM:=hD hname;clear hq hn2 hnm hname h h0 hn i0 hw hsg hB hgo;go_enter func125,ntmps125;go_wp2_with fail
   refine Z0.o.line.mono ?_;rintro e w1 ⟨y,rfl,hy,h1⟩;have S1:=hD h1;have HY:=hD hy;clear h1 hy;go_wp2_with fail
   refine stepM (S1.o.has ⟨#[108,101,116]⟩ I0) λw2 S2=>?_;rw[if_pos rfl] at S2;go_wp2_with fail
   refine stepM (S2.o.name HNM) λw3 S3=>?_;go_wp2_with fail
   refine eF (xU S3 10 rfl y (bJ src.data.toList ts s) (λ_=>HY.o H0) (name:=dZ ts (pGo s)) HNM HQ HN) λx4 w4 HX4 S4=>?_;go_wp2
   go_ret;exact⟨x4,rfl,λe=>HX4.o e,S4.o.more (by show 0+10*n<=10*(n+1);omega)⟩
 . rw[if_neg i0] at hr
   have I0:=hD (show pIs ts [108,101,116] s=false from by
     cases hh:pIs ts [108,101,116] s with
     | false=>rfl
     | true=>exact absurd ((hw [108,101,116] 108 (by decide) (by decide)).1 hh) i0)
   by_cases i1:bQ ts s=[112,114,105,110,116]
   . rw[if_pos i1] at hr
     have I1:=hD ((hw [112,114,105,110,116] 112 (by decide) (by decide)).2 i1);simp only[mS] at hr;obtain⟨q,hq,rfl⟩:=hr;have HQ:=hD hq;have HQ1:=hD (aJ _ _ _ _ hq trivial);have HE:Hd ((aA ts [59] q.2).e=0->q.2.e=0):=((Ext.refl q.2).must (ts:=ts) [59]).e0;have hn2:(aA ts [59] q.2).nodes.length+1+20*(n+1)+40<=1000000:=by simpa[bR] using hn
     have hnm:=aB (ts:=ts) [59] q.2;have HN:=hD (show q.2.nodes.length+0+10*n+10<=1000000 by omega);have HN2:=hD (show (aA ts [59] q.2).nodes.length+(0+10*n)<=1000000 by omega);clear hq hn2 hnm h h0 hn i1 hw hsg hB hgo;go_enter func125,ntmps125;go_wp2_with fail
     refine Z0.o.line.mono ?_;rintro e w1 ⟨y,rfl,hy,h1⟩;have S1:=hD h1;have HY:=hD hy;clear h1 hy;go_wp2_with fail
     refine stepM (S1.o.has ⟨#[108,101,116]⟩ I0) λw2 S2=>?_;rw[if_neg (by decide)] at S2;go_wp2_with fail
     refine stepM (S2.o.has ⟨#[112,114,105,110,116]⟩ I1) λw3 S3=>?_;rw[if_pos rfl] at S3;go_wp2_with fail
     refine eF (EX.o.expr.at S3 HQ HN) λx4 w4 HX4 S4=>?_;go_wp2_with fail
     refine stepM (S4.o.must ⟨#[59]⟩) λw5 S5=>?_;go_wp2_with fail
     refine eF (S5.o.xA x4 rfl 14 rfl y (bJ src.data.toList ts s) (λ_=>HY.o H0) (name:=[]) rfl (l:=q.1) (λe=>by rw[HQ1.o,HX4.o (HE.o e)]) HN2) λx6 w6 HX6 S6=>?_;go_wp2
     go_ret;exact⟨x6,rfl,λe=>HX6.o e,S6.o.more (by show 0+10*n<=10*(n+1);omega)⟩
   . rw[if_neg i1] at hr
     have I1:=hD (show pIs ts [112,114,105,110,116] s=false from by
       cases hh:pIs ts [112,114,105,110,116] s with
       | false=>rfl
       | true=>exact absurd ((hw [112,114,105,110,116] 112 (by decide) (by decide)).1 hh) i1)
     by_cases i2:bQ ts s=[119,104,105,108,101]
     . rw[if_pos i2] at hr
       have I2:=hD ((hw [119,104,105,108,101] 119 (by decide) (by decide)).2 i2);simp only[bS,mS] at hr;obtain⟨q,hq,u,hu,rfl⟩:=hr;have HQ:=hD hq;have HU:=hD hu;have HQ1:=hD (aJ _ _ _ _ hq trivial);have HU1:=hD (aJ _ _ _ _ hu trivial);have HE:Hd (u.2.e=0->q.2.e=0):=(aK _ _ _ _ hu).e0;have hn2:u.2.nodes.length+1+20*(n+1)+40<=1000000:=by simpa[bR] using hn
       have hle:=aV (aK _ _ _ _ hu);have HN:=hD (show q.2.nodes.length+0+10*n+10<=1000000 by omega);have HN3:=hD (show u.2.nodes.length+20*n+40<=1000000 by omega);have HN2:=hD (show u.2.nodes.length+(10*n+1)<=1000000 by omega);clear hq hu hn2 hle h h0 hn i2 hw hsg hB hgo;go_enter func125,ntmps125;go_wp2_with fail
       refine Z0.o.line.mono ?_;rintro e w1 ⟨y,rfl,hy,h1⟩;have S1:=hD h1;have HY:=hD hy;clear h1 hy;go_wp2_with fail
       refine stepM (S1.o.has ⟨#[108,101,116]⟩ I0) λw2 S2=>?_;rw[if_neg (by decide)] at S2;go_wp2_with fail
       refine stepM (S2.o.has ⟨#[112,114,105,110,116]⟩ I1) λw3 S3=>?_;rw[if_neg (by decide)] at S3;go_wp2_with fail
       refine stepM (S3.o.has ⟨#[119,104,105,108,101]⟩ I2) λw4 S4=>?_;rw[if_pos rfl] at S4;go_wp2_with fail
       refine eF (EX.o.expr.at S4 HQ HN) λx5 w5 HX5 S5=>?_;go_wp2_with fail
       refine eF (HBL.o.at (N:=N) (m:=0+10*n) S5 (by omega) HU HN3) λx6 w6 HX6 S6=>?_;go_wp2_with fail
       refine eF (S6.o.aOe x5 x6 rfl 16 rfl y (bJ src.data.toList ts s) (λ_=>HY.o H0) (name:=[]) rfl (l:=q.1++u.1) (λe=>by rw[HQ1.o,HU1.o,HX5.o (HE.o e),HX6.o e];rfl) HN2) λx7 w7 HX7 S7=>?_;go_wp2
       go_ret;exact⟨x7,rfl,λe=>HX7.o e,S7.o.more (by show 10*n+1<=10*(n+1);omega)⟩
     . rw[if_neg i2] at hr
       have I2:=hD (show pIs ts [119,104,105,108,101] s=false from by
         cases hh:pIs ts [119,104,105,108,101] s with
         | false=>rfl
         | true=>exact absurd ((hw [119,104,105,108,101] 119 (by decide) (by decide)).1 hh) i2)
       by_cases i3:bQ ts s=[105,102]
       . rw[if_pos i3] at hr
         have I3:=hD ((hw [105,102] 105 (by decide) (by decide)).2 i3);simp only[bS] at hr;obtain⟨q,hq,u,hu,hr⟩:=hr;by_cases ie:pIs ts [101,108,115,101] u.2=true
         case' pos=>
          rw[if_pos ie] at hr
          simp only[mS] at hr;obtain⟨c,hc,rfl⟩:=hr;have hn2:c.2.nodes.length+1+20*(n+1)+40<=1000000:=by simpa[bR] using hn
          have HBR:=hD (show ∀wx y,QS src tb tc ts g R w0 wx (pGo s) ⟨0,N.d⟩->_ from λwx y hx=>rP HBL hx H0 y hq hu ie hc (by omega));clear hq hu hc hn2 h h0 hn i3 hw hsg hB ie hgo
         case' neg=>
          rw[if_neg ie] at hr
          simp only[aA0] at hr;subst hr;have hn2:u.2.nodes.length+1+20*(n+1)+40<=1000000:=by simpa[bR] using hn
          have HBR:=hD (show ∀wx y,QS src tb tc ts g R w0 wx (pGo s) ⟨0,N.d⟩->_ from λwx y hx=>vZ HBL hx H0 y hq hu (by simpa using ie) (by omega));clear hq hu hn2 h h0 hn i3 hw hsg hB ie hgo
         all_goals
          go_enter func125,ntmps125;go_wp2_with fail
          refine Z0.o.line.mono ?_;rintro e w1 ⟨y,rfl,hy,h1⟩;have S1:=hD h1;have HY:=hD hy;clear h1 hy;go_wp2_with fail
          refine stepM (S1.o.has ⟨#[108,101,116]⟩ I0) λw2 S2=>?_;rw[if_neg (by decide)] at S2;go_wp2_with fail
          refine stepM (S2.o.has ⟨#[112,114,105,110,116]⟩ I1) λw3 S3=>?_;rw[if_neg (by decide)] at S3;go_wp2_with fail
          refine stepM (S3.o.has ⟨#[119,104,105,108,101]⟩ I2) λw4 S4=>?_;rw[if_neg (by decide)] at S4;go_wp2_with fail
          refine stepM (S4.o.has ⟨#[105,102]⟩ I3) λw5 S5=>?_;rw[if_pos rfl] at S5;go_wp2_with fail
          have hy:=HY.o H0.o;rw[hy];refine eF (HBR _ _ S5) λx6 w6 HX6 S6=>?_;go_wp2
          go_ret;exact⟨x6,rfl,λe=>HX6.o e,S6.o.more (by show 10*n+1<=10*(n+1);omega)⟩
       . rw[if_neg i3] at hr
         have I3:=hD (show pIs ts [105,102] s=false from by
           cases hh:pIs ts [105,102] s with
           | false=>rfl
           | true=>exact absurd ((hw [105,102] 105 (by decide) (by decide)).1 hh) i3)
         by_cases i4:bQ ts s=[114,101,116,117,114,110]
         . rw[if_pos i4] at hr
           have I4:=hD ((hw [114,101,116,117,114,110] 114 (by decide) (by decide)).2 i4);by_cases ie:pIs ts [59] (pGo s)=true
           . rw[if_pos ie] at hr
             simp only[aA0] at hr;subst hr;have IE:=hD ie;have hn2:(aA ts [59] (pGo s)).nodes.length+1+20*(n+1)+40<=1000000:=by simpa[bR] using hn
             have HN2:=hD (show (aA ts [59] (pGo s)).nodes.length+0<=1000000 by omega);clear hn2 h h0 hn i4 hw hsg hB ie hgo;go_enter func125,ntmps125;go_wp2_with fail
             refine Z0.o.line.mono ?_;rintro e w1 ⟨y,rfl,hy,h1⟩;have S1:=hD h1;have HY:=hD hy;clear h1 hy;go_wp2_with fail
             refine stepM (S1.o.has ⟨#[108,101,116]⟩ I0) λw2 S2=>?_;rw[if_neg (by decide)] at S2;go_wp2_with fail
             refine stepM (S2.o.has ⟨#[112,114,105,110,116]⟩ I1) λw3 S3=>?_;rw[if_neg (by decide)] at S3;go_wp2_with fail
             refine stepM (S3.o.has ⟨#[119,104,105,108,101]⟩ I2) λw4 S4=>?_;rw[if_neg (by decide)] at S4;go_wp2_with fail
             refine stepM (S4.o.has ⟨#[105,102]⟩ I3) λw5 S5=>?_;rw[if_neg (by decide)] at S5;go_wp2_with fail
             refine stepM (S5.o.has ⟨#[114,101,116,117,114,110]⟩ I4) λw6 S6=>?_;rw[if_pos rfl] at S6;go_wp2_with fail
             have A7:Hd (Fr nob w6 (w6.alloc (.cells #[.string ⟨#[59]⟩] 9))):=(fR w6).alloc _;refine stepM ((S6.o.no A7).is1 ⟨#[59]⟩ (Blk.new w6 _ _) IE) λw7 h7=>?_;have S7:=hD (S6.o.no (A7.o.tr h7));clear h7;go_wp2_with fail
             refine stepM (S7.o.must ⟨#[59]⟩) λw8 S8=>?_;go_wp2_with fail
             refine eF (S8.o.wD 17 rfl y (bJ src.data.toList ts s) (λ_=>HY.o H0) (name:=[]) rfl (l:=[]) (λ_=>rfl) HN2) λx9 w9 HX9 S9=>?_;go_wp2
             go_ret;exact⟨x9,rfl,λe=>HX9.o e,S9.o.more (aA4 _)⟩
           . rw[if_neg ie] at hr
             simp only[mS] at hr;obtain⟨q,hq,rfl⟩:=hr;have IE:=hD (show pIs ts [59] (pGo s)=false by simpa using ie);have HQ:=hD hq;have HQ1:=hD (aJ _ _ _ _ hq trivial);have HE:Hd ((aA ts [59] q.2).e=0->q.2.e=0):=((Ext.refl q.2).must (ts:=ts) [59]).e0;have hn2:(aA ts [59] q.2).nodes.length+1+20*(n+1)+40<=1000000:=by simpa[bR] using hn
             have hnm:=aB (ts:=ts) [59] q.2;have HN:=hD (show q.2.nodes.length+0+10*n+10<=1000000 by omega);have HN2:=hD (show (aA ts [59] q.2).nodes.length+(0+10*n)<=1000000 by omega);clear hq hn2 hnm h h0 hn i4 hw hsg hB ie hgo;go_enter func125,ntmps125;go_wp2_with fail
             refine Z0.o.line.mono ?_;rintro e w1 ⟨y,rfl,hy,h1⟩;have S1:=hD h1;have HY:=hD hy;clear h1 hy;go_wp2_with fail
             refine stepM (S1.o.has ⟨#[108,101,116]⟩ I0) λw2 S2=>?_;rw[if_neg (by decide)] at S2;go_wp2_with fail
             refine stepM (S2.o.has ⟨#[112,114,105,110,116]⟩ I1) λw3 S3=>?_;rw[if_neg (by decide)] at S3;go_wp2_with fail
             refine stepM (S3.o.has ⟨#[119,104,105,108,101]⟩ I2) λw4 S4=>?_;rw[if_neg (by decide)] at S4;go_wp2_with fail
             refine stepM (S4.o.has ⟨#[105,102]⟩ I3) λw5 S5=>?_;rw[if_neg (by decide)] at S5;go_wp2_with fail
             refine stepM (S5.o.has ⟨#[114,101,116,117,114,110]⟩ I4) λw6 S6=>?_;rw[if_pos rfl] at S6;go_wp2_with fail
             have A7:Hd (Fr nob w6 (w6.alloc (.cells #[.string ⟨#[59]⟩] 9))):=(fR w6).alloc _;refine stepM ((S6.o.no A7).is1 ⟨#[59]⟩ (Blk.new w6 _ _) IE) λw7 h7=>?_;have S7:=hD (S6.o.no (A7.o.tr h7));clear h7;go_wp2_with fail
             have T7:=hD S7.o.row0;refine eF (EX.o.expr.at T7.o.q.here HQ HN) λx8 w8 HX8 h8=>?_;have T8:=hD (T7.o.to h8);clear h8;go_wp2_with (at_builtin;go_loud (refine aL (v:= Un) (n:=0) (m:=1) (xs:=ints []) (news:=[x8]) rfl _ _ rfl gW rfl rfl (T8.o.own.alloc _) (Rd.eZ (n:=1) (cs:=[x8]) (Blk.new _ _ _) rfl (by decide)) (by simp[Value.oneCell']) (by decide) (by unfold maxLen;decide) ?_);intro A9 c9 w9 ho hf hv;go_loud (have T9:=hD (T8.o.app (l':=[x8]) ho hf hv));clear ho hf hv)
             refine stepM (T9.o.q.here.must ⟨#[59]⟩) λw10 h10=>?_;have T10:=hD (T9.o.to h10);clear h10;go_wp2_with fail
             refine eF (T10.o.put 17 rfl y (bJ src.data.toList ts s) (λ_=>HY.o H0) (name:=[]) rfl (l':=q.1) (λe=>by rw[HQ1.o,<-HX8.o (HE.o e)]) HN2) λx11 w11 HX11 S11=>?_;go_wp2
             go_ret;exact⟨x11,rfl,λe=>HX11.o e,S11.o.more (by show 0+10*n<=10*(n+1);omega)⟩
         . rw[if_neg i4] at hr
           have I4:=hD (show pIs ts [114,101,116,117,114,110] s=false from by
             cases hh:pIs ts [114,101,116,117,114,110] s with
             | false=>rfl
             | true=>exact absurd ((hw [114,101,116,117,114,110] 114 (by decide) (by decide)).1 hh) i4)
           cases n with
           | zero=>simp[run] at hr
           | succ n=>
             have HR:=hD hr;have HN:=hD (show r.2.nodes.length+20*(n+1)+20<=1000000 by omega);clear h h0 hn hr i0 i1 i2 i3 i4 hw hsg hB hgo;go_enter func125,ntmps125;go_wp2_with fail
             refine Z0.o.line.mono ?_;rintro e w1 ⟨y,rfl,hy,h1⟩;have S1:=hD h1;have HY:=hD hy;clear h1 hy;go_wp2_with fail
             refine stepM (S1.o.has ⟨#[108,101,116]⟩ I0) λw2 S2=>?_;rw[if_neg (by decide)] at S2;go_wp2_with fail
             refine stepM (S2.o.has ⟨#[112,114,105,110,116]⟩ I1) λw3 S3=>?_;rw[if_neg (by decide)] at S3;go_wp2_with fail
             refine stepM (S3.o.has ⟨#[119,104,105,108,101]⟩ I2) λw4 S4=>?_;rw[if_neg (by decide)] at S4;go_wp2_with fail
             refine stepM (S4.o.has ⟨#[105,102]⟩ I3) λw5 S5=>?_;rw[if_neg (by decide)] at S5;go_wp2_with fail
             refine stepM (S5.o.has ⟨#[114,101,116,117,114,110]⟩ I4) λw6 S6=>?_;rw[if_neg (by decide)] at S6;go_wp2_with fail
             have hy:=HY.o H0.o;rw[hy];refine eF (aAe src tb tc ts g n S6 H0 _ HR HN) λx7 w7 HX7 S7=>?_;go_wp2
             go_ret;exact⟨x7,rfl,HX7,S7.o.more (by show 10*n+2<=10*(n+1+1);omega)⟩
theorem aHp (src:ByteArray) (tb tc:Nat) (ts:List Tok) (g:Nat) (hsg:aKs ts):∀n,aCu src tb tc ts g n∧tK src tb tc ts g n:=by
 intro n;induction n using Nat.strongRecOn with
 | _ n ih=>
  cases n with
  | zero=>
   refine⟨?_,?_⟩
   . intro R w0 w s r N h h0 hr
     simp[run] at hr
   . intro R w0 w s r N h hr
     simp[run] at hr
  | succ n=>exact⟨aDw hsg (ih n (by omega)).2,aAi (λm hm=>(ih m (by omega)).1)⟩
structure QFn (src:ByteArray) (tb tc:Nat) (ts:List Tok) (g:Nat) (R:Nat->Prop) (w0:World) (b0 F:Nat) (w:World) (s:PS) (N:Lim) (name:ByteArray) (line:Nat) (pv:Value) (acc:List (List UInt8×Nat)) (ret body:Nat):Prop where
 q:QS src tb tc ts g R w0 w s N
 bb:Blk w b0 78 #[(g,())]
 bf:Blk w F 48 #[name,line,pv,ret,body]
 hf:w0.heap.size<=F
 own:Own w 101 2 pv acc.length (aN acc)
 new:∀k,blk pv=some k->w0.heap.size<=k
section
variable {src:ByteArray}{tb tc:Nat}{ts:List Tok}{g:Nat}{N N':Lim}{R:Nat->Prop}{w0 w w':World}{s s':PS}{b0 F:Nat}{name:ByteArray}{line:Nat}{pv:Value}{acc:List (List UInt8×Nat)}{ret body:Nat}
theorem QFn.to (h:QFn src tb tc ts g R w0 b0 F w s N name line pv acc ret body) (h':QS src tb tc ts g R w w' s' N'):QFn src tb tc ts g R w0 b0 F w' s' N' name line pv acc ret body:=by
 obtain⟨cs,hb⟩:=h.q.tZ;exact⟨h.q.back h',h'.fr.blk h.bb (h.bb.ne hb (by decide)) (by decide),h'.fr.blk h.bf (h.bf.ne hb (by decide)) (by decide),h.hf,h.own.frR hb (by decide) (by decide) h'.fr,h.new⟩
theorem QFn.alloc (h:QFn src tb tc ts g R w0 b0 F w s N name line pv acc ret body) (o:Obj):QFn src tb tc ts g R w0 b0 F (w.alloc o) s N name line pv acc ret body:=h.to (h.q.here.alloc o)
theorem QFn.kI (h:QFn src tb tc ts g R w0 b0 F w s N name line pv acc ret body) (j:Nat) (u:Value):QS src tb tc ts g R w0 (w.setCell (F,j) u) s N∧Blk (w.setCell (F,j) u) b0 78 #[(g,())]∧Own (w.setCell (F,j) u) 101 2 pv acc.length (aN acc):=
 ⟨h.q.cell h.bf (by decide) (by decide) (by decide) (by decide) h.hf j u,h.bb.far (p:=(F,j)) (λe=>h.bb.ne h.bf (by decide) e) u,h.own.far (p:=(F,j)) (h.own.aD h.bf (by decide)) u⟩
theorem QFn.setName (h:QFn src tb tc ts g R w0 b0 F w s N name line pv acc ret body) (x:ByteArray):QFn src tb tc ts g R w0 b0 F (w.setCell (F,()) x) s N x line pv acc ret body:=by
 obtain⟨a,b,c⟩:=h.kI 0 x;exact⟨a,b,h.bf.setCell 0 _,h.hf,c,h.new⟩
theorem QFn.aGz (h:QFn src tb tc ts g R w0 b0 F w s N name line pv acc ret body) (x:Nat):QFn src tb tc ts g R w0 b0 F (w.setCell (F,U3) x) s N name line pv acc x body:=by
 obtain⟨a,b,c⟩:=h.kI 3 x;exact⟨a,b,h.bf.setCell 3 _,h.hf,c,h.new⟩
theorem QFn.setBody (h:QFn src tb tc ts g R w0 b0 F w s N name line pv acc ret body) (x:Nat):QFn src tb tc ts g R w0 b0 F (w.setCell (F,U4) x) s N name line pv acc ret x:=by
 obtain⟨a,b,c⟩:=h.kI 4 x;exact⟨a,b,h.bf.setCell 4 _,h.hf,c,h.new⟩
theorem QFn.cells (h:QFn src tb tc ts g R w0 b0 F w s N name line pv acc ret body) (j:Nat):w.cell? (F,j)=(#[name,line,pv,ret,body]:Array Value)[j]?∧w.frozen? (F,j)=false∧F<w.heap.size:=
 ⟨h.bf.cell j,h.bf.frozen j,h.bf.lt⟩
theorem QFn.box (h:QFn src tb tc ts g R w0 b0 F w s N name line pv acc ret body):w.cell? (b0,0)=(g,()):=by rw[h.bb.cell 0];rfl
theorem QFn.app (h:QFn src tb tc ts g R w0 b0 F w s N name line pv acc ret body){x:List UInt8}{t:Nat}
   (ho:Own w' 101 2 v' (acc.length+1) (aN acc++[.string (bs x),.int .i64 (t:Nat)])) (hfr:Fr (obl (blk pv)) (w.alloc o) w') (hv:blk v'=blk pv∨blk v'=some (w.alloc o).heap.size):
   QFn src tb tc ts g R w0 b0 F (w'.setCell (F,U2) v') s N name line v' (acc++[(x,t)]) ret body:=by
 have h1:=h.alloc o;have hown:=h1.own;have h2:QS src tb tc ts g R w0 w' s N:=h1.q.frM hfr (λk hk=>h.new k hk) (λk hk=>by
   obtain⟨cs,hc⟩:=hown.ty (k:=k) hk;exact⟨_,_,hc,by decide,by decide,by decide,λe=>absurd e (by decide)⟩)
 have hbf2:=h1.bf.fr hfr (λhm=>hown.aD h1.bf (by decide) hm);have hbb2:=h1.bb.fr hfr (λhm=>hown.aD h1.bb (by decide) hm);have h3:Own w' 101 2 v' (acc++[(x,t)]).length (aN (acc++[(x,t)])):=by
   rw[aA3];unfold aN at ho ⊢;rw[List.flatMap_append];exact ho
 refine⟨h2.cell hbf2 (by decide) (by decide) (by decide) (by decide) h.hf 2 v',hbb2.far (p:=(F,U2)) (λe=>hbb2.ne hbf2 (by decide) e) _,hbf2.setCell 2 _,h.hf,h3.far (p:=(F,U2)) (h3.aD hbf2 (by decide)) _,λk hk=>?_⟩;rcases hv with e|e
 . rw[e] at hk;exact h.new k hk
 . rw[e] at hk;injection hk with hk
   have:=h1.q.fr.size;omega
end
theorem qI:Enters prog 81:=enters_of func81 (by kernel_rfl) rfl
theorem wN {F:Nat}{name:ByteArray}{line:Nat}{pv:Value}{acc:List (List UInt8×Nat)}
  (h:QFn src tb tc ts g R w0 b0 F w s N name line pv acc 0 0) (hl:acc.length<=1000):
  Calls prog 81 #[(b0,()),(F,())] w λe w'=>e = .returned (.tuple #[])∧∃pv',QFn src tb tc ts g R w0 b0 F w' (cO ts (aI ts s)) N name line pv' (acc++[(dZ ts s,fT ts (aI ts s))]) 0 0:=by
 have H:=hD h;have HL:=hD hl;obtain⟨X,hX⟩:∃X,bs (dZ ts s)=X:=⟨_,rfl⟩;have HX:=hD hX;have x0:=h.box;obtain⟨PA,PC,hv,hc1,hc2⟩:=h.own.cap;obtain⟨m,hm⟩:∃m,acc.length=m:=⟨_,rfl⟩;rw[hm] at hv HL;subst hv;have HMM:=hD hm;obtain⟨t,ht⟩:∃t,fT ts (aI ts s)=t:=⟨_,rfl⟩;have HT:=hD ht;rw[ht];clear h hl hX hc1 hc2 hm ht;go_enter func81,ntmps81;go_wp2_with fail
 refine stepM (H.o.q.here.name HX) λw1 h1=>?_;have S1:=hD (H.o.to h1);clear h1 x0;have S2:=hD (S1.o.alloc (.cells #[X,U0] 101));have P2:=hD (Blk.new w1 101 #[X,U0]);have x2:=S2.o.box;have PL:=hD (show ∀k,blk (.slice PA m PC)=some k->k<w1.heap.size from λk hk=>S1.o.own.aZ hk);go_wp2_with fail
 refine (S2.o.q.here.typed HT).mono ?_;rintro e w3 ⟨rfl,h3⟩;have S3:=hD (S2.o.to h3);obtain⟨cg,hcg⟩:=S2.o.q.tZ;have P3:=hD (h3.fr.blk P2 (P2.o.ne hcg (by decide)) (by decide));clear h3 x2 hcg;have p0:w3.cell? (w1.heap.size,0)=X:=by rw[P3.o.cell 0];rfl
 have p1:w3.cell? (w1.heap.size,1)=U0:=by rw[P3.o.cell 1];rfl
 have pf:=P3.o.frozen 1;obtain⟨c2,f2,hF⟩:=S3.o.cells 2;simp at c2
 have n1:¬F=w1.heap.size:=S3.o.bf.ne P3 (by decide);have n2:¬w1.heap.size=F:=λe=>n1 e.symm
 have S4:=hD (show QFn src tb tc ts g R w0 b0 F (w3.setCell (w1.heap.size,U1) t) (cO ts (aI ts s)) N name line (.slice PA m PC) acc 0 0 from
  ⟨S3.o.q.cell P3 (by decide) (by decide) (by decide) (by decide) S1.o.q.fr.size 1 _,S3.o.bb.far (p:=(w1.heap.size,U1)) (λe=>S3.o.bb.ne P3 (by decide) e) _,S3.o.bf.far (p:=(w1.heap.size,U1)) n1 _,S3.o.hf,S3.o.own.far (p:=(w1.heap.size,U1)) (λe=>by have:=PL.o _ e;exact absurd this (Nat.lt_irrefl _)) _,S3.o.new⟩)
 have NB:=hD (show Blk ((w3.setCell (w1.heap.size,U1) t).alloc (.cells #[X,t] 101)) w3.heap.size 101 #[X,t] from by
  have h9:=Blk.new (w3.setCell (w1.heap.size,U1) t) 101 #[X,t];rwa [show (w3.setCell (w1.heap.size,U1) t).heap.size=w3.heap.size by simp] at h9)
 go_wp2_with (at_builtin;go_loud (refine aL (v:= .slice PA m PC) (n:=m) (m:=1) (xs:=aN acc) (news:=[X,t]) rfl _ _ rfl aBj rfl rfl (by have h9:=S4.o.own;rw[HMM.o] at h9;exact h9.alloc _) (Rd.eZ (n:=1) (cs:=[X,t]) NB rfl (by decide)) (by simp[Value.oneCell']) (by have h9:=HL.o;omega) (by have h9:=HL.o;unfold maxLen;omega) ?_);intro A6 c6 w6 ho6 hf6 hv6;go_loud (have S6:=hD (S4.o.app (x:=dZ ts s) (t:=t) (by rw[HX.o,HMM.o];exact ho6) hf6 hv6));go_loud (have g5:=hD ((S4.o.bf.alloc (.cells #[X,t] 101)).fr hf6 (λhm=>(S4.o.own.alloc (.cells #[X,t] 101)).aD (S4.o.bf.alloc (.cells #[X,t] 101)) (by decide) hm)));have g2:=g5.o.frozen 2;have g3:=g5.o.cell 2;have g4:=g5.o.lt;simp at g3;clear ho6 hf6 hv6)
 refine fK rfl rfl ⟨rfl,_,S6⟩
theorem QS.aSy (h:QS src tb tc ts g R w0 w s N){b:Nat}{cs:Array Value} (hb:Blk w b 48 cs) (hn:w0.heap.size<=b) (f:Fr (bY b) w w'):QS src tb tc ts g R w0 w' s N:=
 h.frM f (λk hk=>by have e:k=b:=hk;subst e;exact hn) (λk hk=>by
  have e:k=b:=hk;subst e;exact⟨_,_,hb,by decide,by decide,by decide,λe=>absurd e (by decide)⟩)
def mG (ts:List Tok) (k:Nat) (acc:List (List UInt8×Nat)) (s:PS):Option (List (List UInt8×Nat)×PS):=some (acc++[(dZ ts s,fT ts (aI ts s))],cO ts (aI ts s))
theorem rH (ts:List Tok):∀(k:Nat) (acc:List (List UInt8×Nat)) (s:PS),aHl ts (mG ts) k acc s=aT ts k acc s
 | 0,_,_=>rfl
 | k+1,acc,s=>by
  simp only[aHl,aT,mG,Option.bind_some];split
  . exact rH ts k _ _
  . rfl
theorem wF (k:Nat) (a:List (List UInt8×Nat)) (s:PS) (r:List (List UInt8×Nat)×PS) (h:mG ts k a s=some r):s.nodes.length<=r.2.nodes.length∧s.i<=r.2.i∧r.1.length=a.length+1:=by
 unfold mG at h;simp only[aA0] at h;subst h;have hx:=((Ext.refl s).named (ts:=ts)).typed (ts:=ts);exact⟨aV hx,hx.i,by simp⟩
def FnI (src:ByteArray) (tb tc:Nat) (ts:List Tok) (g:Nat) (R:Nat->Prop) (w0:World) (b0 F:Nat) (N:Lim) (name:ByteArray) (line:Nat) (w:World) (s:PS) (acc:List (List UInt8×Nat)):Prop:=
 ∃pv,QFn src tb tc ts g R w0 b0 F w s N name line pv acc 0 0
theorem aPw (src:ByteArray) (tb tc:Nat) (ts:List Tok) (g:Nat) (R:Nat->Prop) (w0:World) (b0 F:Nat) (N:Lim) (name:ByteArray) (line:Nat):aNw src tb tc ts g (FnI src tb tc ts g R w0 b0 F N name line):=by
 intro w s a h;obtain⟨pv,hq⟩:=h;exact⟨R,N,hq.q.here,λw' s' he h'=>⟨pv,hq.to h'⟩⟩
theorem yP {s2:PS}{F:Nat}{name:ByteArray}{line:Nat}{p:List (List UInt8×Nat)×PS}
   (h:QFn src tb tc ts g R w0 b0 F w s N name line Un [] 0 0) (hs2:aA ts [40] s=s2) (hr:(if pIs ts [41] s2=false∧s2.e=0 then aT ts n [] s2 else some ([],s2))=some p):
   Calls prog 80 #[(g,()),.func (.func 81) #[] #[(b0,()),(F,())]] w λe w'=>e = .returned (.tuple #[])∧FnI src tb tc ts g R w0 b0 F N name line w' (aA ts [41] p.2) p.1:=by
 refine aHk (one:=mG ts) (len:=List.length) (n:=n) (L:=p.2.nodes.length) (aPw src tb tc ts g R w0 b0 F N name line) qI wF ?_ (a:=[]) (s:=s) (s2:=s2) ⟨_,h⟩ rfl hs2 ?_ (aA1 _)
 . intro k w s a u hk hI he hl hu hul
   obtain⟨pv,hq⟩:=hI;unfold mG at hu;simp only[aA0] at hu;subst hu;refine (wN hq hl).mono ?_;rintro e w' ⟨rfl,pv',h3⟩;exact⟨rfl,pv',h3⟩
 . split
   . rename_i hh
     rw[rH,<-hr,if_pos hh]
   . rename_i hh
     rw[<-hr,if_neg hh]
theorem aHv (hsg:aKs ts){fs:aG×PS} (h:QS src tb tc ts g R w0 w s N) (h0:s.e=0) (hr:eY src.data.toList ts n s=some fs) (hn:fs.2.nodes.length+20*n+40<=1000000):
   Calls prog 51 #[(g,())] w λe w'=>∃(pv:Value) (x:Nat),e = .returned (.agg #[bs fs.1.name,fs.1.line,pv,fs.1.ret,x])∧(fs.2.e=0->x=fs.1.body)∧QS src tb tc ts g R w0 w' fs.2 ⟨10*n+1,N.d⟩∧Own w' 101 2 pv fs.1.params.length (aN fs.1.params)∧(∀k,blk pv=some k->w0.heap.size<=k):=by
 have S0:=hD (h.zero h0 0);have HB:=hD (aHp src tb tc ts g hsg n).2;obtain⟨cg,hcg⟩:=h.tZ;have hgl:g<w.heap.size:=hcg.lt;have NE:=hD (show ∀k,w.heap.size<=k->k≠g from λk hk e=>by omega);obtain⟨W1,hW1⟩:∃W1,W1=((w.alloc (.cells #[(g,())] 78)).alloc (.cells #[.string ⟨#[]⟩,U0,Un,U0,U0] 48)):=⟨_,rfl⟩;have hsz1:(w.alloc (.cells #[(g,())] 78)).heap.size=w.heap.size+1:=by simp
 have A0:=hD (show Fr nob w W1 from by rw[hW1];exact ((fR w).alloc _).alloc _);have B0:=hD (show Blk W1 w.heap.size 78 #[(g,())] from by rw[hW1];exact (Blk.new w _ _).alloc _);have BT:=hD (show Blk W1 (w.heap.size+1) 48 #[.string ⟨#[]⟩,U0,Un,U0,U0] from by
   rw[hW1];have h9:=Blk.new (w.alloc (.cells #[(g,())] 78)) 48 #[.string ⟨#[]⟩,U0,Un,U0,U0];rwa [hsz1] at h9)
 have S1:=hD (S0.o.no A0).here;have x0:W1.cell? (w.heap.size,0)=(g,()):=by rw[B0.o.cell 0];rfl
 have HW:=hD hW1;have HSW:=hD (show W1.heap.size=w.heap.size+2 from by rw[hW1];simp);have hmf:∀(fn:Fn) (first cap:Array Value) (w:World),(Instr.makeFunc fn first cap).run prog w = .ok (.func fn first cap) w:=λ_ _ _ _=>rfl
 simp only[eY,bS,mS] at hr;obtain⟨p,hp,b,hb,rfl⟩:=hr;obtain⟨NM,hNM⟩:∃NM,bs (dZ ts (aA ts [102,110] s))=NM:=⟨_,rfl⟩;obtain⟨line,hline⟩:∃line,bJ src.data.toList ts s=line:=⟨_,rfl⟩;obtain⟨RT,hRT⟩:∃RT,(if pIs ts [123] (aA ts [41] p.2)=true then 0 else fT ts (aA ts [41] p.2))=RT:=⟨_,rfl⟩;rw[hline,hRT,hNM,show b.1.headD 0=oneOf b.1 from rfl];have HLN:=hD hline;have HNM:=hD hNM;have HPP:=hD hp;have HN:Hd (b.2.nodes.length+20*n+40<=1000000):=hn;have H0:=hD h0;have LW:=hD h.fr.size;by_cases hop:pIs ts [123] (aA ts [41] p.2)=true
 . rw[if_pos hop] at hb hRT
   have HOP:=hD hop;have HBL:=hD hb;subst hRT;clear h hcg hgl hsz1 hp hb hn h0 hop hline hNM hW1;go_enter func51,ntmps51;go_wp2_with fail
   rw[<-HW.o];refine S1.o.line.mono ?_;rintro e w1 ⟨y,rfl,hy,h1⟩;have S2:=hD h1;have HY:=hD ((hy H0).trans HLN);clear h1 hy x0;have S3:=hD (show QFn src tb tc ts g R W1 w.heap.size w1.heap.size (w1.alloc (.cells #[.string ⟨#[]⟩,y,Un,U0,U0] 48)) s ⟨0,N.d⟩ ⟨#[]⟩ y Un [] 0 0 from
    ⟨S2.o.alloc _,(S2.o.fr.blk B0 (NE _ (aA1 _)) (by decide)).alloc _,Blk.new w1 _ _,S2.o.fr.size,Own.nil _ _ _,λk hk=>by simp[blk] at hk⟩)
   have x1:w1.cell? (w.heap.size,0)=(g,()):=by rw[(S2.o.fr.blk B0.o (NE.o _ (aA1 _)) (by decide)).cell 0];rfl
   have x3:=S3.o.box;go_wp2_with fail
   refine stepM (S3.o.q.here.must ⟨#[102,110]⟩) λw4 h4=>?_;have S4:=hD (S3.o.to h4);clear h4 x1 x3;have x4:=S4.o.box;go_wp2_with fail
   refine stepM (S4.o.q.here.name HNM) λw5 h5=>?_;have S5:=hD (S4.o.to h5);clear h5 x4;obtain⟨a0,f0,hF⟩:=S5.o.cells 0;simp at a0
   have x5:(w5.setCell (w1.heap.size,()) NM).cell? (w.heap.size,0)=(g,()):=(S5.o.setName NM).box;have S6:=hD (S5.o.setName NM);have HR:=hD (yP S6 rfl HPP);go_wp2_with fail
   refine HR.o.mono ?_;rintro e w7 ⟨rfl,pv,h7⟩;have S7:=hD h7;clear h7 x5 a0 f0 hF;obtain⟨PA,PC,hpv,hc1,hc2⟩:=S7.o.own.cap;generalize hpl:p.1.length=pl at *;subst hpv;clear hc1 hc2;have HPL:=hD hpl;clear hpl;have x7:=S7.o.box;have A8:Hd (Fr nob w7 (w7.alloc (.cells #[.string ⟨#[123]⟩] 9))):=(fR w7).alloc _;have HI:=hD ((S7.o.q.no A8).is1 ⟨#[123]⟩ (Blk.new w7 _ _) HOP);go_wp2_with fail
   refine HI.o.mono ?_;rintro e w8 ⟨rfl,h8⟩;have S8:=hD (S7.o.to (S7.o.q.here.no (A8.o.tr h8)));clear h8 x7;have x8:=S8.o.box;have HBK:=hD (HB.o.at (N:=N) (m:=0) S8.o.q.here (aA4 _) HBL HN);go_wp2_with fail
   refine HBK.o.mono ?_;rintro e wb ⟨xb,rfl,hx,hb⟩;have SB:=hD (S8.o.to hb);have HXB:=hD hx;clear hx hb x8;skip
   obtain⟨a4,f4,hF⟩:=SB.o.cells 4;simp at a4
   have SC:=hD (SB.o.setBody xb);have BTC:Hd (Blk (wb.setCell (w1.heap.size,U4) xb) (w.heap.size+1) 48 #[.string ⟨#[]⟩,U0,Un,U0,U0]):=SC.o.q.fr.blk BT (NE _ (Nat.le_succ _)) (by decide);obtain⟨b0,_,hFl⟩:=SC.o.cells 0;obtain⟨b1,_,_⟩:=SC.o.cells 1;obtain⟨b2,_,_⟩:=SC.o.cells 2;obtain⟨b3,_,_⟩:=SC.o.cells 3;obtain⟨b4,_,_⟩:=SC.o.cells 4;have t0:=BTC.o.frozen 0;have t1:=BTC.o.frozen 1;have t2:=BTC.o.frozen 2;have t3:=BTC.o.frozen 3;have t4:=BTC.o.frozen 4;have u0:=BTC.o.cell 0;have u1:=BTC.o.cell 1;have u2:=BTC.o.cell 2;have u3:=BTC.o.cell 3;have u4:=BTC.o.cell 4;have hTl:=BTC.o.lt;simp only[List.size_toArray,List.length_cons,List.length_nil,Nat.reduceAdd,Nat.reduceLT,getElem?_pos,List.getElem_toArray,List.getElem_cons_zero,List.getElem_cons_succ] at b0 b1 b2 b3 b4 u0 u1 u2 u3 u4;go_wp2_with fail
   clear b0 b1 b2 b3 b4 t0 t1 t2 t3 t4 u0 u1 u2 u3 u4 hTl hF hFl a4 f4;have HB9:=hD (((((BTC.o.setCell 0 NM).setCell 1 y).setCell 2 (.slice PA pl PC)).setCell 3 (0:Nat)).setCell 4 xb);have HF9:=hD (Fr.five (wb.setCell (w1.heap.size,U4) xb) (w.heap.size+1) NM y (.slice PA pl PC) (0:Nat) xb);have QE:=hD (QS.aSy ((S0.o.no A0).back SC.o.q) BTC (by have:=LW.o;omega) HF9);have OE:=hD (SC.o.own.fr HF9 (λk hk hm=>SC.o.own.aD BTC (by decide) (by rw[hk,show k=w.heap.size+1 from hm])));rw[show ((0:Nat):Int)=0 from rfl] at HB9 HF9 QE OE;generalize (World.setCell (World.setCell (World.setCell (World.setCell (World.setCell (World.setCell wb _ _) _ _) _ _) _ _) _ _) _ _)=we at *;have z0:=HB9.o.cell 0;have z1:=HB9.o.cell 1;have z2:=HB9.o.cell 2;have z3:=HB9.o.cell 3;have z4:=HB9.o.cell 4;simp at z0 z1 z2 z3 z4
   have hyl:=HY.o;subst hyl;refine bodyPost_ret (v:= .agg #[NM,y,.slice PA pl PC,(0:Nat),xb]) (by simp[results,results51,go_sem,z0,z1,z2,z3,z4]) rfl ⟨.slice PA pl PC,xb,rfl,HXB,QE,OE,λk hk=>?_⟩;have h8:=SC.o.new k hk;have:=LW.o;have:=HSW.o;omega
 . rw[if_neg hop] at hb hRT
   have HOP:=hD (show pIs ts [123] (aA ts [41] p.2)=false by simpa using hop);have HRT:=hD hRT;have HBL:=hD hb;clear h hcg hgl hsz1 hp hb hn h0 hop hline hNM hRT hW1;go_enter func51,ntmps51;go_wp2_with fail
   rw[<-HW.o];refine S1.o.line.mono ?_;rintro e w1 ⟨y,rfl,hy,h1⟩;have S2:=hD h1;have HY:=hD ((hy H0).trans HLN);clear h1 hy x0;have S3:=hD (show QFn src tb tc ts g R W1 w.heap.size w1.heap.size (w1.alloc (.cells #[.string ⟨#[]⟩,y,Un,U0,U0] 48)) s ⟨0,N.d⟩ ⟨#[]⟩ y Un [] 0 0 from
    ⟨S2.o.alloc _,(S2.o.fr.blk B0 (NE _ (aA1 _)) (by decide)).alloc _,Blk.new w1 _ _,S2.o.fr.size,Own.nil _ _ _,λk hk=>by simp[blk] at hk⟩)
   have x1:w1.cell? (w.heap.size,0)=(g,()):=by rw[(S2.o.fr.blk B0.o (NE.o _ (aA1 _)) (by decide)).cell 0];rfl
   have x3:=S3.o.box;go_wp2_with fail
   refine stepM (S3.o.q.here.must ⟨#[102,110]⟩) λw4 h4=>?_;have S4:=hD (S3.o.to h4);clear h4 x1 x3;have x4:=S4.o.box;go_wp2_with fail
   refine stepM (S4.o.q.here.name HNM) λw5 h5=>?_;have S5:=hD (S4.o.to h5);clear h5 x4;obtain⟨a0,f0,hF⟩:=S5.o.cells 0;simp at a0
   have x5:(w5.setCell (w1.heap.size,()) NM).cell? (w.heap.size,0)=(g,()):=(S5.o.setName NM).box;have S6:=hD (S5.o.setName NM);have HR:=hD (yP S6 rfl HPP);go_wp2_with fail
   refine HR.o.mono ?_;rintro e w7 ⟨rfl,pv,h7⟩;have S7:=hD h7;clear h7 x5 a0 f0 hF;obtain⟨PA,PC,hpv,hc1,hc2⟩:=S7.o.own.cap;generalize hpl:p.1.length=pl at *;subst hpv;clear hc1 hc2;have HPL:=hD hpl;clear hpl;have x7:=S7.o.box;have A8:Hd (Fr nob w7 (w7.alloc (.cells #[.string ⟨#[123]⟩] 9))):=(fR w7).alloc _;have HI:=hD ((S7.o.q.no A8).is1 ⟨#[123]⟩ (Blk.new w7 _ _) HOP);go_wp2_with fail
   refine HI.o.mono ?_;rintro e w8 ⟨rfl,h8⟩;have S8:=hD (S7.o.to (S7.o.q.here.no (A8.o.tr h8)));clear h8 x7;have x8:=S8.o.box;go_wp2_with fail
   refine stepM (S8.o.q.here.typed HRT) λw9 h9=>?_;have S9:=hD (S8.o.to h9);clear h9 x8;obtain⟨a3,f3,hF⟩:=S9.o.cells 3;simp at a3
   have SA:=hD (S9.o.aGz RT);have xa:=SA.o.box;have HBK:=hD (HB.o.at (N:=N) (m:=0) SA.o.q.here (aA4 _) HBL HN);go_wp2_with fail
   refine HBK.o.mono ?_;rintro e wb ⟨xb,rfl,hx,hb⟩;have SB:=hD (SA.o.to hb);have HXB:=hD hx;clear hx hb xa a3 f3 hF;obtain⟨a4,f4,hF⟩:=SB.o.cells 4;simp at a4
   have SC:=hD (SB.o.setBody xb);have BTC:Hd (Blk (wb.setCell (w1.heap.size,U4) xb) (w.heap.size+1) 48 #[.string ⟨#[]⟩,U0,Un,U0,U0]):=SC.o.q.fr.blk BT (NE _ (Nat.le_succ _)) (by decide);obtain⟨b0,_,hFl⟩:=SC.o.cells 0;obtain⟨b1,_,_⟩:=SC.o.cells 1;obtain⟨b2,_,_⟩:=SC.o.cells 2;obtain⟨b3,_,_⟩:=SC.o.cells 3;obtain⟨b4,_,_⟩:=SC.o.cells 4;have t0:=BTC.o.frozen 0;have t1:=BTC.o.frozen 1;have t2:=BTC.o.frozen 2;have t3:=BTC.o.frozen 3;have t4:=BTC.o.frozen 4;have u0:=BTC.o.cell 0;have u1:=BTC.o.cell 1;have u2:=BTC.o.cell 2;have u3:=BTC.o.cell 3;have u4:=BTC.o.cell 4;have hTl:=BTC.o.lt;simp only[List.size_toArray,List.length_cons,List.length_nil,Nat.reduceAdd,Nat.reduceLT,getElem?_pos,List.getElem_toArray,List.getElem_cons_zero,List.getElem_cons_succ] at b0 b1 b2 b3 b4 u0 u1 u2 u3 u4;go_wp2_with fail
   clear b0 b1 b2 b3 b4 t0 t1 t2 t3 t4 u0 u1 u2 u3 u4 hTl hF hFl a4 f4;have HB9:=hD (((((BTC.o.setCell 0 NM).setCell 1 y).setCell 2 (.slice PA pl PC)).setCell 3 RT).setCell 4 xb);have HF9:=hD (Fr.five (wb.setCell (w1.heap.size,U4) xb) (w.heap.size+1) NM y (.slice PA pl PC) RT xb);have QE:=hD (QS.aSy ((S0.o.no A0).back SC.o.q) BTC (by have:=LW.o;omega) HF9);have OE:=hD (SC.o.own.fr HF9 (λk hk hm=>SC.o.own.aD BTC (by decide) (by rw[hk,show k=w.heap.size+1 from hm])));generalize (World.setCell (World.setCell (World.setCell (World.setCell (World.setCell (World.setCell wb _ _) _ _) _ _) _ _) _ _) _ _)=we at *;have z0:=HB9.o.cell 0;have z1:=HB9.o.cell 1;have z2:=HB9.o.cell 2;have z3:=HB9.o.cell 3;have z4:=HB9.o.cell 4;simp at z0 z1 z2 z3 z4
   have hyl:=HY.o;subst hyl;refine bodyPost_ret (v:= .agg #[NM,y,.slice PA pl PC,RT,xb]) (by simp[results,results51,go_sem,z0,z1,z2,z3,z4]) rfl ⟨.slice PA pl PC,xb,rfl,HXB,QE,OE,λk hk=>?_⟩;have h8:=SC.o.new k hk;have:=LW.o;have:=HSW.o;omega
theorem gI:∀{fs:List aG}{vs:List Value}{j:Nat}{f:aG}{v:Value},fs[j]?=some f->vs[j]?=some v->∀k,k<5->(dB fs vs)[j*5+k]?=(jZ f v)[k]?
 | [],_,_,_,_,h,_,_,_=>by simp at h
 | _ :: _,[],_,_,_,_,h,_,_=>by simp at h
 | a :: fs,b :: vs,0,f,v,h,h2,k,hk=>by
  simp at h h2;subst h;subst h2
  rw[dB,Nat.zero_mul,Nat.zero_add,List.getElem?_append_left (by simp[jZ];omega)]
 | a :: fs,b :: vs,j+1,f,v,h,h2,k,hk=>by
  have:=gI (fs:=fs) (vs:=vs) (j:=j) (by simpa using h) (by simpa using h2) k hk;rw[dB,List.getElem?_append_right (by simp[jZ];omega),show (jZ a b).length=5 from rfl,show (j+1)*5+k - 5=j*5+k by omega];exact this
theorem aIz (a:ByteArray) (l:Nat) (A:Option Addr) (n c r b:Nat) (w:World):
   Calls prog 53 #[.agg #[a,l,.slice A n c,r,b]] w λe w'=>e = .returned (.bool (decide (3<n)))∧Fr nob w w':=by
 by_cases h:3<n
 . rw[decide_eq_true h]
   have h1:(3:Int)<(n:Int):=by omega
   clear h;go_enter func53,ntmps53;go_wp2
   go_ret;exact⟨rfl,(fR w).alloc _⟩
 . rw[decide_eq_false h]
   have h1:¬(3:Int)<(n:Int):=by omega
   have h2:(n:Int)<=3:=by omega
   clear h;go_enter func53,ntmps53;go_wp2
   go_ret;exact⟨rfl,(fR w).alloc _⟩
def yF (f:aG):Bool:=decide (3<f.params.length)
theorem aFa {fs:List aG}{pvs:List Value} (ho:Own w 48 5 (.slice A fs.length c) fs.length (dB fs pvs)) (hp:dG w fs pvs) (hs:fs.length=pvs.length):
  Calls prog 42 #[.slice A fs.length c,.func (.func 53) #[] #[]] w λe w'=>∃z:Int,e = .returned z∧decide (0<=z)=fs.any yF∧Fr nob w w':=by
 have O:=hD ho;have HP:=hD hp;have HS:=hD hs;obtain⟨A2,c2,hv,hc1,hc2⟩:=ho.cap;simp only[Value.slice.injEq,true_and] at hv;obtain⟨hv1,hv2⟩:=hv;subst hv1;subst hv2;have hml:(fs.length:Int)<=9223372036854775807:=by unfold maxLen at hc2;omega
 generalize hm:fs.length=m at *;have HMM:=hD hm;clear ho hp hs hm hc1 hc2;go_enter func42,ntmps42;go_wp2
 go_loopw [8] (λi wr=>∃j:Nat,j<=m∧i = .int .i64 j∧Hd ((fs.take j).any yF=false)∧Hd (Fr nob w wr)) (λi _=>m - (intOf i).toNat)
 case atStart=>exact⟨0,aA4 _,rfl,hD (by simp),hD (Fr.refl _ _)⟩
 case round=>
  obtain⟨j,hj,rfl,HA,F⟩:=hrel;by_cases hlt:j<m
  . have hlt2:(j:Int)<(m:Int):=by omega
    have hlf:j<fs.length:=by rw[HMM.o];exact hlt
    obtain⟨f,hf⟩:∃f,fs[j]?=some f:=⟨_,gE hlf⟩;obtain⟨pv,hpv⟩:∃pv,pvs[j]?=some pv:=⟨_,gE (by have:=HS.o;have:=HMM.o;omega)⟩;obtain⟨PA,PC,rfl,_,_⟩:=(HP.o.get hf hpv).cap;have ho:=O.o.fr F (λ_ _ x=>x);rw[<-HMM.o] at ho;obtain⟨fb,rfl,hcell⟩:=ho.some (by omega);have e0:=hcell (j*5+0) _ (gI hf hpv 0 (by decide));have e1:=hcell (j*5+1) _ (gI hf hpv 1 (by decide));have e2:=hcell (j*5+2) _ (gI hf hpv 2 (by decide));have e3:=hcell (j*5+3) _ (gI hf hpv 3 (by decide));have e4:=hcell (j*5+4) _ (gI hf hpv 4 (by decide));rw[Nat.add_zero] at e0;have HT:=hD (show (fs.take (j+1)).any yF=yF f by rw[List.take_add_one,hf,List.any_append,HA.o];simp);have HC:=hD (λwx=>aIz (bs f.name) f.line PA f.params.length PC f.ret f.body wx);have HD:Hd (decide (3<f.params.length)=yF f):=rfl;obtain⟨z,hz⟩:∃z,yF f=z:=⟨_,rfl⟩;rw[HD.o,hz] at HC;rw[hz] at HT;clear hf hpv hcell ho hlf HD hz;cases z with
    | true=>
     go_wp2_with fail
     refine stepM (HC _) λw2 hf2=>?_;have F2:=hD (F.o.tr hf2);clear hf2;go_wp2
     go_ret;refine⟨j,rfl,?_,F2⟩;rw[show decide ((0:Int)<=(j:Int))=true by simp,eq_comm,List.any_eq_true];have h9:=HT.o;rw[List.any_eq_true] at h9;obtain⟨x,hx,hxx⟩:=h9;exact⟨x,List.mem_of_mem_take hx,hxx⟩
    | false=>
     go_wp2_with fail
     refine stepM (HC _) λw2 hf2=>?_;have F2:=hD (F.o.tr hf2);clear hf2;go_wp2
     go_roundw
     case rel=>exact⟨j+1,by omega,by go_num,HT,F2⟩
     case measure=>simp[intOf];omega
  . have hle:(m:Int)<=(j:Int):=by omega
    have hnl:¬(j:Int)<(m:Int):=by omega
    have HJ:=hD (show fs.length<=j by rw[HMM.o];omega);clear hlt;go_wp2
    go_ret;refine⟨-1,rfl,?_,F⟩;have h9:=HA.o;rw[aA5 HJ.o] at h9;rw[h9];rfl
theorem aMn {fs:List aG}{pvs:List Value} (ho:Own w 48 5 (.slice A fs.length c) fs.length (dB fs pvs)) (hp:dG w fs pvs) (hs:fs.length=pvs.length):
  Calls prog 52 #[.slice A fs.length c,.func (.func 53) #[] #[]] w λe w'=>e = .returned (fs.any yF)∧Fr nob w w':=by
 have H:=hD (aFa ho hp hs);generalize fs.length=m at *;clear ho hp hs;go_enter func52,ntmps52;go_wp2_with fail
 refine H.o.mono ?_;rintro e w2 ⟨z,rfl,hz,hf⟩;have HZ:=hD hz;clear hz;go_wp2
 go_ret;exact⟨by rw[<-HZ.o];rfl,hf⟩
theorem aEz {l:List UInt8}{k o:Nat} (h0:0<l.length) (h:firstM l = .ok k o m n) (hk:k=5):∀c∈(l.drop o).take m,¬(97<=c∧c<=122):=by
 unfold firstM at h;split at h
 . unfold jE at h
   split at h
   . injection h with h1 h2 h3 h4
     omega
   . cases h
 . split at h
   . unfold sJ at h
     split at h
     . injection h with h1 h2 h3 h4
       omega
     . split at h
       . cases h
       . injection h with h1 h2 h3 h4
         omega
   . rename_i hl
     split at h
     . unfold nG at h
       split at h
       . cases h
       . split at h
         . cases h
         . injection h with h1 h2 h3 h4
           omega
     . unfold kH at h
       split at h
       . rename_i h2
         injection h with h1 h3 h4 h5;subst h3;subst h4;rw[List.drop_zero];have hin:=h2.2;unfold aQq isIn kG at hin;simp only[decide_eq_true_eq,List.map_cons,List.map_nil,List.mem_cons,List.not_mem_nil,or_false] at hin;intro c hc;rcases hin with e|e|e|e|e<;>rw[e] at hc<;>simp at hc
         . subst hc;decide
         . subst hc;decide
         . rcases hc with rfl|rfl<;>decide
         . subst hc;decide
         . rcases hc with rfl|rfl<;>decide
       . split at h
         . injection h with h1 h3 h4 h5
           subst h3;subst h4;rw[List.drop_zero];intro c hc hcc;cases l with
           | nil=>cases h0
           | cons a t=>
            simp at hc
            subst hc;apply hl
            have h1:97<=c.toNat∧c.toNat<=122:=⟨UInt8.le_iff_toNat_le.1 hcc.1,UInt8.le_iff_toNat_le.1 hcc.2⟩;unfold fU aY;simp only[List.getD_cons_zero,Bool.or_eq_true,Bool.and_eq_true,decide_eq_true_eq];left
            omega
         . cases h
theorem aJc:∀(n:Nat) (l:List UInt8) (p:Nat) (ts:List Tok),l.length<=n->lexFrom l p = .good ts->∀t∈ts,t.kind=5->∀c∈t.text,¬(97<=c∧c<=122):=by
 intro n;induction n with
 | zero=>
  intro l p ts hl h;have:l=[]:=List.eq_nil_of_length_eq_zero (by omega);subst this;rw[lex_nil] at h;injection h with h;subst h;intro t ht hk;rw[List.mem_singleton.1 ht] at hk;cases hk
 | succ n ih=>
  intro l p ts hl h;refine qQ (Mo:=λl p=>l.length<=n+1->lexFrom l p = .good ts->∀t∈ts,t.kind=5->∀c∈t.text,¬(97<=c∧c<=122)) l p ?_ ?_ ?_ ?_ ?_ hl h
  . intro _ _ h
    rw[lex_nil] at h;injection h with h;subst h;intro t ht hk;rw[List.mem_singleton.1 ht] at hk;cases hk
  . intro h0 hb hl h
    rw[lI h0 hb] at h;have hd:(l.drop 1).length=l.length - 1:=by rw[List.length_drop]
    exact ih (l.drop 1) (p+1) ts (by omega) h
  . intro h0 hb hr hp hl h
    rw[jW h0 hb hr] at h;have hd:(l.drop (runN bW l)).length=l.length - runN bW l:=by rw[List.length_drop]
    exact ih (l.drop (runN bW l)) (p+runN bW l) ts (by omega) h
  . intro e h0 hb hr hf hl h
    rw[sN h0 hb hr hf] at h;cases h
  . intro k o m n' h0 hb hr hf hl h
    obtain⟨g1,g2,g3⟩:=jH h0 hf;rw[yI h0 hb hr hf] at h;have hd:(l.drop n').length=l.length - n':=by rw[List.length_drop]
    cases hq:lexFrom (l.drop n') (p+n') with
    | bad i e=>rw[hq] at h;cases h
    | good us=>
     rw[hq] at h;injection h with h;subst h;intro t ht hk;rcases List.mem_append.1 ht with ht|ht
     . rw[List.mem_singleton.1 ht] at hk ⊢
       exact aEz h0 hf hk
     . exact ih (l.drop n') (p+n') us (by omega) hq t ht hk
theorem aEu {l:List UInt8} (h:wM l = .good ts):∀t∈ts,t.kind=5->∀c∈t.text,¬(97<=c∧c<=122):=by
 unfold wM at h;split at h
 . cases h
 . exact aJc l.length l 0 ts (aA1 _) h
structure aBk (w:World):Prop where
 lex:Lx.Vars w
 most:∃m:Int,Blk w 0 3 #[m]
theorem aNf {src:List UInt8} (ht:dF ts){r:List aG×PS} (h:dR src ts n [] ⟨0,[],0,0,0⟩=some r):r.2.nodes.length<=40000:=by
 have h0:dA ts ⟨0,[],0,0,0⟩:=⟨ht.pos,by decide,λ_=>by decide,by decide,by decide⟩;obtain⟨a,b⟩:=aJo ht _ _ _ _ h h0;have:=a.room;have:=ht.few;unfold pot at b;simp at b
 omega
structure QA (src:ByteArray) (tb tc:Nat) (ts:List Tok) (g:Nat) (w0:World) (TT T9:Nat) (w:World) (s:PS) (N:Lim) (fv:Value) (fns:List aG) (pvs:List Value):Prop where
 q:QS src tb tc ts g (λ_=>False) w0 w s N
 bt:Blk w TT 26 #[Un,Un]
 b9:Blk w T9 26 #[Un,fv]
 h9:w0.heap.size<=T9
 ne:TT≠T9
 own:Own w 48 5 fv fns.length (dB fns pvs)
 pars:dG w fns pvs
 same:fns.length=pvs.length
 newf:∀k,blk fv=some k->w0.heap.size<=k
section
variable {src:ByteArray}{tb tc:Nat}{ts:List Tok}{g:Nat}{w0 w w1 w':World}{s s':PS}{N N':Lim}{TT T9:Nat}{fv:Value}{fns:List aG}{pvs:List Value}
theorem QA.to (h:QA src tb tc ts g w0 TT T9 w s N fv fns pvs) (h':QS src tb tc ts g (λ_=>False) w w' s' N'):QA src tb tc ts g w0 TT T9 w' s' N' fv fns pvs:=by
 obtain⟨cs,hb⟩:=h.q.tZ;exact⟨h.q.back h',h'.fr.blk h.bt (h.bt.ne hb (by decide)) (by decide),h'.fr.blk h.b9 (h.b9.ne hb (by decide)) (by decide),h.h9,h.ne,h.own.frR hb (by decide) (by decide) h'.fr,
  h.pars.to h'.fr (λk cu hk=>h'.fr.far hb hk (by decide) (by decide)),h.same,h.newf⟩
theorem QA.app (h:QA src tb tc ts g w0 TT T9 w s N fv fns pvs){f:aG}{pv:Value} (hp:Own w 101 2 pv f.params.length (aN f.params))
   (ho:Own w' 48 5 v' (fns.length+1) (dB fns pvs++jZ f pv)) (hf:Fr (obl (blk fv)) (w.alloc o) w') (hv:blk v'=blk fv∨blk v'=some (w.alloc o).heap.size):
   QA src tb tc ts g w0 TT T9 (w'.setCell (T9,U1) v') s N v' (fns++[f]) (pvs++[pv]):=by
 have hst:=h.q.alloc o;have hown:=h.own.alloc o;have hbt:=h.bt.alloc o;have hb9:=h.b9.alloc o;have hpp:=hp.alloc o;have hpars:dG (w.alloc o) fns pvs:=(h.pars.to (M:=nob) ((fR w).alloc o) (λ_ _ _ x=>x));have h2:QS src tb tc ts g (λ_=>False) w0 w' s N:=hst.frM (M:=obl (blk fv)) hf (λk hk=>h.newf k hk) (λk hk=>by
   obtain⟨cs,hc⟩:=hown.ty (k:=k) hk;exact⟨_,_,hc,by decide,by decide,by decide,λe=>absurd e (by decide)⟩)
 have hb92:=hb9.fr hf (λhm=>hown.aD hb9 (by decide) hm);have hbt2:=hbt.fr hf (λhm=>hown.aD hbt (by decide) hm);have hpars2:dG w' fns pvs:=hpars.to hf (λk cs hk hm=>by
   obtain⟨cs2,hc⟩:=hown.ty (k:=k) hm;exact hk.ne hc (by decide) rfl)
 have hpp2:=hpp.fr hf (λk hk hm=>hown.fV hpp (by decide) hk hm);have fs:Fr (bY T9) w' (w'.setCell (T9,U1) v'):=(Fr.refl _ w').setCell _ _ (λ_=>rfl);have h3:Own w' 48 5 v' (fns++[f]).length (dB (fns++[f]) (pvs++[pv])):=by
   rw[aA3,lS _ _ _ _ h.same];exact ho
 refine⟨h2.cell hb92 (by decide) (by decide) (by decide) (by decide) h.h9 1 v',hbt2.far (p:=(T9,U1)) h.ne _,hb92.setCell 1 _,h.h9,h.ne,h3.far (p:=(T9,U1)) (h3.aD hb92 (by decide)) _,
   dG.to fs (λk cs hk hm=>hk.ne hb92 (by decide) hm) (dG.snoc hpp2 hpars2),by simp[h.same],λk hk=>?_⟩
 rcases hv with e|e
 . rw[e] at hk;exact h.newf k hk
 . rw[e] at hk;injection hk with hk
   have:=hst.fr.size;omega
theorem QS.aKd (h:QS src tb tc ts g R w0 w s N):g<w.heap.size∧w.cell? (g,3)=s.e∧w.cell? (g,4)=s.place:=by
 obtain⟨q,lvs,hq,hs⟩:=h.q;obtain⟨hg,_,_,_,c3,c4,_⟩:=hq.cells;rw[hs.e] at c3;rw[hs.place] at c4;exact⟨hg,c3,c4⟩
theorem QS.aQw (h:QS src tb tc ts g R w0 w s N) (h0:s.e=0):∃nv lvs,w.cell? (g,5)=some nv∧Own w 50 5 nv s.nodes.length (cB s.nodes lvs)∧bD w s.nodes lvs∧s.nodes.length=lvs.length∧∀k,blk nv=some k->g<k:=by
 obtain⟨q,lvs,hq,hs⟩:=h.q;obtain⟨_,_,_,_,_,_,c5⟩:=hq.cells;obtain⟨h1,h2,h3⟩:=hs.row h0;have ho:=hq.own;rw[h1,h2] at ho;exact⟨q.nv,lvs,c5,ho,hs.below h0,h3,hq.newer⟩
theorem aMa (ht:zF b0 w0 (tb,ts.length,tc) ts) (hk:dF ts) (hs:src.size<=281474976710656) (hv:Most w0 w0):
   QS src tb tc ts w0.heap.size (λ_=>False) w0 (w0.alloc (.cells #[src,(tb,ts.length,tc),U0,U0,U0,Un] 82)) ⟨0,[],0,0,0⟩ ⟨0,0⟩:=by
 have hf:Fr nob w0 (w0.alloc (.cells #[src,(tb,ts.length,tc),U0,U0,U0,Un] 82)):=(fR w0).alloc _;have hb:=Blk.new w0 82 #[src,(tb,ts.length,tc),U0,U0,U0,Un];refine⟨⟨⟨0,0,0,0,0,Un,[]⟩,[],⟨?_,Own.nil _ _ _,⟨_,ht.no hf⟩,hk.pos,λk hk=>by simp[blk] at hk⟩,?_⟩,λk hk=>hk.elim,⟨hk.pos,by decide,λ_=>by decide,by decide,by decide⟩,hk,hs,FrR.no hf,hv.no hf⟩
 . have e:rQ src tb (ts.length - 0) (tc - 0) ⟨0,0,0,0,0,.slice none 0 0,[]⟩ = #[.string src,.slice (some ⟨tb,0,none⟩) ts.length tc,.int .i64 0,.int .i64 0,.int .i64 0,.slice none 0 0]:=by
    unfold rQ;simp
   show Blk _ _ _ (rQ src tb (ts.length - 0) (tc - 0) ⟨0,0,0,0,0,Un,[]⟩)
   rw[e];exact hb
 . exact⟨rfl,rfl,rfl,λ_=>⟨rfl,rfl⟩,λ_=>⟨rfl,rfl,rfl⟩,λ_=>trivial,λ_ v hv=>(by cases hv),λh=>absurd rfl h⟩
end
end Go.Proofs.YtlbjicjinnnboaaGreatDoor
