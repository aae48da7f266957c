/- MvC: laws and walks for CheckVisible. -/
import Derived.Test.YtlbjicjinnnboaaGreatDoorMvB
import Derived.StillTailTactics
set_option maxHeartbeats 8000000
set_option maxRecDepth 100000
set_option linter.unusedVariables false
set_option linter.unusedSimpArgs false
namespace Go.Proofs.YtlbjicjinnnboaaGreatDoor
open Go.RowKit Go.Proofs.Tryz
variable {w:World}{g tb tc n B k:Nat}{ts:List Tok}{s s':PS}{src X:ByteArray}{lvs:List Value}{b kv nv:Int}{cs:Array Value}{x:List UInt8}{v:Value}
section
variable {src:ByteArray}{tb tc:Nat}{ts:List Tok}{g:Nat}{lvs:List Value}{w w':World}{s:PS}
theorem bD.one {t:TypeId} (hb:Blk w g t cs) (ht:3≠t):∀{ns:List aF}{vs:List Value},bD w ns vs->Fr (bY g) w w'->bD w' ns vs
 | [],[],_,_=>trivial
 | [],_ :: _,h,_=>h.elim
 | _ :: _,[],h,_=>h.elim
 | _ :: _,_ :: _,h,f=>⟨h.1.fr f (λb hb' hm=>h.1.aD hb ht (by rw[hb',show b=g from hm])),bD.one hb ht h.2 f⟩
theorem Rdr.set {nv:Value} (h:Rdr src tb tc ts g lvs w s) (hb:Blk w g 88 cs) (j:Nat) (u:Value) (hn:s'.nodes=s.nodes)
   (hc:∀nv,cs = #[.string src,.slice (some ⟨tb,0,none⟩) ts.length tc,.int .i64 s.i,nv,.int .i64 s.deep,.int .i64 s.e,.int .i64 s.place]->cs.setIfInBounds j u = #[.string src,.slice (some ⟨tb,0,none⟩) ts.length tc,.int .i64 s'.i,nv,.int .i64 s'.deep,.int .i64 s'.e,.int .i64 s'.place]):
   Rdr src tb tc ts g lvs (w.setCell (g,j) u) s':=by
 obtain⟨nv,hb2,ho⟩:=h.cells;obtain⟨b0,ht⟩:=h.toks;have e0:=hb.symm.trans hb2;injection e0 with e0;injection e0 with e _ _;have f:Fr (bY g) w (w.setCell (g,j) u):=(Fr.refl _ w).setCell _ _ (λ_=>rfl);refine⟨⟨nv,?_,?_⟩,?_,by rw[hn];exact h.same,⟨b0,ht.own.fr f (λb hb' hm=>ht.own.aD hb (by decide) (by rw[hb',show b=g from hm])),ht.new⟩,λnv2 h1=>?_⟩
 . have:=hb.setCell j u
   rwa [hc nv e] at this
 . rw[hn]
   exact ho.fr f (λb hb' hm=>ho.aD hb (by decide) (by rw[hb',show b=g from hm]))
 . rw[hn]
   exact h.below.one hb (by decide) f
 . have hbs:=hb.setCell j u
   rw[hc nv e] at hbs;have h3:=hbs.cell 3;rw[h3] at h1;injection h1 with h1;subst h1;exact h.newer _ (hb2.cell 3)
theorem Rdr.blk (h:Rdr src tb tc ts g lvs w s):∃nv,Blk w g 88 #[src,(tb,ts.length,tc),s.i,nv,s.deep,s.e,s.place]:=by
 obtain⟨nv,hb,_⟩:=h.cells;exact⟨nv,hb⟩
theorem Rdr.aQk (h:Rdr src tb tc ts g lvs w s) (x:Nat):Rdr src tb tc ts g lvs (w.setCell (g,U2) x) { s with i:=x }:=by
 obtain⟨nv,hb⟩:=h.blk;exact h.set (nv:=nv) hb 2 _ rfl (λnv2 e=>by rw[e];rfl)
theorem Rdr.aOb (h:Rdr src tb tc ts g lvs w s) (x:Nat):Rdr src tb tc ts g lvs (w.setCell (g,U4) x) { s with deep:=x }:=by
 obtain⟨nv,hb⟩:=h.blk;exact h.set (nv:=nv) hb 4 _ rfl (λnv2 e=>by rw[e];rfl)
theorem Rdr.aSj (h:Rdr src tb tc ts g lvs w s) (x:Nat):Rdr src tb tc ts g lvs (w.setCell (g,U5) x) { s with e:=x }:=by
 obtain⟨nv,hb⟩:=h.blk;exact h.set (nv:=nv) hb 5 _ rfl (λnv2 e=>by rw[e];rfl)
theorem Rdr.aSi (h:Rdr src tb tc ts g lvs w s) (x:Nat):Rdr src tb tc ts g lvs (w.setCell (g,U6) x) { s with place:=x }:=by
 obtain⟨nv,hb⟩:=h.blk;exact h.set (nv:=nv) hb 6 _ rfl (λnv2 e=>by rw[e];rfl)
end
theorem lT (h:Rdr src tb tc ts g lvs w s) (hk:dA ts s) (k:Nat):
   Calls prog 134 #[(g,()),k] w λe w'=>e = .returned (.tuple #[])∧Rdr src tb tc ts g lvs w' (aR ts k s)∧FrR g w w':=by
 obtain⟨nv,hb⟩:=h.blk;obtain⟨hi,htb,x0,x1,x2⟩:=h.tok hk;have H:=hD h;have hg:=hb.lt;have c1:=hb.cell 1;have c2:=hb.cell 2;have c5:=hb.cell 5;have c6:=hb.cell 6;have f5:=hb.frozen 5;have f6:=hb.frozen 6;have hr:(s.i:Int)<(ts.length:Int):=by have:=hk.room;omega
 have htg:tb≠g:=by
   obtain⟨b0,ht⟩:=h.toks;intro e;exact ht.own.aD hb (by decide) (by simp[Go.Proofs.YtlbjicjinnnboaaGreatDoor.blk,e];have:=ht.own.cap;obtain⟨A,c,e1,h1,_⟩:=this;injection e1 with _ _ e3;have:=hk.room;omega)
 simp at c1 c2 c5 c6
 by_cases he:s.e=0
 . have heb:((s.e:Int)==0)=true:=by rw[he];rfl
   have e1:aR ts k s={ s with e:=k,place:=(bI ts s).place }:=by unfold aR;rw[if_pos he]
   rw[e1];clear e1 he hi hb h hk x0 x1;generalize (bI ts s).place=tp at *;go_enter func134,ntmps134;have n1:((g,U5):Addr)≠(g,U1):=by simp
   have n2:((g,U5):Addr)≠(g,U2):=by simp
   have n3:((g,U5):Addr)≠(g,U6):=by simp
   have n4:((g,U5):Addr)≠(tb,s.i*3+2):=by intro e;injection e with e;exact htg e.symm
   have d1:=(aA2 w (g,U5) (g,U1) k n1).trans c1;have d2:=(aA2 w (g,U5) (g,U2) k n2).trans c2;have d6:=(aA2 w (g,U5) (g,U6) k n3).trans c6;have dx:=(aA2 w (g,U5) (tb,s.i*3+2) k n4).trans x2;have HB:=H.o.aSj k;have G1:Fr (bY g) w (w.setCell (g,U5) k):=(Fr.refl _ w).setCell _ _ (λ_=>rfl);have FG:=hD G1;have fz:(w.setCell (g,U5) k).frozen? (g,U6)=false:=by
    obtain⟨nv2,hb2⟩:=HB.blk;exact hb2.frozen 6
   have HB2:=hD HB;clear n1 n2 n3 n4 G1 HB;go_wp2
   clear c1 c2 c5 c6 x2 f5 f6;generalize w.setCell (g,U5) k=w1 at *;have m1:((g,U6):Addr)≠(g,U1):=by simp
   have m2:((g,U6):Addr)≠(g,U2):=by simp
   have m4:((g,U6):Addr)≠(tb,s.i*3+2):=by intro e;injection e with e;exact htg e.symm
   have D1:=hD d1;have D2:=hD d2;have DX:=hD dx;have e1:=hD ((aA2 w1.drew (g,U6) (g,U1) tp m1).trans d1);have e2:=hD ((aA2 w1.drew (g,U6) (g,U2) tp m2).trans d2);have ex:=hD ((aA2 w1.drew (g,U6) (tb,s.i*3+2) tp m4).trans dx);clear m1 m2 m4;go_region_held3 (λwx=>wx.cell? (g,1)=(tb,ts.length,tc)∧wx.cell? (g,2)=s.i∧wx.cell? (tb,s.i*3+2)=tp) (first|exact⟨D1,D2,DX⟩|exact⟨e1.o,e2.o,ex.o⟩) (first|fail)
   refine fK rfl rfl ⟨rfl,(HB2.o.aSi tp).no ((fR _).drew),?_⟩;exact ((FG.o.setCell (g,U6) _ (λ_=>rfl)).drew).mono (λk _ e=> .inl e)
 . have heb:((s.e:Int)==0)=false:=bN.2 (by omega)
   have e1:aR ts k s=s:=by unfold aR;rw[if_neg he]
   rw[e1];clear e1 he hi hb h hk x0 x1 x2;go_enter func134,ntmps134;go_wp2
   refine fK rfl rfl ⟨rfl,H,Fr.refl _ _⟩
section
variable {ts:List Tok}{s:PS}
theorem dA.fail (h:dA ts s) (ht:dF ts) (k:Nat) (hk:k<=21) (hk0:1<=k):dA ts (aR ts k s):=by
 unfold aR;split
 . refine⟨h.room,h.deep,λe=>?_,hk,?_⟩
   . exact absurd e (by show k≠0;omega)
   . have hm:bI ts s∈ts:=by
      unfold bI;rw[List.getD,gE h.room];exact List.getElem_mem _
     exact (ht.at_ _ hm).2
 . exact h
theorem dA.go (h:dA ts s) (ht:dF ts) (hk:(bI ts s).kind≠0):dA ts (pGo s):=by
 refine⟨?_,h.deep,h.fine,h.err,h.place⟩;have hr:=h.room;by_cases e:s.i=ts.length - 1
 . refine absurd ?_ hk
   unfold bI;rw[e];exact ht.last
 . show s.i+1<ts.length
   omega
theorem dA.must (h:dA ts s) (ht:dF ts) (x:List UInt8):dA ts (aA ts x s):=by
 unfold aA;split
 . rename_i hx;exact h.go ht (aM hx).2.1
 . exact h.fail ht 20 (by decide) (by decide)
theorem dA.named (h:dA ts s) (ht:dF ts):dA ts (aI ts s):=by
 unfold aI;split
 . rename_i hx;exact h.go ht (by rw[(aW hx).2];decide)
 . exact h.fail ht 20 (by decide) (by decide)
theorem dA.typed (h:dA ts s) (ht:dF ts):dA ts (cO ts s):=by
 unfold cO;split
 . exact h.fail ht 20 (by decide) (by decide)
 . rename_i hx
   refine h.go ht ?_;unfold fT bQ at hx;split at hx
   . rename_i hk;rw[(aW hk).2];decide
   . exact absurd rfl hx
theorem dA.down (h:dA ts s) (ht:dF ts) (h0:s.e=0):dA ts (aX ts s):=by
 have hd:=h.fine h0;unfold aX;by_cases h16:16<=s.deep
 . have hf:=h.fail ht 21 (by decide) (by decide)
   simp only;rw[if_pos h16];have he:(aR ts 21 s).e=21:=by unfold aR;rw[if_pos h0]
   have hdd:(aR ts 21 s).deep=s.deep:=by unfold aR;rw[if_pos h0]
   exact⟨hf.room,by show (aR ts 21 s).deep+1<=17;omega,λe=>absurd e (by show (aR ts 21 s).e≠0;omega),hf.err,hf.place⟩
 . simp only
   rw[if_neg h16];exact⟨h.room,by show s.deep+1<=17;omega,λ_=>by show s.deep+1<=16;omega,h.err,h.place⟩
theorem dA.up (h:dA ts s):dA ts (pUp s):=⟨h.room,by show s.deep - 1<=17;have:=h.deep;omega,λe=>by show s.deep - 1<=16;have:=h.fine e;omega,h.err,h.place⟩
theorem dA.put (h:dA ts s) (k line n:Nat) (name:List UInt8) (l:List Nat):dA ts (bR k line n name l s).2:=⟨h.room,h.deep,h.fine,h.err,h.place⟩
end
theorem dF.i_le (ht:dF ts) (h:dA ts s):(s.i:Int)<=1000:=by have:=ht.few;have:=h.room;omega
theorem aMm (h:Rdr src tb tc ts g lvs w s) (hk:dA ts s) (ht:dF ts) (X:ByteArray):
  Calls prog 89 #[(g,()),X] w λe w'=>e = .returned (.tuple #[])∧Rdr src tb tc ts g lvs w' (aA ts X.data.toList s)∧FrR g w w':=by
 have H:=hD h;have HK:=hD hk;have hi:=ht.i_le hk;have HI:=hD (aJg h hk X);clear h hk ht;unfold aA;generalize pIs ts X.data.toList s=b at *;cases b with
 | true=>
  go_enter func89,ntmps89;go_wp2_with (go_at_call 91;go_must (refine HI.o.mono ?_;rintro e w1 ⟨rfl,hf⟩;have F1:=hD hf;have H1:=hD (H.o.no hf);(obtain⟨nv,hb⟩:=H1.o.blk);have c2:=hb.cell 2;have f2:=hb.frozen 2;simp at c2;clear hf hb))
  refine fK rfl rfl ⟨rfl,?_,?_⟩
  . exact H1.o.aQk (s.i+1)
  . exact FrR.trans (FrR.no F1) (((Fr.refl (bY g) w1).setCell (g,U2) _ (λ_=>rfl)).mono (λk _ e=> .inl e))
 | false=>
  go_enter func89,ntmps89;go_wp2_with (first|(go_at_call 91;go_must (refine HI.o.mono ?_;rintro e w1 ⟨rfl,hf⟩;have F1:=hD hf;have H1:=hD (H.o.no hf);clear hf))|(go_at_call 134;go_must (refine dU (lT H1 HK 20) λw2 H2 F2=>?_)))
  refine aPz rfl rfl ⟨rfl,H2,FrR.trans (FrR.no F1) F2⟩
theorem Rdr.aOv (h:Rdr src tb tc ts g lvs w s){i:Nat}{t:Tok} (hi:ts[i]?=some t):
  w.cell? (tb,i*3)=t.kind∧w.cell? (tb,i*3+1)=(bs t.text)∧w.cell? (tb,i*3+2)=t.place:=by
 obtain⟨b0,ht⟩:=h.toks;obtain⟨g2,hg,_,hlt,hat⟩:=ht.some (by have:=(gK hi);omega);injection hg with hg;injection hg with hg;subst hg;exact hat i _ hi
theorem wH (h:Rdr src tb tc ts g lvs w s) (hk:dA ts s) (ht:dF ts):
  Calls prog 90 #[(g,())] w λe w'=>e = .returned (bs (dZ ts s))∧Rdr src tb tc ts g lvs w' (aI ts s)∧FrR g w w':=by
 have H:=hD h;have HK:=hD hk;have hi:=ht.i_le hk;obtain⟨hti,_⟩:=h.tok hk;have HTI:=hD hti;have hr:(s.i:Int)<(ts.length:Int):=by have:=hk.room;omega
 have HI:=hD (qR h hk 3);clear h hk ht hti;unfold aI dZ;generalize bM ts 3 s=b at *;cases b with
 | true=>
  go_enter func90,ntmps90;go_upto_region 6 with (go_at_call 56;go_must (refine HI.o.mono ?_;rintro e w1 ⟨rfl,hf⟩;have F1:=hD hf;have H1:=hD (H.o.no hf);(obtain⟨nv,hb⟩:=H1.o.blk);have c2:=hb.cell 2;have f2:=hb.frozen 2;simp at c2;clear hf hb));have H2:=hD (H1.o.aQk (s.i+1));have F2:Hd (FrR g w1 (w1.setCell (g,U2) ((s.i+1:Nat):Int))):=((Fr.refl (bY g) w1).setCell (g,U2) _ (λ_=>rfl)).mono (λk _ e=> .inl e);rw[show ((s.i+1:Nat):Int)=(s.i:Int)+1 by omega] at H2 F2;clear c2 f2;generalize w1.setCell (g,U2) ((s.i:Int)+1:Int)=w2 at *;obtain⟨nv2,hb2⟩:=H2.o.blk;have c1:=hb2.cell 1;have c2:=hb2.cell 2;obtain⟨_,x1,_⟩:=H2.o.aOv HTI.o;simp at c1 c2
  clear hb2;go_quiet (fail)
  go_wp2
  go_ret;exact⟨rfl,H2.o.no ((fR _).drewN _),(FrR.trans (FrR.no F1) F2).trans (FrR.no ((fR _).drewN _))⟩
 | false=>
  go_enter func90,ntmps90;go_wp2_with (first|(go_at_call 56;go_must (refine HI.o.mono ?_;rintro e w1 ⟨rfl,hf⟩;have F1:=hD hf;have H1:=hD (H.o.no hf);clear hf))|(go_at_call 134;go_must (refine dU (lT H1 HK 20) λw2 H2 F2=>?_)))
  go_ret;exact⟨rfl,H2,FrR.trans (FrR.no F1) F2⟩
theorem uM (h:Rdr src tb tc ts g lvs w s) (hk:dA ts s):
  Calls prog 135 #[(g,())] w λe w'=>e = .returned (bs (bQ ts s))∧Fr nob w w':=by
 have H:=hD h;obtain⟨hti,_⟩:=h.tok hk;have HTI:=hD hti;have hr:(s.i:Int)<(ts.length:Int):=by have:=hk.room;omega
 have HI:=hD (qR h hk 4);clear h hk hti;unfold bQ;generalize bM ts 4 s=b at *;cases b with
 | true=>
  go_enter func135,ntmps135;go_upto_region 3 with (go_at_call 56;go_must (refine HI.o.mono ?_;rintro e w1 ⟨rfl,hf⟩;have F1:=hD hf;have H1:=hD (H.o.no hf);clear hf));obtain⟨nv2,hb2⟩:=H1.o.blk;have c1:=hb2.cell 1;have c2:=hb2.cell 2;obtain⟨_,x1,_⟩:=H1.o.aOv HTI.o;simp at c1 c2
  clear hb2;go_quiet (fail)
  go_wp2
  go_ret;exact⟨rfl,F1.o.drewN _⟩
 | false=>
  go_enter func135,ntmps135;go_wp2_with (go_at_call 56;go_must (refine HI.o.mono ?_;rintro e w1 ⟨rfl,hf⟩;have F1:=hD hf;clear hf))
  go_ret;exact⟨rfl,F1⟩
theorem aIj (h:Rdr src tb tc ts g lvs w s) (hk:dA ts s) (hs:src.size<=281474976710656):
  Calls prog 88 #[(g,())] w λe w'=>e = .returned (bJ src.data.toList ts s)∧Fr nob w w':=by
 obtain⟨nv,hb,ho⟩:=h.cells;obtain⟨hi,htb,x0,x1,x2⟩:=h.tok hk;have c0:=hb.cell 0;have c1:=hb.cell 1;have c2:=hb.cell 2;have hr:(s.i:Int)<(ts.length:Int):=by have:=hk.room;omega
 have HL:=hD (λw'=>aHn src hs (bI ts s).place w');unfold bJ;clear x0 x1 hi ho hb h hk;simp at c0 c1 c2
 generalize iU src.data.toList ((bI ts s).place:Int)=n at *;generalize (((bI ts s).place:Nat):Int)=tp at *;go_enter func88,ntmps88;go_wp2
 go_quiet ((go_at_call 133;exact Calls.quiet_of_same ((HL _).mono (λ_ _ h=>⟨h.1,h.2.symm⟩))))
 go_wp2
 go_ret;exact⟨rfl,(fR w).drewN _⟩
theorem aNg (h:Rdr src tb tc ts g lvs w s) (hk:dA ts s):
   Calls prog 137 #[(g,())] w λe w'=>e = .returned (.tuple #[])∧Rdr src tb tc ts g lvs w' (aX ts s)∧FrR g w w':=by
 have H:=hD h;have HK:=hD hk;obtain⟨nv,hb⟩:=h.blk;have c4:=hb.cell 4;have f4:=hb.frozen 4;simp at c4
 have hd:(s.deep:Int)<=17:=by have:=hk.deep;omega
 clear h hk hb;unfold aX;by_cases h16:16<=s.deep
 . simp only
   rw[if_pos h16];have h17:(16:Int)<=(s.deep:Int):=by omega
   have hdd:(aR ts 21 s).deep=s.deep:=by unfold aR;split<;>rfl
   have HD:=hD hdd;clear h16 hdd f4;go_enter func137,ntmps137;go_wp2_with (go_at_call 134;go_must (refine (lT H HK 21).mono ?_;rintro e w2 ⟨rfl,hr,hf2⟩;have H2:=hD hr;have F2:=hD hf2;(obtain⟨nv2,hb2⟩:=hr.blk);rw[HD.o] at hb2;have d4:=hb2.cell 4;have g4:=hb2.frozen 4;simp at d4;clear hr hf2 hb2))
   refine fK rfl rfl ⟨rfl,?_,?_⟩
   . have:=H2.o.aOb (s.deep+1)
     rw[HD.o];exact this
   . exact FrR.trans F2 (((Fr.refl (bY g) w2).setCell (g,U4) _ (λ_=>rfl)).mono (λk _ e=> .inl e))
 . simp only
   rw[if_neg h16];have h17:(s.deep:Int)<16:=by omega
   clear h16;go_enter func137,ntmps137;go_wp2
   refine fK rfl rfl ⟨rfl,?_,?_⟩
   . exact H.o.aOb (s.deep+1)
   . exact ((Fr.refl (bY g) w).setCell (g,U4) _ (λ_=>rfl)).mono (λk _ e=> .inl e)
theorem aLh (X:ByteArray) (w:World):Calls prog 136 #[X] w λe w'=>e = .returned (nO X.data.toList)∧w=w':=by
 have hX:X.toList=X.data.toList:=ByteArray.toList_eq X;unfold nO;generalize X.data.toList=x at *;by_cases h1:x=[105,110,116]
 . subst h1
   rw[if_pos rfl];go_enter func136,ntmps136;go_wp2
   go_ret;exact⟨rfl,rfl⟩
 . rw[if_neg h1]
   have b1:(x==[105,110,116])=false:=bN.2 h1;by_cases h2:x=[98,111,111,108]
   . subst h2
     rw[if_pos rfl];clear h1 b1;go_enter func136,ntmps136;go_wp2
     go_ret;exact⟨rfl,rfl⟩
   . rw[if_neg h2]
     have b2:(x==[98,111,111,108])=false:=bN.2 h2;by_cases h3:x=[116,101,120,116]
     . subst h3
       rw[if_pos rfl];clear h1 b1 h2 b2;go_enter func136,ntmps136;go_wp2
       go_ret;exact⟨rfl,rfl⟩
     . rw[if_neg h3]
       have b3:(x==[116,101,120,116])=false:=bN.2 h3;by_cases h4:x=[108,105,115,116]
       . subst h4
         rw[if_pos rfl];clear h1 b1 h2 b2 h3 b3;go_enter func136,ntmps136;go_wp2
         go_ret;exact⟨rfl,rfl⟩
       . rw[if_neg h4]
         have b4:(x==[108,105,115,116])=false:=bN.2 h4;clear h1 h2 h3 h4;go_enter func136,ntmps136;go_wp2
         go_ret;exact⟨rfl,rfl⟩
theorem Own.ty {e size:Nat}{xs:List Value} (h:Own w e size v n xs) (hk:blk v=some k):∃cs,Blk w k e cs:=by
 obtain⟨hl,A,c,rfl,⟨rfl,_⟩|⟨g',cur,rfl,h0,hb',r⟩⟩:=h
 . cases A<;>simp[blk] at hk
 . simp[blk] at hk
   exact⟨cur,by rw[<-hk.2];exact hb'⟩
theorem bD.frR {w':World}{t:TypeId} (hb:Blk w g t cs) (ht:3≠t):∀{ns:List aF}{vs:List Value},bD w ns vs->FrR g w w'->bD w' ns vs
 | [],[],_,_=>trivial
 | [],_ :: _,h,_=>h.elim
 | _ :: _,[],h,_=>h.elim
 | _ :: _,_ :: _,h,f=>⟨h.1.fr f (λb hb' hm=>by
  rcases hm with e|⟨_,cs',f',hc⟩
  . exact h.1.aD hb ht (by rw[hb',e])
  . obtain⟨cur,hcur⟩:=h.1.ty hb'
    unfold Blk at hcur;rw[hcur] at hc;injection hc with hc;injection hc with _ h2 _;exact absurd h2 (by decide)),bD.frR hb ht h.2 f⟩
theorem bD.snoc {n:aF} (hn:Own w 3 1 v n.l.length (ints n.l)):∀{ns:List aF}{vs:List Value},bD w ns vs->bD w (ns++[n]) (vs++[v])
 | [],[],_=>⟨hn,trivial⟩
 | [],_ :: _,h=>h.elim
 | _ :: _,[],h=>h.elim
 | _ :: _,_ :: _,h=>⟨h.1,bD.snoc hn h.2⟩
theorem Own.frR {w':World}{t e size:Nat}{xs:List Value} (h:Own w e size v n xs) (hb:Blk w g t cs) (ht:e≠t) (hn:e≠50) (f:FrR g w w'):Own w' e size v n xs:=
 h.fr f (λb hb' hm=>by
  rcases hm with e1|⟨_,cs',f',hc⟩
  . exact h.aD hb ht (by rw[hb',e1])
  . obtain⟨cur,hcur⟩:=h.ty hb'
    unfold Blk at hcur;rw[hcur] at hc;injection hc with hc;injection hc with _ h2 _;exact hn h2)
theorem aPh (h:Rdr src tb tc ts g lvs w s) (k line n:Nat) (name:List UInt8) (lv:Value) (l:List Nat)
   (hl:Own w 3 1 lv l.length (ints l)) (hn:s.nodes.length<=1000000):
   Calls prog 139 #[(g,()),k,line,n,bs name,lv] w λe w'=>
     e = .returned s.nodes.length∧Rdr src tb tc ts g (lvs++[lv]) w' (bR k line n name l s).2∧FrR g w w':=by
 obtain⟨nv,hb,ho⟩:=h.cells;obtain⟨b0,ht⟩:=h.toks;have hnw:=h.newer nv (hb.cell 3);have NW:=hD hnw;clear hnw;have c3:=hb.cell 3;have f3:=hb.frozen 3;obtain⟨A,c,rfl,hc1,hc2⟩:=ho.cap;obtain⟨A1,c1,rfl,hc3,hc4⟩:=hl.cap;simp at c3
 have hg:=hb.lt;have H:=hD h;have HO:=hD ho;have HB:=hD hb;have HL:=hD hl;have HT:=hD ht;have hn2:(s.nodes.length:Int)<=1000000:=by omega
 generalize hN:s.nodes.length=N at *;generalize hM:l.length=M at *;obtain⟨B,hB⟩:∃B,bs name=B:=⟨_,rfl⟩;have NM:=hD hB;rw[hB];clear h ho hb hl ht hB;go_enter func139,ntmps139;go_wp2_with (at_builtin;refine aL (v:= .slice A N c) (m:=1) (news:=[k,line,n,B,.slice A1 M c1]) rfl _ _ rfl aOn rfl rfl (HO.o.alloc _) (Rd.eZ (n:=1) (cs:=[k,line,n,B,.slice A1 M c1]) (Blk.new _ _ _) rfl (by decide)) (by simp[Value.oneCell']) (by omega) (by unfold maxLen;omega) ?_;intro A3 c3' w3 ho3 hf3 hv3;have O3:=hD ho3;have F3:=hD hf3;have V3:=hD hv3;have B3:=hD ((HB.o.alloc _).fr hf3 (λhm=>HO.o.aD HB (by decide) hm));have g3:=B3.o.frozen 3;have d3:=B3.o.cell 3;simp at d3;clear ho3 hf3 hv3)
 go_ret;have hFR:FrR g w w3:=by
   refine Fr.trans (M1:=nob) ((fR w).alloc _) F3 (λ_ _ x=>x.elim) (λk2 hk2 hm=>?_);obtain⟨cur,hcur⟩:=HO.o.ty (k:=k2) hm;exact .inr ⟨NW k2 hm,cur,_,hcur⟩
 have hset:Fr (bY g) w3 (w3.setCell (g,U3) (.slice A3 (N+1) c3')):=(Fr.refl (bY g) w3).setCell _ _ (λ_=>rfl);have hFR2:FrR g w (w3.setCell (g,U3) (.slice A3 (N+1) c3')):=FrR.trans hFR (hset.mono (λk _ e=> .inl e));refine⟨by first|rfl|simp,⟨⟨.slice A3 (N+1) c3',?_,?_⟩,?_,?_,⟨b0,?_⟩,λnv2 h1 k2 hk2=>?_⟩,hFR2⟩
 . exact B3.o.setCell 3 _
 . have e1:(bR k line n name l s).2.nodes=s.nodes++[⟨k,line,n,name,l⟩]:=rfl
   rw[e1,gQ _ _ _ _ H.o.same,aA3,hN];have:=O3.o;rw[<-NM.o] at this;exact this.fr hset (λb hb' hm=>O3.o.aD B3 (by decide) (by rw[hb',show b=g from hm]))
 . have hl2:Own w 3 1 (.slice A1 M c1) l.length (ints l):=by rw[hM];exact HL.o
   exact bD.snoc (hl2.frR HB (by decide) (by decide) hFR2) (H.o.below.frR HB (by decide) hFR2)
 . show (s.nodes++[_]).length=(lvs++[_]).length
   rw[aA3,aA3,H.o.same];rfl
 . exact⟨HT.o.own.frR HB (by decide) (by decide) hFR2,HT.o.new⟩
 . have h3:=(B3.o.setCell 3 (.slice A3 (N+1) c3')).cell 3
   rw[h3] at h1;simp at h1
   subst h1;rcases V3.o with e|e
   . exact NW k2 (by rw[<-e];exact hk2)
   . rw[e] at hk2
     injection hk2 with hk2;have:=HB.o.lt;simp at hk2;omega
theorem vS (x:List UInt8):nO x<=4:=by
 unfold nO
 (repeat' split)<;>omega
theorem aGm (h:Rdr src tb tc ts g lvs w s) (hk:dA ts s) (ht:dF ts):
   Calls prog 92 #[(g,())] w λe w'=>e = .returned (fT ts s)∧Rdr src tb tc ts g lvs w' (cO ts s)∧FrR g w w':=by
 have H:=hD h;have HK:=hD hk;have hi:=ht.i_le hk;have HW:=hD (uM h hk);have HT:=hD (λw'=>aLh (bs (bQ ts s)) w');rw[show (bs (bQ ts s)).data.toList=bQ ts s from rfl] at HT;have hle:=vS (bQ ts s);unfold cO;have e0:fT ts s=nO (bQ ts s):=rfl;rw[e0];generalize nO (bQ ts s)=t at *;generalize bs (bQ ts s)=wd at *;clear h hk ht e0;by_cases h0:t=0
 . subst h0
   rw[if_pos rfl];go_enter func92,ntmps92;go_wp2_with (first|(go_at_call 135;go_must (refine HW.o.mono ?_;rintro e w1 ⟨rfl,hf⟩;have F1:=hD hf;have H1:=hD (H.o.no hf);clear hf))|(go_at_call 136;refine bE (HT _) ?_)|(go_at_call 134;go_must (refine dU (lT H1 HK 20) λw2 H2 F2=>?_)))
   go_ret;exact⟨rfl,H2,FrR.trans (FrR.no F1) F2⟩
 . rw[if_neg h0]
   have tb2:((t:Int)==0)=false:=bN.2 (by omega);clear h0;go_enter func92,ntmps92;go_wp2_with (first|(go_at_call 135;go_must (refine HW.o.mono ?_;rintro e w1 ⟨rfl,hf⟩;have F1:=hD hf;have H1:=hD (H.o.no hf);(obtain⟨nv,hb⟩:=H1.o.blk);have c2:=hb.cell 2;have f2:=hb.frozen 2;simp at c2;clear hf hb))|(go_at_call 136;refine bE (HT _) ?_))
   go_ret;exact⟨rfl,H1.o.aQk (s.i+1),FrR.trans (FrR.no F1) (((Fr.refl (bY g) w1).setCell (g,U2) _ (λ_=>rfl)).mono (λk _ e=> .inl e))⟩
theorem aKf (h:Rdr src tb tc ts g lvs w s) (hk:dA ts s) (ht:dF ts):
  Calls prog 190 #[(g,())] w λe w'=>e = .returned (gG ts s)∧Fr nob w w':=by
 have H:=hD h;have hi:=ht.i_le hk;have HI:=hD (qR h hk 3);have hnext:bM ts 3 s=true->s.i+1<ts.length:=λhx=>(hk.go ht (by rw[(aW hx).2];decide)).room
 unfold gG;clear h hk ht;generalize bM ts 3 s=b at *;cases b with
 | false=>
  rw[Bool.false_and];clear hnext;go_enter func190,ntmps190;go_upto_region 2 with (go_at_call 56;go_must (refine HI.o.mono ?_;rintro e w1 ⟨rfl,hf⟩;have F1:=hD hf;clear hf));go_quiet (fail)
  go_wp2
  go_ret;exact⟨rfl,F1.o.drewN _⟩
 | true=>
  have hn:=hnext rfl;have hr:(s.i:Int)+1<(ts.length:Int):=by omega
  obtain⟨u,hu⟩:∃u,ts[s.i+1]?=some u:=⟨ts[s.i+1],gE hn⟩;have hug:ts.getD (s.i+1) aDa=u:=by rw[List.getD,hu];rfl
  rw[hug,Bool.true_and];have HU:=hD hu;have hx:(bs u.text).toList=u.text:=by rw[ByteArray.toList_eq];rfl
  have d1:IntKind.i64.wrap ((s.i:Int)+1)=(s.i:Int)+1:=IntWalk.i64_in _ (by omega);have d2:(0:Int)<=(s.i:Int)+1:=by omega
  have d3:((s.i:Int)+1).toNat=s.i+1:=by omega
  obtain⟨R,hR⟩:∃R,(decide (u.kind=5) && decide (u.text=[40]))=R:=⟨_,rfl⟩;rw[hR];have HR:=hD hR;have HX:=hD hx;clear hnext hug hu hn hx hR;go_enter func190,ntmps190;go_upto_region 2 with (go_at_call 56;go_must (refine HI.o.mono ?_;rintro e w1 ⟨rfl,hf⟩;have F1:=hD hf;have H1:=hD (H.o.no hf);clear hf));obtain⟨nv2,hb2⟩:=H1.o.blk;have c1:=hb2.cell 1;have c2:=hb2.cell 2;obtain⟨x0,x1,_⟩:=H1.o.aOv HU.o;simp at c1 c2
  clear hb2;generalize bs u.text=ut at *;by_cases h5:u.kind=5
  . have h5b:((u.kind:Int)==5)=true:=by rw[h5];rfl
    by_cases hT:u.text=[40]
    . have hTb:(ut.toList==[40])=true:=by rw[HX.o,hT];rfl
      obtain rfl:R=true:=by rw[<-HR.o,decide_eq_true h5,decide_eq_true hT];rfl
      clear h5 hT;go_quiet (fail)
      go_wp2
      go_ret;exact⟨rfl,F1.o.drewN _⟩
    . have hTb:(ut.toList==[40])=false:=by rw[HX.o];exact bN.2 hT
      obtain rfl:R=false:=by rw[<-HR.o,decide_eq_true h5,decide_eq_false hT];rfl
      clear h5 hT;go_quiet (fail)
      go_wp2
      go_ret;exact⟨rfl,F1.o.drewN _⟩
  . have h5b:((u.kind:Int)==5)=false:=bN.2 (by omega)
    obtain rfl:R=false:=by rw[<-HR.o,decide_eq_false h5];rfl
    clear h5;go_quiet (fail)
    go_wp2
    go_ret;exact⟨rfl,F1.o.drewN _⟩
def aLr (lv:Nat):Array Value:=((dQ lv).map λx=>Value.string (bs x)).toArray
theorem aGx (lv:Nat) (h:lv<=4) (w:World):Calls prog 225 #[lv] w λe w'=>(∃g2,e = .returned (g2,(dQ lv).length,(dQ lv).length)∧Blk w' g2 9 (aLr lv))∧Fr nob w w':=by
 rcases (by omega:lv=0∨lv=1∨lv=2∨lv=3∨lv=4) with rfl|rfl|rfl|rfl|rfl
 all_goals
  go_enter func225,ntmps225;go_wp2
  go_ret;exact⟨⟨w.heap.size,rfl,Blk.new w 9 _⟩,(fR w).alloc _⟩
theorem aLq {lv j:Nat} (h:j<(dQ lv).length):∃x,(dQ lv)[j]?=some x∧(aLr lv)[j]?=(bs x):=by
 refine⟨(dQ lv)[j],gE h,?_⟩;unfold aLr;simp[gE h]
theorem vE {p:List UInt8->Bool}:∀{l:List (List UInt8)}{j:Nat}{x:List UInt8},l[j]?=some x->p x=true->(∀k y,k<j->l[k]?=some y->p y=false)->l.find? p=some x
 | [],_,_,h,_,_=>by simp at h
 | a :: l,0,x,h,hp,_=>by simp at h;subst h;simp[hp]
 | a :: l,j+1,x,h,hp,hn=>by
  have ha:=hn 0 a (by omega) rfl;rw[List.find?_cons,ha];exact vE (by simpa using h) hp (λk y hk hy=>hn (k+1) y (by omega) (by simpa using hy))
theorem aMl (h:Rdr src tb tc ts g lvs w s) (hk:dA ts s) (lv:Nat) (hlv:lv<=4):
  Calls prog 206 #[(g,()),lv] w λe w'=>e = .returned (bs (fQ ts lv s))∧Fr nob w w':=by
 have H:=hD h;have HK:=hD hk;have HS:=hD (aGx lv hlv);have hlen:(dQ lv).length<=4:=by
  rcases (by omega:lv=0∨lv=1∨lv=2∨lv=3∨lv=4) with rfl|rfl|rfl|rfl|rfl<;>decide
 have SV:=hD (λj (hj:j<(dQ lv).length)=>aLq hj);have hN:=λ(j:Nat) (x:List UInt8) (h1:(dQ lv)[j]?=some x) (h2:pIs ts x s=true) (h3:∀k y,k<j->(dQ lv)[k]?=some y->pIs ts y s=false)=>(show fQ ts lv s=x by unfold fQ;rw[vE h1 h2 h3];rfl)
 have hZ:=λ(h3:∀k y,k<(dQ lv).length->(dQ lv)[k]?=some y->pIs ts y s=false)=>(show fQ ts lv s=[] by
  unfold fQ;rw[List.find?_eq_none.2 (λy hy=>by
    obtain⟨k,hk,hky⟩:=List.getElem_of_mem hy;rw[h3 k y hk (by rw[gE hk,hky])];simp)];rfl)
 have HN:=hD hN;have HZ:=hD hZ;clear h hk hN hZ hlv;generalize hr:fQ ts lv s=R at *;clear hr;generalize aLr lv=sv at *;generalize hL:dQ lv=L at *;clear hL;go_enter func206,ntmps206;go_wp2_with (go_at_call 225;go_must (refine (HS _).mono ?_;rintro e w1 ⟨⟨g2,rfl,hb⟩,hf⟩;have F1:=hD hf;have H1:=hD (H.o.no hf);have B1:=hD hb;clear hf hb))
 go_loopw [6] (λi w'=>∃j:Nat,j<=L.length∧i = .int .i64 j∧Hd (∀k y,k<j->L[k]?=some y->pIs ts y s=false)∧Hd (Fr nob w1 w')) (λi _=>L.length - (intOf i).toNat)
 case atStart=>exact⟨0,aA4 _,rfl,hD (λk y hk=>absurd hk (Nat.not_lt_zero _)),hD (Fr.refl _ _)⟩
 case round=>
  obtain⟨j,hj,rfl,HJ,F2⟩:=hrel;by_cases hjl:j<L.length
  . have hjl2:(j:Int)<(L.length:Int):=by omega
    obtain⟨x,hx,hxv⟩:=SV.o j hjl;have B2:=hD (B1.o.fr F2 (λx=>x));have c0:=(B2.o.cell j).trans hxv;have HX:=hD hx;have HI:=hD (aJg (H1.o.no F2) HK (bs x));rw[show (bs x).data.toList=x from rfl] at HI;have hj6:(j:Int)<=4:=by omega
    clear hx hxv;cases hb:pIs ts x s with
    | true=>
     have e1:=hD (HN j x HX hb HJ);rw[hb] at HI;clear hb;generalize hXX:bs x=X at *;have XE:=hD hXX;clear hXX;go_wp2_with (go_at_call 91;go_must (refine HI.o.mono ?_;rintro e w3 ⟨rfl,hf3⟩;have F3:=hD hf3;have c1:=(F3.o.cell (p:=(g2,j)) B2.o.lt (λx=>x)).trans c0;clear hf3))
     go_ret;exact⟨by rw[e1.o,XE.o];first|done|rfl,(F1.o.tr F2).tr F3⟩
    | false=>
     have hn2:=hD (show ∀k y,k<j+1->L[k]?=some y->pIs ts y s=false from λk y hk hy=>by
      by_cases e:k=j
      . subst e
        rw[HX.o] at hy;injection hy with hy;subst hy;exact hb
      . exact HJ k y (by omega) hy)
     rw[hb] at HI;clear hb;generalize bs x=X at *;go_wp2_with (go_at_call 91;go_must (refine HI.o.mono ?_;rintro e w3 ⟨rfl,hf3⟩;have F3:=hD hf3;clear hf3))
     go_roundw
     case rel=>exact⟨j+1,by omega,by go_num,hn2,hD (F2.o.tr F3)⟩
     case measure=>simp[intOf];omega
  . have hjl2:(L.length:Int)<=(j:Int):=by omega
    have e1:=hD (HZ (λk y hk hy=>HJ.o k y (by omega) hy));go_wp2
    go_ret;exact⟨by rw[e1.o];first|done|rfl,F1.o.tr F2⟩
section
variable {src:List UInt8}{ts:List Tok}{s:PS}
theorem aIm (s:PS):bI ts (aX ts s)=bI ts s:=by
 unfold aX aR bI;simp only;split
 . split<;>rfl
 . rfl
theorem dA.goDown (h:dA ts s) (ht:dF ts) (hx:pIs ts x s=true):dA ts (pGo (aX ts s)):=
 (h.down ht (aM hx).1).go ht (by rw[aIm];exact (aM hx).2.1)
theorem dA.aCl (h:dA ts s) (ht:dF ts) (hx:pIs ts x s=true):dA ts (aX ts s):=h.down ht (aM hx).1
theorem dA.yL (h:dA ts s) (ht:dF ts) (hx:pIs ts x s=true):dA ts (pGo s):=h.go ht (aM hx).2.1
theorem dA.vC {lv:Nat} (h:dA ts s) (ht:dF ts) (hx:fQ ts lv s≠[]):dA ts (pGo s):=by
 unfold fQ at hx;cases hf:(dQ lv).find? λx=>pIs ts x s with
 | none=>rw[hf] at hx;simp at hx
 | some x=>
  have hp:=List.find?_some hf;exact h.yL (x:=x) ht hp
theorem dA.jG (h:dA ts s) (ht:dF ts) (hw:bQ ts s=x) (hx:x≠[]):dA ts (pGo s):=h.go ht (by rw[(oW hx hw).2];decide)
theorem dA.lQ (h:dA ts s) (ht:dF ts) (hk:(bI ts s).kind=k) (h0:k≠0):dA ts (pGo s):=h.go ht (by rw[hk];exact h0)
theorem iQ (ht:dF ts):∀(n:Nat) (k:Task) (s:PS) (r:List Nat×PS),run src ts n k s=some r->dA ts s->dA ts r.2:=by
 intro n;induction n with
 | zero=>intro k s r h;simp[run] at h
 | succ n ih=>
  intro k s r h hs;cases k<;>simp only[run] at h<;>
   (repeat' split at h)<;>
   (try simp only[mS,bS,aA0] at h)<;>
   (try (obtain⟨q1,h1,h⟩:=h))<;>
   (repeat' split at h)<;>
   (try simp only[mS,bS,aA0] at h)<;>
   (try (obtain⟨q2,h2,h⟩:=h))<;>
   (repeat' split at h)<;>
   (try simp only[mS,bS,aA0] at h)<;>
   (try (obtain⟨q3,h3,h⟩:=h))<;>
   (try subst h)<;>
   (try subst h1)<;>
   (repeat (first
     | assumption
     | apply dA.put
     | apply dA.up
     | (refine dA.must ?_ ht _)
     | (refine dA.named ?_ ht)
     | (refine dA.typed ?_ ht)
     | (refine dA.fail ?_ ht 20 (by decide) (by decide))
     | (refine dA.goDown ?_ ht (by assumption))
     | (refine dA.aCl ?_ ht (by assumption))
     | (refine dA.yL ?_ ht (by assumption))
     | (refine dA.vC ?_ ht (by assumption))
     | (refine dA.jG ?_ ht (by assumption) (by simp))
     | (refine dA.lQ ?_ ht (by assumption) (by decide))
     | (refine ih _ _ _ (by assumption) ?_)
     | dsimp only))
end
def pot (s:PS):Int:=(s.nodes.length:Int) - 20*(s.i:Int)
section
variable {src:List UInt8}{ts:List Tok}{s:PS}
theorem rU (s:PS):pot (pGo s)=pot s - 20:=by unfold pot pGo;simp only;omega
theorem mD (k:Nat) (s:PS):pot (aR ts k s)=pot s:=by unfold aR;split<;>rfl
theorem qM (x:List UInt8) (s:PS):pot (aA ts x s)<=pot s:=by
 unfold aA;split
 . rw[rU];omega
 . rw[mD];omega
theorem rR (s:PS):pot (aI ts s)<=pot s:=by
 unfold aI;split
 . rw[rU];omega
 . rw[mD];omega
theorem aMf (s:PS):pot (aX ts s)=pot s:=by
 unfold aX;simp only;split
 . exact mD 21 s
 . rfl
theorem aPi (k line n:Nat) (name:List UInt8) (l:List Nat) (s:PS):pot (bR k line n name l s).2=pot s+1:=by unfold pot bR;simp;omega
def kN:Task->Int
 | .call=>1 | .right=>1 | .block=>3 | .named _=>2 | .stmt=>2 | .stmts _=>2|_=>0
def kS:Task->Prop
 | .named _=>True | .stmt=>True|_=>False
theorem jR (h:pot s<=b):pot (pGo s)<=b - 20:=by rw[rU];omega
theorem bU (x:List UInt8) (h:pot s<=b):pot (aA ts x s)<=b:=Int.le_trans (qM x s) h
theorem mE (h:pot s<=b):pot (aI ts s)<=b:=Int.le_trans (rR s) h
theorem xZ (h:pot s<=b):pot (aX ts s)<=b:=by rw[aMf];exact h
theorem aIh (h:pot s<=b):pot (pUp s)<=b:=h
theorem aIi (k:Nat) (h:pot s<=b):pot (aR ts k s)<=b:=by rw[mD];exact h
theorem fA (k line n:Nat) (name:List UInt8) (l:List Nat) (h:pot s<=b):pot (bR k line n name l s).2<=b+1:=by rw[aPi];omega
theorem aQa (h:(aI ts s).e=0):bM ts 3 s=true:=by
 unfold aI at h;by_cases hk:bM ts 3 s=true
 . exact hk
 . rw[if_neg hk] at h
   unfold aR at h;split at h
   . simp at h
   . rename_i h0;exact absurd h h0
theorem nI (hk:(aI ts s).e=0) (h:pot s<=b):pot (aI ts s)<=b - 20:=by
 have:=aQa hk;unfold aI;rw[if_pos this];exact jR h
theorem Ext.e0 {t:PS} (h:Ext s t) (h0:t.e=0):s.e=0:=by
 by_cases e:s.e=0
 . exact e
 . exact absurd ((h.err e).1.symm.trans h0) e
theorem aPa:∀(n:Nat) (k:Task) (s:PS) (r:List Nat×PS),run src ts n k s=some r->pot r.2<=pot s+kN k∧(kS k->r.2.e=0->pot r.2<=pot s - 10)∧(k = .call->(aI ts s).e=0->pot r.2<=pot s - 19):=by
 intro n;induction n with
 | zero=>intro k s r h;simp[run] at h
 | succ n ih=>
  have ih1:∀(k:Task) (s:PS) (r:List Nat×PS) (b:Int),run src ts n k s=some r->pot s<=b->pot r.2<=b+kN k:=λk s r b h hb=>Int.le_trans (ih k s r h).1 (by omega)
  intro k s r h;have h0:=h;cases k
  case stmts l=>
   refine⟨?_,λhk=>hk.elim,λhk=>by cases hk⟩;simp only[run] at h;split at h
   . simp only[aA0] at h;subst h;(simp only[kN];omega)
   . split at h
     . simp only[aA0] at h;subst h;(simp only[kN];omega)
     . simp only[bS] at h
       obtain⟨q1,h1,h⟩:=h;obtain⟨a1,a2,_⟩:=ih _ _ _ h1;by_cases he:q1.2.e=0
       . have b1:=a2 trivial he
         have:=(ih _ _ _ h).1;simp only[kN] at this ⊢;omega
       . cases n with
         | zero=>simp[run] at h
         | succ n=>
           simp only[run] at h;rw[if_pos he] at h;simp only[aA0] at h;subst h;exact a1
  case named line=>
   simp only[run] at h;split at h
   . rename_i hc
     simp only[mS] at h;obtain⟨q1,h1,h⟩:=h;subst h;have hk:=aAl hc;have hn0:(aI ts s).e=0:=by unfold aI;rw[if_pos hk];exact (aW hk).1
     have hc2:pot q1.2<=pot s - 19:=(ih _ _ _ h1).2.2 rfl hn0;have:=fA 13 line 0 [] q1.1 (bU (ts:=ts) [59] hc2);simp only[kN,kS];refine⟨by omega,λ_ _=>by omega,λhk=>by cases hk⟩
   . split at h
     . rename_i hx
       simp only[mS,bS] at h;obtain⟨q1,h1,q2,h2,h⟩:=h;subst h;have hn0:=(aM hx).1;have hb:=fA 12 line 0 (dZ ts s) (q1.1++q2.1) (bU (ts:=ts) [59] (ih1 _ _ _ _ h2 (bU _ (aIh (bU _ (ih1 _ _ _ _ h1 (bU _ (xZ (nI hn0 (Int.le_refl _))))))))));simp only[kN,kS] at hb ⊢;refine⟨by omega,λ_ _=>by omega,λhk=>by cases hk⟩
     . simp only[mS] at h
       obtain⟨q1,h1,h⟩:=h;subst h;have hb:=fA 11 line 0 (dZ ts s) q1.1 (bU (ts:=ts) [59] (ih1 _ _ _ _ h1 (bU _ (mE (Int.le_refl _)))));simp only[kN,kS] at hb ⊢;refine⟨by omega,λ_ he=>?_,λhk=>by cases hk⟩;have hn0:(aI ts s).e=0:=by
         refine Ext.e0 (t:=(bR 11 line 0 (dZ ts s) q1.1 (aA ts [59] q1.2)).2) ?_ he;exact ((((Ext.refl _).must (ts:=ts) [61]).trans (aK _ _ _ _ h1)).must (ts:=ts) [59]).put _ _ _ _ _
       have hb:=fA 11 line 0 (dZ ts s) q1.1 (bU (ts:=ts) [59] (ih1 _ _ _ _ h1 (bU _ (nI hn0 (Int.le_refl _)))));simp only[kN] at hb ⊢;omega
  case stmt=>
   simp only[run] at h;have fin:∀{b:Int},pot r.2<=b->b<=pot s - 10->pot r.2<=pot s+2∧(True->r.2.e=0->pot r.2<=pot s - 10)∧(Task.stmt = .call->(aI ts s).e=0->pot r.2<=pot s - 19):=λh1 h2=>⟨by omega,λ_ _=>by omega,λhk=>by cases hk⟩
   simp only[kN,kS];by_cases hw:bQ ts s=[108,101,116]
   . rw[if_pos hw] at h
     simp only[mS] at h;obtain⟨q1,h1,h⟩:=h;subst h;refine fin (fA _ _ _ _ _ (bU _ (ih1 _ _ _ _ h1 (bU _ (mE (jR (Int.le_refl _))))))) (by simp only[kN];omega)
   . rw[if_neg hw] at h;clear hw
     by_cases hw:bQ ts s=[112,114,105,110,116]
     . rw[if_pos hw] at h
       simp only[mS] at h;obtain⟨q1,h1,h⟩:=h;subst h;refine fin (fA _ _ _ _ _ (bU _ (ih1 _ _ _ _ h1 (jR (Int.le_refl _))))) (by simp only[kN];omega)
     . rw[if_neg hw] at h;clear hw
       by_cases hw:bQ ts s=[119,104,105,108,101]
       . rw[if_pos hw] at h
         simp only[mS,bS] at h;obtain⟨q1,h1,q2,h2,h⟩:=h;subst h;refine fin (fA _ _ _ _ _ (ih1 _ _ _ _ h2 (ih1 _ _ _ _ h1 (jR (Int.le_refl _))))) (by simp only[kN];omega)
       . rw[if_neg hw] at h;clear hw
         by_cases hw:bQ ts s=[105,102]
         . rw[if_pos hw] at h
           simp only[bS] at h;obtain⟨q1,h1,q2,h2,h⟩:=h;split at h
           . simp only[mS] at h
             obtain⟨q3,h3,h⟩:=h;subst h;refine fin (fA _ _ _ _ _ (ih1 _ _ _ _ h3 (jR (ih1 _ _ _ _ h2 (ih1 _ _ _ _ h1 (jR (Int.le_refl _))))))) (by simp only[kN];omega)
           . simp only[aA0] at h
             subst h;refine fin (fA _ _ _ _ _ (ih1 _ _ _ _ h2 (ih1 _ _ _ _ h1 (jR (Int.le_refl _))))) (by simp only[kN];omega)
         . rw[if_neg hw] at h;clear hw
           by_cases hw:bQ ts s=[114,101,116,117,114,110]
           . rw[if_pos hw] at h
             split at h
             . simp only[aA0] at h
               subst h;refine fin (fA _ _ _ _ _ (bU _ (jR (Int.le_refl _)))) (by omega)
             . simp only[mS] at h
               obtain⟨q1,h1,h⟩:=h;subst h;refine fin (fA _ _ _ _ _ (bU _ (ih1 _ _ _ _ h1 (jR (Int.le_refl _))))) (by simp only[kN];omega)
           . rw[if_neg hw] at h;clear hw
             obtain⟨a1,a2,_⟩:=ih _ _ _ h;exact⟨a1,λ_=>a2 trivial,λhk=>by cases hk⟩
  case call=>
   simp only[run] at h;simp only[kN,kS];have key:∀{b:Int},pot (aA ts [40] (aI ts s))<=b->pot r.2<=b+1:=λ{b} hb=>by
     split at h<;>simp only[mS,aA0] at h<;>obtain⟨q1,h1,h⟩:=h<;>subst h
     . have:=fA 21 (bJ src ts s) 0 (dZ ts s) q1.1 (bU (ts:=ts) [41] (ih1 _ _ _ _ h1 hb))
       simp only[kN] at this;omega
     . subst h1
       exact fA 21 (bJ src ts s) 0 (dZ ts s) [] (bU (ts:=ts) [41] hb)
   refine⟨key (bU _ (mE (Int.le_refl _))),λhk=>hk.elim,λ_ hn0=>?_⟩;have:=key (bU _ (nI hn0 (Int.le_refl _)));omega
  all_goals
   refine⟨?_,λhk=>hk.elim,λhk=>by cases hk⟩;simp only[run] at h
   (repeat' split at h)<;>
   (try simp only[mS,bS,aA0] at h)<;>
   (try (obtain⟨q1,h1,h⟩:=h))<;>
   (repeat' split at h)<;>
   (try simp only[mS,bS,aA0] at h)<;>
   (try (obtain⟨q2,h2,h⟩:=h))<;>
   (repeat' split at h)<;>
   (try simp only[mS,bS,aA0] at h)<;>
   (try subst h)<;>
   (try subst h1)<;>
   (apply Int.le_trans
    focus (repeat (with_reducible (first
     | apply fA
     | apply aIh
     | apply bU
     | apply mE
     | apply aIi
     | apply jR
     | apply xZ
     | apply ih1 _ _ _ _ (by assumption)
     | dsimp only
     | exact Int.le_refl _)))
    (first|(simp only[kN];omega)|omega|(simp only[kN] at *;omega)))
end
structure St (src:ByteArray) (tb tc:Nat) (ts:List Tok) (g:Nat) (R:Nat->Prop) (w0 w:World) (s:PS):Prop where
 rdr:∃lvs,Rdr src tb tc ts g lvs w s∧∀v∈lvs,∀k,blk v=some k->¬R k
 res:∀k,R k->k<w.heap.size
 ok:dA ts s
 toks:dF ts
 long:src.size<=281474976710656
 fr:FrR g w0 w
def RV (R:Nat->Prop) (v:Value):Nat->Prop:=λk=>R k∨blk v=some k
section
variable {src:ByteArray}{tb tc:Nat}{ts:List Tok}{g:Nat}{R:Nat->Prop}{w0 w w1 w':World}{s:PS}
theorem St.no (h:St src tb tc ts g R w0 w s) (f:Fr nob w w'):St src tb tc ts g R w0 w' s:=by
 obtain⟨lvs,hr,hn⟩:=h.rdr;exact⟨⟨lvs,hr.no f,hn⟩,λk hk=>Nat.lt_of_lt_of_le (h.res k hk) f.size,h.ok,h.toks,h.long,h.fr.trans (FrR.no f)⟩
theorem St.here (h:St src tb tc ts g R w0 w s):St src tb tc ts g R w w s:=⟨h.rdr,h.res,h.ok,h.toks,h.long,Fr.refl _ _⟩
theorem St.back (h:St src tb tc ts g R w0 w s) (h':St src tb tc ts g R w w' s'):St src tb tc ts g R w0 w' s':=⟨h'.rdr,h'.res,h'.ok,h'.toks,h'.long,h.fr.trans h'.fr⟩
theorem St.set (h:St src tb tc ts g R w0 w s) (j:Nat) (u:Value) (hr:∀lvs,Rdr src tb tc ts g lvs w s->Rdr src tb tc ts g lvs (w.setCell (g,j) u) s') (hk:dA ts s'):St src tb tc ts g R w0 (w.setCell (g,j) u) s':=by
 obtain⟨lvs,hr0,hn⟩:=h.rdr;exact⟨⟨lvs,hr lvs hr0,hn⟩,λk hk=>by simpa using h.res k hk,hk,h.toks,h.long,h.fr.trans (((Fr.refl (bY g) w).setCell (g,j) _ (λ_=>rfl)).mono (λk _ e=> .inl e))⟩
theorem St.go (h:St src tb tc ts g R w0 w s) (hk:dA ts (pGo s)):St src tb tc ts g R w0 (w.setCell (g,U2) ((s.i:Int)+1:Int)) (pGo s):=
 h.set 2 _ (λlvs hr=>hr.aQk (s.i+1)) hk
theorem St.up (h:St src tb tc ts g R w0 w s) (hd:1<=s.deep):St src tb tc ts g R w0 (w.setCell (g,U4) ((s.deep:Int) - 1:Int)) (pUp s):=by
 refine h.set 4 _ (λlvs hr=>?_) h.ok.up;have:=hr.aOb (s.deep - 1);rw[show (((s.deep - 1:Nat)):Int)=(s.deep:Int) - 1 by omega] at this;exact this
theorem St.cells (h:St src tb tc ts g R w0 w s):g<w.heap.size∧w.cell? (g,1)=(tb,ts.length,tc)∧w.cell? (g,2)=s.i∧w.cell? (g,4)=s.deep∧w.cell? (g,5)=s.e∧w.frozen? (g,U2)=false∧w.frozen? (g,U4)=false:=by
 obtain⟨lvs,hr,hnr⟩:=h.rdr;obtain⟨nv,hb⟩:=hr.blk;have c1:=hb.cell 1;have c2:=hb.cell 2;have c4:=hb.cell 4;have c5:=hb.cell 5;simp at c1 c2 c4 c5
 exact⟨hb.lt,c1,c2,c4,c5,hb.frozen 2,hb.frozen 4⟩
theorem St.tok (h:St src tb tc ts g R w0 w s):(s.i:Int)<(ts.length:Int)∧w.cell? (tb,s.i*3)=(bI ts s).kind∧w.cell? (tb,s.i*3+1)=(bs (bI ts s).text)∧w.cell? (tb,s.i*3+2)=(bI ts s).place:=by
 obtain⟨lvs,hr,hnr⟩:=h.rdr;obtain⟨_,_,x⟩:=hr.tok h.ok;exact⟨by have:=h.ok.room;omega,x⟩
theorem St.i_le (h:St src tb tc ts g R w0 w s):(s.i:Int)<=1000:=h.toks.i_le h.ok
theorem St.line (h:St src tb tc ts g R w0 w s) (hn:bJ src.data.toList ts s=n):
  Calls prog 88 #[(g,())] w λe w'=>e = .returned n∧St src tb tc ts g R w0 w' s:=by
 obtain⟨lvs,hr,hnr⟩:=h.rdr;subst hn;exact (aIj hr h.ok h.long).mono λe w' ⟨he,hf⟩=>⟨he,h.no hf⟩
theorem St.is (h:St src tb tc ts g R w0 w s) (X:ByteArray){b:Bool} (hb:pIs ts X.data.toList s=b):
  Calls prog 91 #[(g,()),X] w λe w'=>e = .returned b∧St src tb tc ts g R w0 w' s:=by
 obtain⟨lvs,hr,hnr⟩:=h.rdr;subst hb;exact (aJg hr h.ok X).mono λe w' ⟨he,hf⟩=>⟨he,h.no hf⟩
theorem St.kind (h:St src tb tc ts g R w0 w s) (k:Nat){b:Bool} (hb:bM ts k s=b):
  Calls prog 56 #[(g,()),k] w λe w'=>e = .returned b∧St src tb tc ts g R w0 w' s:=by
 obtain⟨lvs,hr,hnr⟩:=h.rdr;subst hb;exact (qR hr h.ok k).mono λe w' ⟨he,hf⟩=>⟨he,h.no hf⟩
theorem St.calls (h:St src tb tc ts g R w0 w s){b:Bool} (hb:gG ts s=b):
  Calls prog 190 #[(g,())] w λe w'=>e = .returned b∧St src tb tc ts g R w0 w' s:=by
 obtain⟨lvs,hr,hnr⟩:=h.rdr;subst hb;exact (aKf hr h.ok h.toks).mono λe w' ⟨he,hf⟩=>⟨he,h.no hf⟩
theorem St.word (h:St src tb tc ts g R w0 w s){x:ByteArray} (hx:bs (bQ ts s)=x):
  Calls prog 135 #[(g,())] w λe w'=>e = .returned x∧St src tb tc ts g R w0 w' s:=by
 obtain⟨lvs,hr,hnr⟩:=h.rdr;subst hx;exact (uM hr h.ok).mono λe w' ⟨he,hf⟩=>⟨he,h.no hf⟩
theorem St.next (h:St src tb tc ts g R w0 w s) (lv:Nat) (hlv:lv<=4){x:ByteArray} (hx:bs (fQ ts lv s)=x):
  Calls prog 206 #[(g,()),lv] w λe w'=>e = .returned x∧St src tb tc ts g R w0 w' s:=by
 obtain⟨lvs,hr,hnr⟩:=h.rdr;subst hx;exact (aMl hr h.ok lv hlv).mono λe w' ⟨he,hf⟩=>⟨he,h.no hf⟩
theorem St.fails (h:St src tb tc ts g R w0 w s) (k:Nat) (hk:k<=21) (hk0:1<=k):
  Calls prog 134 #[(g,()),k] w λe w'=>e = .returned (.tuple #[])∧St src tb tc ts g R w0 w' (aR ts k s):=by
 obtain⟨lvs,hr,hnr⟩:=h.rdr;exact (lT hr h.ok k).mono λe w' ⟨he,hr2,hf⟩=>⟨he,⟨lvs,hr2,hnr⟩,λk hk=>Nat.lt_of_lt_of_le (h.res k hk) hf.size,h.ok.fail h.toks k hk hk0,h.toks,h.long,h.fr.trans hf⟩
theorem St.must (h:St src tb tc ts g R w0 w s) (X:ByteArray):
  Calls prog 89 #[(g,()),X] w λe w'=>e = .returned (.tuple #[])∧St src tb tc ts g R w0 w' (aA ts X.data.toList s):=by
 obtain⟨lvs,hr,hnr⟩:=h.rdr;exact (aMm hr h.ok h.toks X).mono λe w' ⟨he,hr2,hf⟩=>⟨he,⟨lvs,hr2,hnr⟩,λk hk=>Nat.lt_of_lt_of_le (h.res k hk) hf.size,h.ok.must h.toks _,h.toks,h.long,h.fr.trans hf⟩
theorem St.name (h:St src tb tc ts g R w0 w s){x:ByteArray} (hx:bs (dZ ts s)=x):
  Calls prog 90 #[(g,())] w λe w'=>e = .returned x∧St src tb tc ts g R w0 w' (aI ts s):=by
 obtain⟨lvs,hr,hnr⟩:=h.rdr;subst hx;exact (wH hr h.ok h.toks).mono λe w' ⟨he,hr2,hf⟩=>⟨he,⟨lvs,hr2,hnr⟩,λk hk=>Nat.lt_of_lt_of_le (h.res k hk) hf.size,h.ok.named h.toks,h.toks,h.long,h.fr.trans hf⟩
theorem St.typed (h:St src tb tc ts g R w0 w s) (hn:fT ts s=n):
  Calls prog 92 #[(g,())] w λe w'=>e = .returned n∧St src tb tc ts g R w0 w' (cO ts s):=by
 obtain⟨lvs,hr,hnr⟩:=h.rdr;subst hn;exact (aGm hr h.ok h.toks).mono λe w' ⟨he,hr2,hf⟩=>⟨he,⟨lvs,hr2,hnr⟩,λk hk=>Nat.lt_of_lt_of_le (h.res k hk) hf.size,h.ok.typed h.toks,h.toks,h.long,h.fr.trans hf⟩
theorem St.down (h:St src tb tc ts g R w0 w s) (h0:s.e=0):
  Calls prog 137 #[(g,())] w λe w'=>e = .returned (.tuple #[])∧St src tb tc ts g R w0 w' (aX ts s):=by
 obtain⟨lvs,hr,hnr⟩:=h.rdr;exact (aNg hr h.ok).mono λe w' ⟨he,hr2,hf⟩=>⟨he,⟨lvs,hr2,hnr⟩,λk hk=>Nat.lt_of_lt_of_le (h.res k hk) hf.size,h.ok.down h.toks h0,h.toks,h.long,h.fr.trans hf⟩
theorem St.put (h:St src tb tc ts g R w0 w s) (k line n:Nat) (hkv:((k:Nat):Int)=kv) (hnv:((n:Nat):Int)=nv){name:List UInt8} (hX:bs name=X){lv:Value}{l:List Nat} (hl:Own w 3 1 lv l.length (ints l)) (hlr:∀k,blk lv=some k->¬R k) (hn:s.nodes.length<=1000000):
   Calls prog 139 #[(g,()),kv,line,nv,X,lv] w λe w'=>e = .returned s.nodes.length∧St src tb tc ts g R w0 w' (bR k line n name l s).2:=by
 obtain⟨lvs,hr,hnr⟩:=h.rdr;subst hX;subst hkv;subst hnv;refine (aPh hr k line n name lv l hl hn).mono λe w' ⟨he,hr2,hf⟩=>⟨he,⟨_,hr2,λv hv=>?_⟩,λk hk=>Nat.lt_of_lt_of_le (h.res k hk) hf.size,h.ok.put ..,h.toks,h.long,h.fr.trans hf⟩
 rcases List.mem_append.1 hv with hv|hv
 . exact hnr v hv
 . rw[List.mem_singleton.1 hv];exact hlr
theorem St.alloc (h:St src tb tc ts g R w0 w s) (o:Obj):St src tb tc ts g R w0 (w.alloc o) s:=h.no ((fR w).alloc o)
theorem St.wD (h:St src tb tc ts g R w0 w s) (k line n:Nat) (hkv:((k:Nat):Int)=kv) (hnv:((n:Nat):Int)=nv){name:List UInt8} (hX:bs name=X) (hn:s.nodes.length<=1000000):
  Calls prog 139 #[(g,()),kv,line,nv,X,Un] w λe w'=>e = .returned s.nodes.length∧St src tb tc ts g R w0 w' (bR k line n name [] s).2:=
 h.put k line n hkv hnv hX (l:=[]) (Own.nil _ _ _) (λk hk=>by simp[blk] at hk) hn
theorem nK {c:Nat} (h:blk (B,n,c)=some k):k=B:=by
 simp[blk] at h;omega
theorem St.xA (h:St src tb tc ts g R w0 w s) (x:Nat) (hB:w.heap.size=B) (k line n:Nat) (hkv:((k:Nat):Int)=kv) (hnv:((n:Nat):Int)=nv){name:List UInt8} (hX:bs name=X) (hn:s.nodes.length<=1000000):
  Calls prog 139 #[(g,()),kv,line,nv,X,(B,1,1)] (w.alloc (.cells #[(x:Int)] 3)) λe w'=>e = .returned s.nodes.length∧St src tb tc ts g R w0 w' (bR k line n name [x] s).2:=by
 subst hB;refine (h.alloc _).put k line n hkv hnv hX (l:=[x]) ⟨rfl,_,1,rfl,.inr ⟨w.heap.size,_,rfl,by decide,Blk.new w _ _,aA1 _,by decide,rfl,rfl⟩⟩ (λk hk hR=>?_) hn;have:=h.res k hR;have:=nK hk;omega
theorem St.aOe (h:St src tb tc ts g R w0 w s) (x y:Nat) (hB:w.heap.size=B) (k line n:Nat) (hkv:((k:Nat):Int)=kv) (hnv:((n:Nat):Int)=nv){name:List UInt8} (hX:bs name=X) (hn:s.nodes.length<=1000000):
  Calls prog 139 #[(g,()),kv,line,nv,X,(B,2,2)] (w.alloc (.cells #[(x:Int),(y:Int)] 3)) λe w'=>e = .returned s.nodes.length∧St src tb tc ts g R w0 w' (bR k line n name [x,y] s).2:=by
 subst hB;refine (h.alloc _).put k line n hkv hnv hX (l:=[x,y]) ⟨rfl,_,2,rfl,.inr ⟨w.heap.size,_,rfl,by decide,Blk.new w _ _,aA1 _,by decide,rfl,rfl⟩⟩ (λk hk hR=>?_) hn;have:=h.res k hR;have:=nK hk;omega
theorem gW:wY prog 27 3 1 8 U0:=wY.mk' (by kernel_rfl) (by kernel_rfl) rfl (by decide)
structure StR (src:ByteArray) (tb tc:Nat) (ts:List Tok) (g:Nat) (R:Nat->Prop) (w0 w:World) (s:PS) (v:Value) (l:List Nat):Prop where
 st:St src tb tc ts g (RV R v) w0 w s
 own:Own w 3 1 v l.length (ints l)
 nr:∀k,blk v=some k->¬R k
 nw:∀k,blk v=some k->w0.heap.size<=k
variable {v:Value}{l:List Nat}
theorem StR.here (h:StR src tb tc ts g R w0 w s v l):St src tb tc ts g (RV R v) w w s:=h.st.here
theorem StR.step (h:StR src tb tc ts g R w0 w s v l){f:FuncId}{args:Array Value}{E:Ending->Prop} (c:Calls prog f args w λe w'=>E e∧St src tb tc ts g (RV R v) w w' s'):
  Calls prog f args w λe w'=>E e∧StR src tb tc ts g R w0 w' s' v l:=by
 refine c.mono λe w' ⟨he,h'⟩=>⟨he,h.st.back h',?_,h.nr,h.nw⟩
 obtain⟨lvs,hr,_⟩:=h.st.rdr;obtain⟨nv,hb⟩:=hr.blk;exact h.own.frR hb (by decide) (by decide) h'.fr
theorem StR.to (h:StR src tb tc ts g R w0 w s v l) (h':St src tb tc ts g (RV R v) w w' s'):StR src tb tc ts g R w0 w' s' v l:=by
 refine⟨h.st.back h',?_,h.nr,h.nw⟩;obtain⟨lvs,hr,_⟩:=h.st.rdr;obtain⟨nv,hb⟩:=hr.blk;exact h.own.frR hb (by decide) (by decide) h'.fr
theorem StR.go (h:StR src tb tc ts g R w0 w s v l) (hk:dA ts (pGo s)):StR src tb tc ts g R w0 (w.setCell (g,U2) ((s.i:Int)+1:Int)) (pGo s) v l:=h.to (h.here.go hk)
theorem StR.up (h:StR src tb tc ts g R w0 w s v l) (hd:1<=s.deep):StR src tb tc ts g R w0 (w.setCell (g,U4) ((s.deep:Int) - 1:Int)) (pUp s) v l:=h.to (h.here.up hd)
theorem St.row0 (h:St src tb tc ts g R w0 w s) (o:Obj) (A:Option Addr):StR src tb tc ts g R w0 (w.alloc o) s (.slice A 0 0) []:=by
 have hb:∀k,blk (.slice A 0 0)≠some k:=λk hk=>by cases A<;>simp[blk] at hk
 obtain⟨lvs,hr,hnr⟩:=(h.alloc o).rdr;refine⟨⟨⟨lvs,hr,λv hv k hk hR=>?_⟩,λk hk=>?_,h.ok,h.toks,h.long,(h.alloc o).fr⟩,Own.empty _ _ _ _,λk hk=>absurd hk (hb k),λk hk=>absurd hk (hb k)⟩
 . rcases hR with hR|hR
   . exact hnr v hv k hk hR
   . exact hb k hR
 . rcases hk with hR|hR
   . exact (h.alloc o).res k hR
   . exact absurd hR (hb k)
theorem oN:∀{ns:List aF}{vs:List Value},bD w ns vs->∀v∈vs,∀k,blk v=some k->k<w.heap.size
 | [],[],_,_,hv,_,_=>by cases hv
 | [],_ :: _,h,_,_,_,_=>h.elim
 | _ :: _,[],h,_,_,_,_=>h.elim
 | _ :: ns,u :: vs,h,v,hv,k,hk=>by
  rcases List.mem_cons.1 hv with rfl|hv
  . exact h.1.aZ hk
  . exact oN h.2 v hv k hk
theorem St.row (h:St src tb tc ts g R w0 w s){o:Obj}{v:Value}{l:List Nat} (hv:∀k,blk v=some k->k=w.heap.size) (ho:Own (w.alloc o) 3 1 v l.length (ints l)):StR src tb tc ts g R w0 (w.alloc o) s v l:=by
 obtain⟨lvs0,hr0,hnr0⟩:=h.rdr;obtain⟨lvs,hr,hnr⟩:∃lvs,Rdr src tb tc ts g lvs (w.alloc o) s∧∀v∈lvs,∀k,blk v=some k->¬R k∧k<w.heap.size:=
   ⟨lvs0,hr0.no ((fR w).alloc o),λv hv k hk=>⟨hnr0 v hv k hk,oN hr0.below v hv k hk⟩⟩
 refine⟨⟨⟨lvs,hr,λu hu k hk hR=>?_⟩,λk hk=>?_,h.ok,h.toks,h.long,(h.alloc o).fr⟩,ho,λk hk hR=>?_,λk hk=>?_⟩
 . rcases hR with hR|hR
   . exact (hnr u hu k hk).1 hR
   . have:=hv k hR;have:=(hnr u hu k hk).2;omega
 . rcases hk with hR|hR
   . exact (h.alloc o).res k hR
   . exact ho.aZ hR
 . have:=hv k hk;have:=h.res k hR;omega
 . have:=hv k hk;have:=h.fr.size;omega
theorem St.aRx (h:St src tb tc ts g R w0 w s) (x y:Nat) (hB:w.heap.size=B):StR src tb tc ts g R w0 (w.alloc (.cells #[(x:Int),(y:Int)] 3)) s (B,2,2) [x,y]:=by
 subst hB;exact h.row (λk hk=>nK hk) ⟨rfl,_,2,rfl,.inr ⟨w.heap.size,_,rfl,by decide,Blk.new w _ _,aA1 _,by decide,rfl,rfl⟩⟩
theorem kM {e:TypeId}{x:Nat} (h:Own w e 1 v (l.length+1) (ints l++[.int .i64 (x:Nat)])):Own w e 1 v (l++[x]).length (ints (l++[x])):=by
 rw[aA3];unfold ints at h ⊢;rw[List.map_append];exact h
theorem StR.app (h:StR src tb tc ts g R w0 w s v l){o:Obj}{v':Value}{l':List Nat} (ho:Own w' 3 1 v' l'.length (ints l')) (hf:Fr (obl (blk v)) (w.alloc o) w') (hv:blk v'=blk v∨blk v'=some (w.alloc o).heap.size):StR src tb tc ts g R w0 w' s v' l':=by
 have h1:=h.st.alloc o;obtain⟨lvs,hr,hnr⟩:=h1.rdr;have hlt:=oN hr.below;obtain⟨nv,hb,hon⟩:=hr.cells;obtain⟨b0,ht⟩:=hr.toks;have hown:=h.own.alloc o;have hrn:∀u∈lvs,∀k,blk u=some k->¬obl (blk v) k:=λu hu k hk hm=>hnr u hu k hk (.inr hm)
 have hg:¬obl (blk v) g:=λhm=>hown.aD hb (by decide) hm
 have hbel:∀{ns:List aF} {vs:List Value},bD (w.alloc o) ns vs->(∀u∈vs,∀k,blk u=some k->¬obl (blk v) k)->bD w' ns vs:=by
   intro ns;induction ns with
   | nil=>intro vs hb hn;cases vs with
     | nil=>trivial
     | cons _ _=>exact hb.elim
   | cons n ns ih=>intro vs hb hn;cases vs with
     | nil=>exact hb.elim
     | cons u vs=>exact⟨hb.1.fr hf (λk hk=>hn u List.mem_cons_self k hk),ih hb.2 (λu2 hu2=>hn u2 (List.mem_cons_of_mem _ hu2))⟩
 have hs:=hf.size;have hR':∀k,RV R v' k->k<w'.heap.size:=λk hk=>by
   rcases hk with hk|hk
   . have:=h1.res k (.inl hk);omega
   . exact ho.aZ hk
 have hfr:FrR g w0 w':=by
   refine Fr.trans h1.fr hf (λ_ _ x=>x) (λk hk hm=>?_);have:=h.nw k hm;omega
 refine⟨⟨⟨lvs,⟨⟨nv,hb.fr hf hg,hon.fr hf (λk hk hm=>?_)⟩,hbel hr.below hrn,hr.same,⟨b0,ht.own.fr hf (λk hk hm=>?_),ht.new⟩,λnv2 h1=>hr.newer nv2 (by rw[<-hf.cell (p:=(g,U3)) hb.lt hg];exact h1)⟩,λu hu k hk hm=>?_⟩,hR',h.st.ok,h.st.toks,h.st.long,hfr⟩,ho,λk hk=>?_,λk hk=>?_⟩
 . exact hon.fV hown (by decide) hm hk
 . exact ht.own.fV hown (by decide) hm hk
 . rcases hm with hm|hm
   . exact hnr u hu k hk (.inl hm)
   . rcases hv with e|e
     . exact hnr u hu k hk (.inr (by rw[<-e];exact hm))
     . have:=hlt u hu k hk
       rw[e] at hm;injection hm with hm;omega
 . rcases hv with e|e
   . rw[e] at hk;exact h.nr k hk
   . rw[e] at hk;injection hk with hk
     intro hR;have:=h1.res k (.inl hR);omega
 . rcases hv with e|e
   . rw[e] at hk;exact h.nw k hk
   . rw[e] at hk;injection hk with hk
     have:=h1.fr.size;omega
theorem StR.put (h:StR src tb tc ts g R w0 w s v l) (k line n:Nat) (hkv:((k:Nat):Int)=kv) (hnv:((n:Nat):Int)=nv){name:List UInt8} (hX:bs name=X) (hn:s.nodes.length<=1000000):
  Calls prog 139 #[(g,()),kv,line,nv,X,v] w λe w'=>e = .returned s.nodes.length∧St src tb tc ts g R w0 w' (bR k line n name l s).2:=by
 have h1:St src tb tc ts g R w0 w s:=by
  obtain⟨lvs,hr,hnr⟩:=h.st.rdr;exact⟨⟨lvs,hr,λu hu k hk hR=>hnr u hu k hk (.inl hR)⟩,λk hk=>h.st.res k (.inl hk),h.st.ok,h.st.toks,h.st.long,h.st.fr⟩
 exact h1.put k line n hkv hnv hX h.own h.nr hn
end
section
variable {src:List UInt8}{ts:List Tok}{s:PS}
theorem fD (k:Nat) (s:PS):(aR ts k s).deep=s.deep:=by unfold aR;split<;>rfl
theorem bH (x:List UInt8) (s:PS):(aA ts x s).deep=s.deep:=by
 unfold aA;split
 . rfl
 . exact fD 20 s
theorem iD (s:PS):(aI ts s).deep=s.deep:=by
 unfold aI;split
 . rfl
 . exact fD 20 s
theorem dO (s:PS):(aX ts s).deep=s.deep+1:=by
 unfold aX;simp only;split
 . rw[fD]
 . rfl
theorem lV (s:PS):(pGo s).deep=s.deep:=rfl
theorem sZ (s:PS):(pUp s).deep=s.deep - 1:=rfl
theorem oF (k line n:Nat) (name:List UInt8) (l:List Nat) (s:PS):(bR k line n name l s).2.deep=s.deep:=rfl
theorem iG:∀(n:Nat) (k:Task) (s:PS) (r:List Nat×PS),run src ts n k s=some r->r.2.deep=s.deep:=by
 intro n;induction n with
 | zero=>intro k s r h;simp[run] at h
 | succ n ih=>
  intro k s r h;cases k<;>simp only[run] at h<;>
   (repeat' split at h)<;>
   (try simp only[mS,bS,aA0] at h)<;>
   (try (obtain⟨q1,h1,h⟩:=h))<;>
   (repeat' split at h)<;>
   (try simp only[mS,bS,aA0] at h)<;>
   (try (obtain⟨q2,h2,h⟩:=h))<;>
   (repeat' split at h)<;>
   (try simp only[mS,bS,aA0] at h)<;>
   (try (obtain⟨q3,h3,h⟩:=h))<;>
   (try subst h)<;>
   (try subst h1)<;>
   (try replace h1:=ih _ _ _ h1)<;>
   (try replace h2:=ih _ _ _ h2)<;>
   (try replace h3:=ih _ _ _ h3)<;>
   (try replace h:=ih _ _ _ h)<;>
   (try simp only[fD,bH,iD,dO,lV,sZ,oF] at h1)<;>
   (try simp only[fD,bH,iD,dO,lV,sZ,oF] at h2)<;>
   (try simp only[fD,bH,iD,dO,lV,sZ,oF] at h3)<;>
   (try simp only[fD,bH,iD,dO,lV,sZ,oF] at h)<;>
   (try simp only[fD,bH,iD,dO,lV,sZ,oF])<;>
   (try omega)
def aSz:Task->Prop
 | .args _=>False | .stmts _=>False|_=>True
def oneOf (l:List Nat):Nat:=l.headD 0
theorem aJ:∀(n:Nat) (k:Task) (s:PS) (r:List Nat×PS),run src ts n k s=some r->aSz k->r.1=[oneOf r.1]:=by
 intro n;induction n with
 | zero=>intro k s r h;simp[run] at h
 | succ n ih=>
  intro k s r h ho;cases k<;>simp only[aSz] at ho<;>simp only[run] at h<;>
   (repeat' split at h)<;>
   (try simp only[mS,bS,aA0] at h)<;>
   (try (obtain⟨q1,h1,h⟩:=h))<;>
   (repeat' split at h)<;>
   (try simp only[mS,bS,aA0] at h)<;>
   (try (obtain⟨q2,h2,h⟩:=h))<;>
   (repeat' split at h)<;>
   (try simp only[mS,bS,aA0] at h)<;>
   (try (obtain⟨q3,h3,h⟩:=h))<;>
   (try subst h)<;>
   (first|rfl|exact ih _ _ _ h trivial|(have h5:=ih _ _ _ h1 trivial;exact h5))
theorem aV {s t:PS} (h:Ext s t):s.nodes.length<=t.nodes.length:=by
 obtain⟨x,hx⟩:=h.nodes;rw[hx,aA3];omega
end
section
variable (src:ByteArray) (tb tc:Nat) (ts:List Tok) (g:Nat)
def Does (n:Nat) (k:Task) (F:FuncId) (args:Array Value):Prop:=
 ∀(R:Nat->Prop) (w0 w:World) (s:PS) (r:List Nat×PS),St src tb tc ts g R w0 w s->run src.data.toList ts n k s=some r->r.2.nodes.length<=1000000 ->
  Calls prog F args w λe w'=>e = .returned (oneOf r.1)∧St src tb tc ts g R w0 w' r.2
structure Good (n:Nat):Prop where
 atom:Does src tb tc ts g n .atom 224 #[(g,())]
 factor:Does src tb tc ts g n .factor 205 #[(g,())]
 chain:∀(lv:Nat) (z:Int),((lv:Nat):Int)=z->lv<=5->Does src tb tc ts g n (.chain lv) 192 #[(g,()),z]
 expr:Does src tb tc ts g n (.chain 0) 166 #[(g,())]
 call:Does src tb tc ts g n .call 191 #[(g,())]
 right:Does src tb tc ts g n .right 165 #[(g,())]
 block:Does src tb tc ts g n .block 93 #[(g,())]
 named:∀line:Nat,Does src tb tc ts g n (.named line) 167 #[(g,()),line]
 stmt:Does src tb tc ts g n .stmt 138 #[(g,())]
end
section
variable {src:ByteArray}{tb tc:Nat}{ts:List Tok}{g:Nat}{n:Nat}
theorem Does.zero (k:Task) (F:FuncId) (args:Array Value):Does src tb tc ts g 0 k F args:=by
 intro R w0 w s r h hr hn;simp[run] at hr
theorem aJt (h:∀(lv:Nat) (z:Int),((lv:Nat):Int)=z->lv<=5->Does src tb tc ts g n (.chain lv) 192 #[(g,()),z]):Does src tb tc ts g n (.chain 0) 166 #[(g,())]:=by
 intro R w0 w s r h1 hr hn;have HC:=hD (h 0 0 rfl (by decide) R w0 w s r h1 hr hn);clear h h1 hr hn;go_enter func166,ntmps166;go_wp2_with fail
 refine HC.o.mono ?_;rintro e w1 ⟨rfl,h1⟩;have S1:=hD h1;clear h1;go_wp2
 go_ret;exact⟨rfl,S1⟩
theorem aAv (ih:∀m,m<n->Good src tb tc ts g m):Does src tb tc ts g n .factor 205 #[(g,())]:=by
 cases n with
 | zero=>exact Does.zero _ _ _
 | succ n=>
  intro R w0 w s r h hr hn;have IH:=hD (ih n (Nat.lt_succ_self n));have S0:=hD h;simp only[run] at hr;by_cases hm:pIs ts [45] s=true
  . rw[if_pos hm] at hr
    simp only[mS] at hr;obtain⟨q,hq,rfl⟩:=hr;have hd:=iG _ _ _ _ hq;rw[show (pGo (aX ts s)).deep=s.deep+1 from dO s] at hd;have hdl:=h.ok.fine (aM hm).1;have HDB:=hD (show (1:Int)<=(q.2.deep:Int)∧(q.2.deep:Int)<=20 by omega);have HD:=hD (show 1<=q.2.deep by omega);have hq1:=aJ _ _ _ _ hq trivial;have hn2:q.2.nodes.length+1<=1000000:=by simpa[bR,pUp] using hn
    have HN:=hD (show q.2.nodes.length<=1000000 by omega);have HQ:=hD hq;have HM:=hD hm;have HO:=hD (h.ok.goDown h.toks hm);have H0:=hD (aM hm).1;rw[hq1];obtain⟨b,hb⟩:∃b,pIs ts [33] s=b:=⟨_,rfl⟩;have HB:=hD hb;clear hb;clear h ih hn hd hdl hn2 hq hm hq1;go_enter func205,ntmps205;go_wp2_with fail
    refine stepM (S0.o.line rfl) λw1 S1=>?_;go_wp2_with fail
    refine stepM (S1.o.is ⟨#[45]⟩ HM) λw2 S2=>?_;go_wp2_with fail
    refine stepM (S2.o.is ⟨#[33]⟩ (b:=b) HB) λw3 S3=>?_;go_wp2_with fail
    refine stepM (S3.o.down H0) λw4 S4=>?_;obtain⟨hg4,c14,c24,c44,c54,f24,f44⟩:=S4.o.cells;have hi4:=S4.o.i_le;go_wp2_with fail
    have HZ5:=hD (show (w4.setCell (g,U2) (((aX ts (s)).i:Int)+1:Int)).heap.size=w4.heap.size by simp);have S5:=hD (S4.o.go HO);clear hg4 c14 c24 c44 c54 f24 f44 hi4;generalize w4.setCell (g,U2) (((aX ts (s)).i:Int)+1:Int)=w5 at *;refine stepM (IH.o.factor _ _ _ _ _ S5 HQ HN) λw6 S6=>?_;obtain⟨hg6,c16,c26,c46,c56,f26,f46⟩:=S6.o.cells;have hi6:=S6.o.i_le;obtain⟨hl6,hu6⟩:=HDB.o;go_wp2_with fail
    have HZ7:=hD (show (w6.setCell (g,U4) (((q.2).deep:Int) - 1:Int)).heap.size=w6.heap.size by simp);have S7:=hD (S6.o.up HD);clear hg6 c16 c26 c46 c56 f26 f46 hi6 hl6 hu6;generalize w6.setCell (g,U4) (((q.2).deep:Int) - 1:Int)=w7 at *;refine stepM (S7.o.xA (oneOf q.1) HZ7 7 _ 0 rfl rfl (name:=[]) rfl HN) λw8 S8=>?_;go_wp2
    go_ret;exact⟨rfl,S8⟩
  . rw[if_neg hm] at hr
    have hb:pIs ts [45] s=false:=by simpa using hm
    clear hm;by_cases hm:pIs ts [33] s=true
    . rw[if_pos hm] at hr
      simp only[mS] at hr;obtain⟨q,hq,rfl⟩:=hr;have hd:=iG _ _ _ _ hq;rw[show (pGo (aX ts s)).deep=s.deep+1 from dO s] at hd;have hdl:=h.ok.fine (aM hm).1;have HDB:=hD (show (1:Int)<=(q.2.deep:Int)∧(q.2.deep:Int)<=20 by omega);have HD:=hD (show 1<=q.2.deep by omega);have hq1:=aJ _ _ _ _ hq trivial;have hn2:q.2.nodes.length+1<=1000000:=by simpa[bR,pUp] using hn
      have HN:=hD (show q.2.nodes.length<=1000000 by omega);have HQ:=hD hq;have HM:=hD hm;have HO:=hD (h.ok.goDown h.toks hm);have H0:=hD (aM hm).1;rw[hq1];have HB:=hD hb;clear hb;clear h ih hn hd hdl hn2 hq hm hq1;go_enter func205,ntmps205;go_wp2_with fail
      refine stepM (S0.o.line rfl) λw1 S1=>?_;go_wp2_with fail
      refine stepM (S1.o.is ⟨#[45]⟩ HB) λw2 S2=>?_;go_wp2_with fail
      refine stepM (S2.o.is ⟨#[33]⟩ HM) λw3 S3=>?_;go_wp2_with fail
      refine stepM (S3.o.down H0) λw4 S4=>?_;obtain⟨hg4,c14,c24,c44,c54,f24,f44⟩:=S4.o.cells;have hi4:=S4.o.i_le;go_wp2_with fail
      have HZ5:=hD (show (w4.setCell (g,U2) (((aX ts (s)).i:Int)+1:Int)).heap.size=w4.heap.size by simp);have S5:=hD (S4.o.go HO);clear hg4 c14 c24 c44 c54 f24 f44 hi4;generalize w4.setCell (g,U2) (((aX ts (s)).i:Int)+1:Int)=w5 at *;refine stepM (IH.o.factor _ _ _ _ _ S5 HQ HN) λw6 S6=>?_;obtain⟨hg6,c16,c26,c46,c56,f26,f46⟩:=S6.o.cells;have hi6:=S6.o.i_le;obtain⟨hl6,hu6⟩:=HDB.o;go_wp2_with fail
      have HZ7:=hD (show (w6.setCell (g,U4) (((q.2).deep:Int) - 1:Int)).heap.size=w6.heap.size by simp);have S7:=hD (S6.o.up HD);clear hg6 c16 c26 c46 c56 f26 f46 hi6 hl6 hu6;generalize w6.setCell (g,U4) (((q.2).deep:Int) - 1:Int)=w7 at *;refine stepM (S7.o.xA (oneOf q.1) HZ7 8 _ 0 rfl rfl (name:=[]) rfl HN) λw8 S8=>?_;go_wp2
      go_ret;exact⟨rfl,S8⟩
    . rw[if_neg hm] at hr
      have HB:=hD hb;have HB2:=hD (show pIs ts [33] s=false by simpa using hm);have HQ:=hD hr;have HN:=hD hn;clear h ih hn hm hb hr;go_enter func205,ntmps205;go_wp2_with fail
      refine stepM (S0.o.line rfl) λw1 S1=>?_;go_wp2_with fail
      refine stepM (S1.o.is ⟨#[45]⟩ HB) λw2 S2=>?_;go_wp2_with fail
      refine stepM (S2.o.is ⟨#[33]⟩ HB2) λw3 S3=>?_;go_wp2_with fail
      refine stepM (IH.o.atom _ _ _ _ _ S3 HQ HN) λw4 S4=>?_;go_wp2
      go_ret;exact⟨rfl,S4⟩
end
section
variable {src:ByteArray}{tb tc:Nat}{ts:List Tok}{g:Nat}{n:Nat}
theorem aDs (ih:∀m,m<n->Good src tb tc ts g m):Does src tb tc ts g n .right 165 #[(g,())]:=by
 cases n with
 | zero=>exact Does.zero _ _ _
 | succ n=>
  intro R w0 w s r h hr hn;have IH:=hD (ih n (Nat.lt_succ_self n));have S0:=hD h;simp only[run] at hr;by_cases hm:pIs ts [105,110,112,117,116] s=true
  . rw[if_pos hm] at hr
    simp only[aA0] at hr;subst hr;have hn2:s.nodes.length+1<=1000000:=by simpa[bR,pGo] using hn
    have HN:=hD (show s.nodes.length<=1000000 by omega);have HM:=hD hm;have HO:=hD (h.ok.yL h.toks hm);clear h ih hn hn2 hm;go_enter func165,ntmps165;go_wp2_with fail
    refine stepM (S0.o.line rfl) λw1 S1=>?_;go_wp2_with fail
    refine stepM (S1.o.is ⟨#[105,110,112,117,116]⟩ HM) λw2 S2=>?_;obtain⟨hg2,c12,c22,c42,c52,f22,f42⟩:=S2.o.cells;have hi2:=S2.o.i_le;go_wp2_with fail
    have S3:=hD (S2.o.go HO);clear hg2 c12 c22 c42 c52 f22 f42 hi2;generalize w2.setCell (g,U2) (((s).i:Int)+1:Int)=w3 at *;refine stepM (S3.o.wD 19 _ 0 rfl rfl (name:=[]) rfl HN) λw4 S4=>?_;go_wp2
    go_ret;exact⟨rfl,S4⟩
  . rw[if_neg hm] at hr
    have HA:=hD (show pIs ts [105,110,112,117,116] s=false by simpa using hm);clear hm;by_cases hm:pIs ts [110,101,119] s=true
    . rw[if_pos hm] at hr
      simp only[mS] at hr;obtain⟨q,hq,rfl⟩:=hr;have hq1:=aJ _ _ _ _ hq trivial;have hn2:(aA ts [41] q.2).nodes.length+1<=1000000:=by simpa[bR] using hn
      have HN:=hD (show (aA ts [41] q.2).nodes.length<=1000000 by omega);have HN1:=hD (Nat.le_trans (aV ((Ext.refl q.2).must (ts:=ts) [41])) HN);have HM:=hD hm;have HO:=hD (h.ok.yL h.toks hm);have HQ:=hD hq;rw[hq1];clear h ih hn hn2 hm hq hq1;go_enter func165,ntmps165;go_wp2_with fail
      refine stepM (S0.o.line rfl) λw1 S1=>?_;go_wp2_with fail
      refine stepM (S1.o.is ⟨#[105,110,112,117,116]⟩ HA) λw2 S2=>?_;go_wp2_with fail
      refine stepM (S2.o.is ⟨#[110,101,119]⟩ HM) λw3 S3=>?_;obtain⟨hg3,c13,c23,c43,c53,f23,f43⟩:=S3.o.cells;have hi3:=S3.o.i_le;go_wp2_with fail
      have S4:=hD (S3.o.go HO);clear hg3 c13 c23 c43 c53 f23 f43 hi3;generalize w3.setCell (g,U2) (((s).i:Int)+1:Int)=w4 at *;refine stepM (S4.o.must ⟨#[40]⟩) λw5 S5=>?_;go_wp2_with fail
      refine stepM (IH.o.expr _ _ _ _ _ S5 HQ HN1) λw6 S6=>?_;go_wp2_with fail
      refine stepM (S6.o.must ⟨#[41]⟩) λw7 S7=>?_;go_wp2_with fail
      refine stepM (S7.o.xA (oneOf q.1) rfl 20 _ 0 rfl rfl (name:=[]) rfl HN) λw8 S8=>?_;go_wp2
      go_ret;exact⟨rfl,S8⟩
    . rw[if_neg hm] at hr
      have HB:=hD (show pIs ts [110,101,119] s=false by simpa using hm);clear hm;have HN:=hD hn;by_cases hm:gG ts s=true
      . rw[if_pos hm] at hr
        have HM:=hD hm;have HQ:=hD hr;clear h ih hn hm hr;go_enter func165,ntmps165;go_wp2_with fail
        refine stepM (S0.o.line rfl) λw1 S1=>?_;go_wp2_with fail
        refine stepM (S1.o.is ⟨#[105,110,112,117,116]⟩ HA) λw2 S2=>?_;go_wp2_with fail
        refine stepM (S2.o.is ⟨#[110,101,119]⟩ HB) λw3 S3=>?_;go_wp2_with fail
        refine stepM (S3.o.calls HM) λw4 S4=>?_;go_wp2_with fail
        refine stepM (IH.o.call _ _ _ _ _ S4 HQ HN) λw5 S5=>?_;go_wp2
        go_ret;exact⟨rfl,S5⟩
      . rw[if_neg hm] at hr
        have HM:=hD (show gG ts s=false by simpa using hm);have HQ:=hD hr;clear h ih hn hm hr;go_enter func165,ntmps165;go_wp2_with fail
        refine stepM (S0.o.line rfl) λw1 S1=>?_;go_wp2_with fail
        refine stepM (S1.o.is ⟨#[105,110,112,117,116]⟩ HA) λw2 S2=>?_;go_wp2_with fail
        refine stepM (S2.o.is ⟨#[110,101,119]⟩ HB) λw3 S3=>?_;go_wp2_with fail
        refine stepM (S3.o.calls HM) λw4 S4=>?_;go_wp2_with fail
        refine stepM (IH.o.expr _ _ _ _ _ S4 HQ HN) λw5 S5=>?_;go_wp2
        go_ret;exact⟨rfl,S5⟩
end
section
variable {src:ByteArray}{tb tc:Nat}{ts:List Tok}{g:Nat}{n:Nat}
theorem aEt (ih:∀m,m<n->Good src tb tc ts g m) (line:Nat):Does src tb tc ts g n (.named line) 167 #[(g,()),line]:=by
 cases n with
 | zero=>exact Does.zero _ _ _
 | succ n=>
  intro R w0 w s r h hr hn;have IH:=hD (ih n (Nat.lt_succ_self n));have S0:=hD h;simp only[run] at hr;by_cases hm:gG ts s=true
  . rw[if_pos hm] at hr
    simp only[mS] at hr;obtain⟨q,hq,rfl⟩:=hr;have hq1:=aJ _ _ _ _ hq trivial;have hn2:(aA ts [59] q.2).nodes.length+1<=1000000:=by simpa[bR] using hn
    have HN:=hD (show (aA ts [59] q.2).nodes.length<=1000000 by omega);have HN1:=hD (Nat.le_trans (aV ((Ext.refl q.2).must (ts:=ts) [59])) HN);have HM:=hD hm;have HQ:=hD hq;rw[hq1];clear h ih hn hn2 hm hq hq1;go_enter func167,ntmps167;go_wp2_with fail
    refine stepM (S0.o.calls HM) λw1 S1=>?_;go_wp2_with fail
    refine stepM (IH.o.call _ _ _ _ _ S1 HQ HN1) λw2 S2=>?_;go_wp2_with fail
    refine stepM (S2.o.must ⟨#[59]⟩) λw3 S3=>?_;go_wp2_with fail
    refine stepM (S3.o.xA (oneOf q.1) rfl 13 _ 0 rfl rfl (name:=[]) rfl HN) λw4 S4=>?_;go_wp2
    go_ret;exact⟨rfl,S4⟩
  . rw[if_neg hm] at hr
    have HM:=hD (show gG ts s=false by simpa using hm);clear hm;by_cases hm:pIs ts [91] (aI ts s)=true
    . rw[if_pos hm] at hr
      simp only[mS,bS] at hr;obtain⟨q,hq,u,hu,rfl⟩:=hr;have hq1:=aJ _ _ _ _ hq trivial;have hu1:=aJ _ _ _ _ hu trivial;have hd:=iG _ _ _ _ hq;rw[bH,dO,iD] at hd;have hdl:=(h.ok.named h.toks).fine (aM hm).1;rw[iD] at hdl;have HDB:=hD (show (1:Int)<=((aA ts [93] q.2).deep:Int)∧((aA ts [93] q.2).deep:Int)<=20 by rw[bH];omega);have HD:=hD (show 1<=(aA ts [93] q.2).deep by rw[bH];omega);have hn2:(aA ts [59] u.2).nodes.length+1<=1000000:=by simpa[bR] using hn
      have HN:=hD (show (aA ts [59] u.2).nodes.length<=1000000 by omega);have HN1:=hD (Nat.le_trans (aV ((Ext.refl u.2).must (ts:=ts) [59])) HN);have HN2:=hD (Nat.le_trans (aV (((((Ext.refl q.2).must (ts:=ts) [93]).up).must (ts:=ts) [61]).trans (aK _ _ _ _ hu))) HN1);have HB:=hD hm;have H0:=hD (aM hm).1;have HQ:=hD hq;have HU:=hD hu;rw[hq1,hu1];clear h ih hn hn2 hm hq hq1 hu hu1 hd hdl;rw[show [oneOf q.1]++[oneOf u.1]=[oneOf q.1,oneOf u.1] from rfl];go_enter func167,ntmps167;go_wp2_with fail
      refine stepM (S0.o.calls HM) λw1 S1=>?_;go_wp2_with fail
      refine stepM (S1.o.name rfl) λw2 S2=>?_;go_wp2_with fail
      refine stepM (S2.o.is ⟨#[91]⟩ HB) λw3 S3=>?_;go_wp2_with fail
      refine stepM (S3.o.down H0) λw4 S4=>?_;go_wp2_with fail
      refine stepM (S4.o.must ⟨#[91]⟩) λw5 S5=>?_;go_wp2_with fail
      refine stepM (IH.o.expr _ _ _ _ _ S5 HQ HN2) λw6 S6=>?_;go_wp2_with fail
      refine stepM (S6.o.must ⟨#[93]⟩) λw7 S7=>?_;obtain⟨hg7,c17,c27,c47,c57,f27,f47⟩:=S7.o.cells;have hi7:=S7.o.i_le;obtain⟨hl7,hu7⟩:=HDB.o;go_wp2_with fail
      have S8:=hD (S7.o.up HD);clear hg7 c17 c27 c47 c57 f27 f47 hi7 hl7 hu7;generalize w7.setCell (g,U4) (((aA ts [93] (q.2)).deep:Int) - 1:Int)=w8 at *;refine stepM (S8.o.must ⟨#[61]⟩) λw9 S9=>?_;go_wp2_with fail
      refine stepM (IH.o.expr _ _ _ _ _ S9 HU HN1) λw10 S10=>?_;go_wp2_with fail
      refine stepM (S10.o.must ⟨#[59]⟩) λw11 S11=>?_;go_wp2_with fail
      refine stepM (S11.o.aOe (oneOf q.1) (oneOf u.1) rfl 12 _ 0 rfl rfl (name:=(dZ ts s)) rfl HN) λw12 S12=>?_;go_wp2
      go_ret;exact⟨rfl,S12⟩
    . rw[if_neg hm] at hr
      simp only[mS] at hr;obtain⟨q,hq,rfl⟩:=hr;have hq1:=aJ _ _ _ _ hq trivial;have hn2:(aA ts [59] q.2).nodes.length+1<=1000000:=by simpa[bR] using hn
      have HN:=hD (show (aA ts [59] q.2).nodes.length<=1000000 by omega);have HN1:=hD (Nat.le_trans (aV ((Ext.refl q.2).must (ts:=ts) [59])) HN);have HB:=hD (show pIs ts [91] (aI ts s)=false by simpa using hm);have HQ:=hD hq;rw[hq1];clear h ih hn hn2 hm hq hq1;go_enter func167,ntmps167;go_wp2_with fail
      refine stepM (S0.o.calls HM) λw1 S1=>?_;go_wp2_with fail
      refine stepM (S1.o.name rfl) λw2 S2=>?_;go_wp2_with fail
      refine stepM (S2.o.is ⟨#[91]⟩ HB) λw3 S3=>?_;go_wp2_with fail
      refine stepM (S3.o.must ⟨#[61]⟩) λw4 S4=>?_;go_wp2_with fail
      refine stepM (IH.o.right _ _ _ _ _ S4 HQ HN1) λw5 S5=>?_;go_wp2_with fail
      refine stepM (S5.o.must ⟨#[59]⟩) λw6 S6=>?_;go_wp2_with fail
      refine stepM (S6.o.xA (oneOf q.1) rfl 11 _ 0 rfl rfl (name:=(dZ ts s)) rfl HN) λw7 S7=>?_;go_wp2
      go_ret;exact⟨rfl,S7⟩
end
end Go.Proofs.YtlbjicjinnnboaaGreatDoor
