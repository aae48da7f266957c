/- MrC: PPut, PStepE, PStepF, PStepG, POk, PFew, PSt, PGood, PRight, PNamed, PStmt, PChain. -/
import Derived.Test.YtlbjicjinnnboaaGreatDoorMrB
set_option maxHeartbeats 8000000
set_option maxRecDepth 100000
set_option linter.unusedVariables false
set_option linter.unusedSimpArgs false
/- The reader puts a node. -/
namespace Go.Proofs.YtlbjicjinnnboaaGreatDoor
open Go.RowKit Go.Proofs.Tryz
variable {w w0:World}{s s':PS}{b kv nv:Int}{g n tb tc B k:Nat}{r:List Nat×PS}{X src:ByteArray}{R:Nat->Prop}{ts:List Tok}{lvs:List Value}{x:List UInt8}{v:Value}
theorem Own.ty {e size:Nat}{xs:List Value} (h:Own w e size v n xs) (hk:blk v=some k):∃cs,Blk w k e cs:=by
 obtain⟨hl,A,c,rfl,⟨rfl,_⟩|⟨g',cur,rfl,h0,hb',r⟩⟩:=h
 . cases A<;>simp[blk] at hk
 . simp[blk] at hk
   exact⟨cur,by rw[<-hk.2];exact hb'⟩
theorem bJ.frR {w':World}{cs:Array Value}{t:TypeId} (hb:Blk w g t cs) (ht:3≠t):∀{ns:List aH}{vs:List Value},bJ w ns vs->FrR g w w'->bJ w' ns vs
 | [],[],_,_=>trivial
 | [],_ :: _,h,_=>h.elim
 | _ :: _,[],h,_=>h.elim
 | _ :: _,_ :: _,h,f=>⟨h.1.fr f (λb hb' hm=>by
  rcases hm with e|⟨_,cs',f',hc⟩
  . exact h.1.aG hb ht (by rw[hb',e])
  . obtain⟨cur,hcur⟩:=h.1.ty hb'
    unfold Blk at hcur;rw[hcur] at hc;injection hc with hc;injection hc with _ h2 _;exact absurd h2 (by decide)),bJ.frR hb ht h.2 f⟩
theorem bJ.snoc {n:aH} (hn:Own w 3 1 v n.l.length (ints n.l)):∀{ns:List aH}{vs:List Value},bJ w ns vs->bJ w (ns++[n]) (vs++[v])
 | [],[],_=>⟨hn,trivial⟩
 | [],_ :: _,h=>h.elim
 | _ :: _,[],h=>h.elim
 | _ :: _,_ :: _,h=>⟨h.1,bJ.snoc hn h.2⟩
theorem Own.frR {w':World}{cs:Array Value}{t e size:Nat}{xs:List Value} (h:Own w e size v n xs) (hb:Blk w g t cs) (ht:e≠t) (hn:e≠50) (f:FrR g w w'):Own w' e size v n xs:=
 h.fr f (λb hb' hm=>by
  rcases hm with e1|⟨_,cs',f',hc⟩
  . exact h.aG hb ht (by rw[hb',e1])
  . obtain⟨cur,hcur⟩:=h.ty hb'
    unfold Blk at hcur;rw[hcur] at hc;injection hc with hc;injection hc with _ h2 _;exact hn h2)
theorem aOg (h:Rdr src tb tc ts g lvs w s) (k line n:Nat) (name:List UInt8) (lv:Value) (l:List Nat)
   (hl:Own w 3 1 lv l.length (ints l)) (hn:s.nodes.length≤1000000):
   Calls prog 139 #[(g,()),k,line,n,bs name,lv] w λe w'=>
     e = .returned s.nodes.length∧Rdr src tb tc ts g (lvs++[lv]) w' (bY k line n name l s).2∧FrR g w w':=by
 obtain⟨nv,hb,ho⟩:=h.cells;obtain⟨b0,ht⟩:=h.toks;have hnw:=h.newer nv (hb.cell 3);have NW:=hD hnw;clear hnw;have c3:=hb.cell 3;have f3:=hb.frozen 3;obtain⟨A,c,rfl,hc1,hc2⟩:=ho.cap;obtain⟨A1,c1,rfl,hc3,hc4⟩:=hl.cap;simp at c3
 have hg:=hb.lt;have H:=hD h;have HO:=hD ho;have HB:=hD hb;have HL:=hD hl;have HT:=hD ht;have hn2:(s.nodes.length:Int)≤1000000:=by omega
 generalize hN:s.nodes.length=N at *;generalize hM:l.length=M at *;obtain⟨B,hB⟩:∃B,bs name=B:=⟨_,rfl⟩;have NM:=hD hB;rw[hB];clear h ho hb hl ht hB;go_enter func139,ntmps139;go_wp2_with (at_builtin;refine aN (v:= .slice A N c) (m:=1) (news:=[k,line,n,B,.slice A1 M c1]) rfl _ _ rfl aNm rfl rfl (HO.o.alloc _) (Rd.gG (n:=1) (cs:=[k,line,n,B,.slice A1 M c1]) (Blk.new _ _ _) rfl (by decide)) (by simp[Value.oneCell']) (by omega) (by unfold maxLen;omega) ?_;intro A3 c3' w3 ho3 hf3 hv3;have O3:=hD ho3;have F3:=hD hf3;have V3:=hD hv3;have B3:=hD ((HB.o.alloc _).fr hf3 (λhm=>HO.o.aG HB (by decide) hm));have g3:=B3.o.frozen 3;have d3:=B3.o.cell 3;simp at d3;clear ho3 hf3 hv3)
 go_ret;have hFR:FrR g w w3:=by
   refine Fr.trans (M1:=nob) ((fR w).alloc _) F3 (λ_ _ x=>x.elim) (λk2 hk2 hm=>?_);obtain⟨cur,hcur⟩:=HO.o.ty (k:=k2) hm;exact .inr ⟨NW k2 hm,cur,_,hcur⟩
 have hset:Fr (dG g) w3 (w3.setCell (g,U3) (.slice A3 (N+1) c3')):=(Fr.refl (dG g) w3).setCell _ _ (λ_=>rfl);have hFR2:FrR g w (w3.setCell (g,U3) (.slice A3 (N+1) c3')):=FrR.trans hFR (hset.mono (λk _ e=> .inl e));refine⟨by first|rfl|simp,⟨⟨.slice A3 (N+1) c3',?_,?_⟩,?_,?_,⟨b0,?_⟩,λnv2 h1 k2 hk2=>?_⟩,hFR2⟩
 . exact B3.o.setCell 3 _
 . have e1:(bY k line n name l s).2.nodes=s.nodes++[⟨k,line,n,name,l⟩]:=rfl
   rw[e1,iB _ _ _ _ H.o.same,List.length_append,hN];have:=O3.o;rw[<-NM.o] at this;exact this.fr hset (λb hb' hm=>O3.o.aG B3 (by decide) (by rw[hb',show b=g from hm]))
 . have hl2:Own w 3 1 (.slice A1 M c1) l.length (ints l):=by rw[hM];exact HL.o
   exact bJ.snoc (hl2.frR HB (by decide) (by decide) hFR2) (H.o.below.frR HB (by decide) hFR2)
 . show (s.nodes++[_]).length=(lvs++[_]).length
   rw[List.length_append,List.length_append,H.o.same];rfl
 . exact⟨HT.o.own.frR HB (by decide) (by decide) hFR2,HT.o.new⟩
 . have h3:=(B3.o.setCell 3 (.slice A3 (N+1) c3')).cell 3
   rw[h3] at h1;simp at h1
   subst h1;rcases V3.o with e|e
   . exact NW k2 (by rw[<-e];exact hk2)
   . rw[e] at hk2
     injection hk2 with hk2;have:=HB.o.lt;simp at hk2;omega
theorem uM (x:List UInt8):mX x≤4:=by
 unfold mX
 (repeat' split)<;>omega
theorem aEz (h:Rdr src tb tc ts g lvs w s) (hk:bT ts s) (ht:aO ts):
   Calls prog 92 #[(g,())] w λe w'=>e = .returned (eF ts s)∧Rdr src tb tc ts g lvs w' (bC ts s)∧FrR g w w':=by
 have H:=hD h;have HK:=hD hk;have hi:=ht.i_le hk;have HW:=hD (sS h hk);have HT:=hD (λw'=>aJw (bs (bQ ts s)) w');rw[show (bs (bQ ts s)).data.toList=bQ ts s from rfl] at HT;have hle:=uM (bQ ts s);unfold bC;have e0:eF ts s=mX (bQ ts s):=rfl;rw[e0];generalize mX (bQ ts s)=t at *;generalize bs (bQ ts s)=wd at *;clear h hk ht e0;by_cases h0:t=0
 . subst h0
   rw[if_pos rfl];go_enter func92,ntmps92;go_wp2_with (first|(go_at_call 135;go_must (refine HW.o.mono ?_;rintro e w1 ⟨rfl,hf⟩;have F1:=hD hf;have H1:=hD (H.o.no hf);clear hf))|(go_at_call 136;refine bL (HT _) ?_)|(go_at_call 134;go_must (refine dY (lD H1 HK 20) λw2 H2 F2=>?_)))
   go_ret;exact⟨rfl,H2,FrR.trans (FrR.no F1) F2⟩
 . rw[if_neg h0]
   have tb2:((t:Int)==0)=false:=bN.2 (by omega);clear h0;go_enter func92,ntmps92;go_wp2_with (first|(go_at_call 135;go_must (refine HW.o.mono ?_;rintro e w1 ⟨rfl,hf⟩;have F1:=hD hf;have H1:=hD (H.o.no hf);(obtain⟨nv,hb⟩:=H1.o.blk);have c2:=hb.cell 2;have f2:=hb.frozen 2;simp at c2;clear hf hb))|(go_at_call 136;refine bL (HT _) ?_))
   go_ret;exact⟨rfl,H1.o.aPk (s.i+1),FrR.trans (FrR.no F1) (((Fr.refl (dG g) w1).setCell (g,U2) _ (λ_=>rfl)).mono (λk _ e=> .inl e))⟩
theorem aIr (h:Rdr src tb tc ts g lvs w s) (hk:bT ts s) (ht:aO ts):
  Calls prog 190 #[(g,())] w λe w'=>e = .returned (eP ts s)∧Fr nob w w':=by
 have H:=hD h;have hi:=ht.i_le hk;have HI:=hD (pV h hk 3);have hnext:bB ts 3 s=true->s.i+1<ts.length:=λhx=>(hk.go ht (by rw[(aM hx).2];decide)).room
 unfold eP;clear h hk ht;generalize bB ts 3 s=b at *;cases b with
 | false=>
  rw[Bool.false_and];clear hnext;go_enter func190,ntmps190;go_upto_region 2 with (go_at_call 56;go_must (refine HI.o.mono ?_;rintro e w1 ⟨rfl,hf⟩;have F1:=hD hf;clear hf));go_quiet (fail)
  go_wp2
  go_ret;exact⟨rfl,F1.o.drewN _⟩
 | true=>
  have hn:=hnext rfl;have hr:(s.i:Int)+1<(ts.length:Int):=by omega
  obtain⟨u,hu⟩:∃u,ts[s.i+1]?=some u:=⟨ts[s.i+1],gE hn⟩;have hug:ts.getD (s.i+1) mK=u:=by rw[List.getD,hu];rfl
  rw[hug,Bool.true_and];have HU:=hD hu;have hx:(bs u.text).toList=u.text:=by rw[ByteArray.toList_eq];rfl
  have d1:IntKind.i64.wrap ((s.i:Int)+1)=(s.i:Int)+1:=IntWalk.i64_in _ (by omega);have d2:(0:Int)≤(s.i:Int)+1:=by omega
  have d3:((s.i:Int)+1).toNat=s.i+1:=by omega
  obtain⟨R,hR⟩:∃R,(decide (u.kind=5) && decide (u.text=[40]))=R:=⟨_,rfl⟩;rw[hR];have HR:=hD hR;have HX:=hD hx;clear hnext hug hu hn hx hR;go_enter func190,ntmps190;go_upto_region 2 with (go_at_call 56;go_must (refine HI.o.mono ?_;rintro e w1 ⟨rfl,hf⟩;have F1:=hD hf;have H1:=hD (H.o.no hf);clear hf));obtain⟨nv2,hb2⟩:=H1.o.blk;have c1:=hb2.cell 1;have c2:=hb2.cell 2;obtain⟨x0,x1,_⟩:=H1.o.aNt HU.o;simp at c1 c2
  clear hb2;generalize bs u.text=ut at *;by_cases h5:u.kind=5
  . have h5b:((u.kind:Int)==5)=true:=by rw[h5];rfl
    by_cases hT:u.text=[40]
    . have hTb:(ut.toList==[40])=true:=by rw[HX.o,hT];rfl
      obtain rfl:R=true:=by rw[<-HR.o,decide_eq_true h5,decide_eq_true hT];rfl
      clear h5 hT;go_quiet (fail)
      go_wp2
      go_ret;exact⟨rfl,F1.o.drewN _⟩
    . have hTb:(ut.toList==[40])=false:=by rw[HX.o];exact bN.2 hT
      obtain rfl:R=false:=by rw[<-HR.o,decide_eq_true h5,decide_eq_false hT];rfl
      clear h5 hT;go_quiet (fail)
      go_wp2
      go_ret;exact⟨rfl,F1.o.drewN _⟩
  . have h5b:((u.kind:Int)==5)=false:=bN.2 (by omega)
    obtain rfl:R=false:=by rw[<-HR.o,decide_eq_false h5];rfl
    clear h5;go_quiet (fail)
    go_wp2
    go_ret;exact⟨rfl,F1.o.drewN _⟩
def aKi (lv:Nat):Array Value:=((dX lv).map λx=>Value.string (bs x)).toArray
theorem aFj (lv:Nat) (h:lv≤4) (w:World):Calls prog 225 #[lv] w λe w'=>(∃g2,e = .returned (g2,(dX lv).length,(dX lv).length)∧Blk w' g2 9 (aKi lv))∧Fr nob w w':=by
 rcases (by omega:lv=0∨lv=1∨lv=2∨lv=3∨lv=4) with rfl|rfl|rfl|rfl|rfl
 all_goals
  go_enter func225,ntmps225;go_wp2
  go_ret;exact⟨⟨w.heap.size,rfl,Blk.new w 9 _⟩,(fR w).alloc _⟩
theorem aKh {lv j:Nat} (h:j<(dX lv).length):∃x,(dX lv)[j]?=some x∧(aKi lv)[j]?=(bs x):=by
 refine⟨(dX lv)[j],gE h,?_⟩;unfold aKi;simp[gE h]
theorem tZ {p:List UInt8->Bool}:∀{l:List (List UInt8)}{j:Nat}{x:List UInt8},l[j]?=some x->p x=true->(∀k y,k<j->l[k]?=some y->p y=false)->l.find? p=some x
 | [],_,_,h,_,_=>by simp at h
 | a :: l,0,x,h,hp,_=>by simp at h;subst h;simp[hp]
 | a :: l,j+1,x,h,hp,hn=>by
  have ha:=hn 0 a (by omega) rfl;rw[List.find?_cons,ha];exact tZ (by simpa using h) hp (λk y hk hy=>hn (k+1) y (by omega) (by simpa using hy))
theorem aLc (h:Rdr src tb tc ts g lvs w s) (hk:bT ts s) (lv:Nat) (hlv:lv≤4):
  Calls prog 206 #[(g,()),lv] w λe w'=>e = .returned (bs (fC ts lv s))∧Fr nob w w':=by
 have H:=hD h;have HK:=hD hk;have HS:=hD (aFj lv hlv);have hlen:(dX lv).length≤4:=by
  rcases (by omega:lv=0∨lv=1∨lv=2∨lv=3∨lv=4) with rfl|rfl|rfl|rfl|rfl<;>decide
 have SV:=hD (λj (hj:j<(dX lv).length)=>aKh hj);have hN:=λ(j:Nat) (x:List UInt8) (h1:(dX lv)[j]?=some x) (h2:pIs ts x s=true) (h3:∀k y,k<j->(dX lv)[k]?=some y->pIs ts y s=false)=>(show fC ts lv s=x by unfold fC;rw[tZ h1 h2 h3];rfl)
 have hZ:=λ(h3:∀k y,k<(dX lv).length->(dX lv)[k]?=some y->pIs ts y s=false)=>(show fC ts lv s=[] by
  unfold fC;rw[List.find?_eq_none.2 (λy hy=>by
    obtain⟨k,hk,hky⟩:=List.getElem_of_mem hy;rw[h3 k y hk (by rw[gE hk,hky])];simp)];rfl)
 have HN:=hD hN;have HZ:=hD hZ;clear h hk hN hZ hlv;generalize hr:fC ts lv s=R at *;clear hr;generalize aKi lv=sv at *;generalize hL:dX lv=L at *;clear hL;go_enter func206,ntmps206;go_wp2_with (go_at_call 225;go_must (refine (HS _).mono ?_;rintro e w1 ⟨⟨g2,rfl,hb⟩,hf⟩;have F1:=hD hf;have H1:=hD (H.o.no hf);have B1:=hD hb;clear hf hb))
 go_loopw [6] (λi w'=>∃j:Nat,j≤L.length∧i = .int .i64 j∧Hd (∀k y,k<j->L[k]?=some y->pIs ts y s=false)∧Hd (Fr nob w1 w')) (λi _=>L.length - (intOf i).toNat)
 case atStart=>exact⟨0,Nat.zero_le _,rfl,hD (λk y hk=>absurd hk (Nat.not_lt_zero _)),hD (Fr.refl _ _)⟩
 case round=>
  obtain⟨j,hj,rfl,HJ,F2⟩:=hrel;by_cases hjl:j<L.length
  . have hjl2:(j:Int)<(L.length:Int):=by omega
    obtain⟨x,hx,hxv⟩:=SV.o j hjl;have B2:=hD (B1.o.fr F2 (λx=>x));have c0:=(B2.o.cell j).trans hxv;have HX:=hD hx;have HI:=hD (aHq (H1.o.no F2) HK (bs x));rw[show (bs x).data.toList=x from rfl] at HI;have hj6:(j:Int)≤4:=by omega
    clear hx hxv;cases hb:pIs ts x s with
    | true=>
     have e1:=hD (HN j x HX hb HJ);rw[hb] at HI;clear hb;generalize hXX:bs x=X at *;have XE:=hD hXX;clear hXX;go_wp2_with (go_at_call 91;go_must (refine HI.o.mono ?_;rintro e w3 ⟨rfl,hf3⟩;have F3:=hD hf3;have c1:=(F3.o.cell (p:=(g2,j)) B2.o.lt (λx=>x)).trans c0;clear hf3))
     go_ret;exact⟨by rw[e1.o,XE.o];first|done|rfl,(F1.o.tr F2).tr F3⟩
    | false=>
     have hn2:=hD (show ∀k y,k<j+1->L[k]?=some y->pIs ts y s=false from λk y hk hy=>by
      by_cases e:k=j
      . subst e
        rw[HX.o] at hy;injection hy with hy;subst hy;exact hb
      . exact HJ k y (by omega) hy)
     rw[hb] at HI;clear hb;generalize bs x=X at *;go_wp2_with (go_at_call 91;go_must (refine HI.o.mono ?_;rintro e w3 ⟨rfl,hf3⟩;have F3:=hD hf3;clear hf3))
     go_roundw
     case rel=>exact⟨j+1,by omega,by go_num,hn2,hD (F2.o.tr F3)⟩
     case measure=>simp[intOf];omega
  . have hjl2:(L.length:Int)≤(j:Int):=by omega
    have e1:=hD (HZ (λk y hk hy=>HJ.o k y (by omega) hy));go_wp2
    go_ret;exact⟨by rw[e1.o];first|done|rfl,F1.o.tr F2⟩
section
variable {src:List UInt8}{ts:List Tok}{s:PS}
theorem aGz (s:PS):bF ts (aU ts s)=bF ts s:=by
 unfold aU aQ bF;simp only;split
 . split<;>rfl
 . rfl
theorem bT.goDown (h:bT ts s) (ht:aO ts) (hx:pIs ts x s=true):bT ts (pGo (aU ts s)):=
 (h.down ht (aL hx).1).go ht (by rw[aGz];exact (aL hx).2.1)
theorem bT.eZ (h:bT ts s) (ht:aO ts) (hx:pIs ts x s=true):bT ts (aU ts s):=h.down ht (aL hx).1
theorem bT.kE (h:bT ts s) (ht:aO ts) (hx:pIs ts x s=true):bT ts (pGo s):=h.go ht (aL hx).2.1
theorem bT.kD {lv:Nat} (h:bT ts s) (ht:aO ts) (hx:fC ts lv s≠[]):bT ts (pGo s):=by
 unfold fC at hx;cases hf:(dX lv).find? λx=>pIs ts x s with
 | none=>rw[hf] at hx;simp at hx
 | some x=>
  have hp:=List.find?_some hf;exact h.kE (x:=x) ht hp
theorem bT.dS (h:bT ts s) (ht:aO ts) (hw:bQ ts s=x) (hx:x≠[]):bT ts (pGo s):=h.go ht (by rw[(nY hx hw).2];decide)
theorem bT.gM (h:bT ts s) (ht:aO ts) (hk:(bF ts s).kind=k) (h0:k≠0):bT ts (pGo s):=h.go ht (by rw[hk];exact h0)
theorem fJ (ht:aO ts):∀(n:Nat) (k:Task) (s:PS) (r:List Nat×PS),run src ts n k s=some r->bT ts s->bT ts r.2:=by
 intro n;induction n with
 | zero=>intro k s r h;simp[run] at h
 | succ n ih=>
  intro k s r h hs;cases k<;>simp only[run] at h<;>
   (repeat' split at h)<;>
   (try simp only[mS,bS,Option.some.injEq] at h)<;>
   (try (obtain⟨q1,h1,h⟩:=h))<;>
   (repeat' split at h)<;>
   (try simp only[mS,bS,Option.some.injEq] at h)<;>
   (try (obtain⟨q2,h2,h⟩:=h))<;>
   (repeat' split at h)<;>
   (try simp only[mS,bS,Option.some.injEq] at h)<;>
   (try (obtain⟨q3,h3,h⟩:=h))<;>
   (try subst h)<;>
   (try subst h1)<;>
   (repeat (first
     | assumption
     | apply bT.put
     | apply bT.up
     | (refine bT.must ?_ ht _)
     | (refine bT.named ?_ ht)
     | (refine bT.typed ?_ ht)
     | (refine bT.fail ?_ ht 20 (by decide) (by decide))
     | (refine bT.goDown ?_ ht (by assumption))
     | (refine bT.eZ ?_ ht (by assumption))
     | (refine bT.kE ?_ ht (by assumption))
     | (refine bT.kD ?_ ht (by assumption))
     | (refine bT.dS ?_ ht (by assumption) (by simp))
     | (refine bT.gM ?_ ht (by assumption) (by decide))
     | (refine ih _ _ _ (by assumption) ?_)
     | dsimp only))
end
def pot (s:PS):Int:=(s.nodes.length:Int) - 20*(s.i:Int)
section
variable {src:List UInt8}{ts:List Tok}{s:PS}
theorem qO (s:PS):pot (pGo s)=pot s - 20:=by unfold pot pGo;simp only;omega
theorem lJ (k:Nat) (s:PS):pot (aQ ts k s)=pot s:=by unfold aQ;split<;>rfl
theorem pK (x:List UInt8) (s:PS):pot (aA ts x s)≤pot s:=by
 unfold aA;split
 . rw[qO];omega
 . rw[lJ];omega
theorem qN (s:PS):pot (aF ts s)≤pot s:=by
 unfold aF;split
 . rw[qO];omega
 . rw[lJ];omega
theorem aKw (s:PS):pot (aU ts s)=pot s:=by
 unfold aU;simp only;split
 . exact lJ 21 s
 . rfl
theorem aOh (k line n:Nat) (name:List UInt8) (l:List Nat) (s:PS):pot (bY k line n name l s).2=pot s+1:=by unfold pot bY;simp;omega
def kN:Task->Int
 | .call=>1 | .right=>1 | .block=>3 | .named _=>2 | .stmt=>2 | .stmts _=>2|_=>0
def kS:Task->Prop
 | .named _=>True | .stmt=>True|_=>False
theorem jS (h:pot s≤b):pot (pGo s)≤b - 20:=by rw[qO];omega
theorem dB (x:List UInt8) (h:pot s≤b):pot (aA ts x s)≤b:=Int.le_trans (pK x s) h
theorem lK (h:pot s≤b):pot (aF ts s)≤b:=Int.le_trans (qN s) h
theorem wN (h:pot s≤b):pot (aU ts s)≤b:=by rw[aKw];exact h
theorem aGu (h:pot s≤b):pot (pUp s)≤b:=h
theorem aGv (k:Nat) (h:pot s≤b):pot (aQ ts k s)≤b:=by rw[lJ];exact h
theorem fK (k line n:Nat) (name:List UInt8) (l:List Nat) (h:pot s≤b):pot (bY k line n name l s).2≤b+1:=by rw[aOh];omega
theorem aPb (h:(aF ts s).e=0):bB ts 3 s=true:=by
 unfold aF at h;by_cases hk:bB ts 3 s=true
 . exact hk
 . rw[if_neg hk] at h
   unfold aQ at h;split at h
   . simp at h
   . rename_i h0;exact absurd h h0
theorem mO (hk:(aF ts s).e=0) (h:pot s≤b):pot (aF ts s)≤b - 20:=by
 have:=aPb hk;unfold aF;rw[if_pos this];exact jS h
theorem Ext.e0 {t:PS} (h:Ext s t) (h0:t.e=0):s.e=0:=by
 by_cases e:s.e=0
 . exact e
 . exact absurd ((h.err e).1.symm.trans h0) e
theorem aNx:∀(n:Nat) (k:Task) (s:PS) (r:List Nat×PS),run src ts n k s=some r->pot r.2≤pot s+kN k∧(kS k->r.2.e=0->pot r.2≤pot s - 10)∧(k = .call->(aF ts s).e=0->pot r.2≤pot s - 19):=by
 intro n;induction n with
 | zero=>intro k s r h;simp[run] at h
 | succ n ih=>
  have ih1:∀(k:Task) (s:PS) (r:List Nat×PS) (b:Int),run src ts n k s=some r->pot s≤b->pot r.2≤b+kN k:=λk s r b h hb=>Int.le_trans (ih k s r h).1 (by omega)
  intro k s r h;have h0:=h;cases k
  case stmts l=>
   refine⟨?_,λhk=>hk.elim,λhk=>by cases hk⟩;simp only[run] at h;split at h
   . simp only[Option.some.injEq] at h;subst h;(simp only[kN];omega)
   . split at h
     . simp only[Option.some.injEq] at h;subst h;(simp only[kN];omega)
     . simp only[bS] at h
       obtain⟨q1,h1,h⟩:=h;obtain⟨a1,a2,_⟩:=ih _ _ _ h1;by_cases he:q1.2.e=0
       . have b1:=a2 trivial he
         have:=(ih _ _ _ h).1;simp only[kN] at this ⊢;omega
       . cases n with
         | zero=>simp[run] at h
         | succ n=>
           simp only[run] at h;rw[if_pos he] at h;simp only[Option.some.injEq] at h;subst h;exact a1
  case named line=>
   simp only[run] at h;split at h
   . rename_i hc
     simp only[mS] at h;obtain⟨q1,h1,h⟩:=h;subst h;have hk:=zA hc;have hn0:(aF ts s).e=0:=by unfold aF;rw[if_pos hk];exact (aM hk).1
     have hc2:pot q1.2≤pot s - 19:=(ih _ _ _ h1).2.2 rfl hn0;have:=fK 13 line 0 [] q1.1 (dB (ts:=ts) [59] hc2);simp only[kN,kS];refine⟨by omega,λ_ _=>by omega,λhk=>by cases hk⟩
   . split at h
     . rename_i hx
       simp only[mS,bS] at h;obtain⟨q1,h1,q2,h2,h⟩:=h;subst h;have hn0:=(aL hx).1;have hb:=fK 12 line 0 (dH ts s) (q1.1++q2.1) (dB (ts:=ts) [59] (ih1 _ _ _ _ h2 (dB _ (aGu (dB _ (ih1 _ _ _ _ h1 (dB _ (wN (mO hn0 (Int.le_refl _))))))))));simp only[kN,kS] at hb ⊢;refine⟨by omega,λ_ _=>by omega,λhk=>by cases hk⟩
     . simp only[mS] at h
       obtain⟨q1,h1,h⟩:=h;subst h;have hb:=fK 11 line 0 (dH ts s) q1.1 (dB (ts:=ts) [59] (ih1 _ _ _ _ h1 (dB _ (lK (Int.le_refl _)))));simp only[kN,kS] at hb ⊢;refine⟨by omega,λ_ he=>?_,λhk=>by cases hk⟩;have hn0:(aF ts s).e=0:=by
         refine Ext.e0 (t:=(bY 11 line 0 (dH ts s) q1.1 (aA ts [59] q1.2)).2) ?_ he;exact ((((Ext.refl _).must (ts:=ts) [61]).trans (aI _ _ _ _ h1)).must (ts:=ts) [59]).put _ _ _ _ _
       have hb:=fK 11 line 0 (dH ts s) q1.1 (dB (ts:=ts) [59] (ih1 _ _ _ _ h1 (dB _ (mO hn0 (Int.le_refl _)))));simp only[kN] at hb ⊢;omega
  case stmt=>
   simp only[run] at h;have fin:∀{b:Int},pot r.2≤b->b≤pot s - 10->pot r.2≤pot s+2∧(True->r.2.e=0->pot r.2≤pot s - 10)∧(Task.stmt = .call->(aF ts s).e=0->pot r.2≤pot s - 19):=λh1 h2=>⟨by omega,λ_ _=>by omega,λhk=>by cases hk⟩
   simp only[kN,kS];by_cases hw:bQ ts s=[108,101,116]
   . rw[if_pos hw] at h
     simp only[mS] at h;obtain⟨q1,h1,h⟩:=h;subst h;refine fin (fK _ _ _ _ _ (dB _ (ih1 _ _ _ _ h1 (dB _ (lK (jS (Int.le_refl _))))))) (by simp only[kN];omega)
   . rw[if_neg hw] at h;clear hw
     by_cases hw:bQ ts s=[112,114,105,110,116]
     . rw[if_pos hw] at h
       simp only[mS] at h;obtain⟨q1,h1,h⟩:=h;subst h;refine fin (fK _ _ _ _ _ (dB _ (ih1 _ _ _ _ h1 (jS (Int.le_refl _))))) (by simp only[kN];omega)
     . rw[if_neg hw] at h;clear hw
       by_cases hw:bQ ts s=[119,104,105,108,101]
       . rw[if_pos hw] at h
         simp only[mS,bS] at h;obtain⟨q1,h1,q2,h2,h⟩:=h;subst h;refine fin (fK _ _ _ _ _ (ih1 _ _ _ _ h2 (ih1 _ _ _ _ h1 (jS (Int.le_refl _))))) (by simp only[kN];omega)
       . rw[if_neg hw] at h;clear hw
         by_cases hw:bQ ts s=[105,102]
         . rw[if_pos hw] at h
           simp only[bS] at h;obtain⟨q1,h1,q2,h2,h⟩:=h;split at h
           . simp only[mS] at h
             obtain⟨q3,h3,h⟩:=h;subst h;refine fin (fK _ _ _ _ _ (ih1 _ _ _ _ h3 (jS (ih1 _ _ _ _ h2 (ih1 _ _ _ _ h1 (jS (Int.le_refl _))))))) (by simp only[kN];omega)
           . simp only[Option.some.injEq] at h
             subst h;refine fin (fK _ _ _ _ _ (ih1 _ _ _ _ h2 (ih1 _ _ _ _ h1 (jS (Int.le_refl _))))) (by simp only[kN];omega)
         . rw[if_neg hw] at h;clear hw
           by_cases hw:bQ ts s=[114,101,116,117,114,110]
           . rw[if_pos hw] at h
             split at h
             . simp only[Option.some.injEq] at h
               subst h;refine fin (fK _ _ _ _ _ (dB _ (jS (Int.le_refl _)))) (by omega)
             . simp only[mS] at h
               obtain⟨q1,h1,h⟩:=h;subst h;refine fin (fK _ _ _ _ _ (dB _ (ih1 _ _ _ _ h1 (jS (Int.le_refl _))))) (by simp only[kN];omega)
           . rw[if_neg hw] at h;clear hw
             obtain⟨a1,a2,_⟩:=ih _ _ _ h;exact⟨a1,λ_=>a2 trivial,λhk=>by cases hk⟩
  case call=>
   simp only[run] at h;simp only[kN,kS];have key:∀{b:Int},pot (aA ts [40] (aF ts s))≤b->pot r.2≤b+1:=λ{b} hb=>by
     split at h<;>simp only[mS,Option.some.injEq] at h<;>obtain⟨q1,h1,h⟩:=h<;>subst h
     . have:=fK 21 (aR src ts s) 0 (dH ts s) q1.1 (dB (ts:=ts) [41] (ih1 _ _ _ _ h1 hb))
       simp only[kN] at this;omega
     . subst h1
       exact fK 21 (aR src ts s) 0 (dH ts s) [] (dB (ts:=ts) [41] hb)
   refine⟨key (dB _ (lK (Int.le_refl _))),λhk=>hk.elim,λ_ hn0=>?_⟩;have:=key (dB _ (mO hn0 (Int.le_refl _)));omega
  all_goals
   refine⟨?_,λhk=>hk.elim,λhk=>by cases hk⟩;simp only[run] at h
   (repeat' split at h)<;>
   (try simp only[mS,bS,Option.some.injEq] at h)<;>
   (try (obtain⟨q1,h1,h⟩:=h))<;>
   (repeat' split at h)<;>
   (try simp only[mS,bS,Option.some.injEq] at h)<;>
   (try (obtain⟨q2,h2,h⟩:=h))<;>
   (repeat' split at h)<;>
   (try simp only[mS,bS,Option.some.injEq] at h)<;>
   (try subst h)<;>
   (try subst h1)<;>
   (apply Int.le_trans
    focus (repeat (with_reducible (first
     | apply fK
     | apply aGu
     | apply dB
     | apply lK
     | apply aGv
     | apply jS
     | apply wN
     | apply ih1 _ _ _ _ (by assumption)
     | dsimp only
     | exact Int.le_refl _)))
    (first|(simp only[kN];omega)|omega|(simp only[kN] at *;omega)))
end
structure St (src:ByteArray) (tb tc:Nat) (ts:List Tok) (g:Nat) (R:Nat->Prop) (w0 w:World) (s:PS):Prop where
 rdr:∃lvs,Rdr src tb tc ts g lvs w s∧∀v∈lvs,∀k,blk v=some k->¬R k
 res:∀k,R k->k<w.heap.size
 ok:bT ts s
 toks:aO ts
 long:src.size≤281474976710656
 fr:FrR g w0 w
def RV (R:Nat->Prop) (v:Value):Nat->Prop:=λk=>R k∨blk v=some k
section
variable {src:ByteArray}{tb tc:Nat}{ts:List Tok}{g:Nat}{R:Nat->Prop}{w0 w w1 w':World}{s:PS}
theorem St.no (h:St src tb tc ts g R w0 w s) (f:Fr nob w w'):St src tb tc ts g R w0 w' s:=by
 obtain⟨lvs,hr,hn⟩:=h.rdr;exact⟨⟨lvs,hr.no f,hn⟩,λk hk=>Nat.lt_of_lt_of_le (h.res k hk) f.size,h.ok,h.toks,h.long,h.fr.trans (FrR.no f)⟩
theorem St.here (h:St src tb tc ts g R w0 w s):St src tb tc ts g R w w s:=⟨h.rdr,h.res,h.ok,h.toks,h.long,Fr.refl _ _⟩
theorem St.back (h:St src tb tc ts g R w0 w s) (h':St src tb tc ts g R w w' s'):St src tb tc ts g R w0 w' s':=⟨h'.rdr,h'.res,h'.ok,h'.toks,h'.long,h.fr.trans h'.fr⟩
theorem St.set (h:St src tb tc ts g R w0 w s) (j:Nat) (u:Value) (hr:∀lvs,Rdr src tb tc ts g lvs w s->Rdr src tb tc ts g lvs (w.setCell (g,j) u) s') (hk:bT ts s'):St src tb tc ts g R w0 (w.setCell (g,j) u) s':=by
 obtain⟨lvs,hr0,hn⟩:=h.rdr;exact⟨⟨lvs,hr lvs hr0,hn⟩,λk hk=>by simpa using h.res k hk,hk,h.toks,h.long,h.fr.trans (((Fr.refl (dG g) w).setCell (g,j) _ (λ_=>rfl)).mono (λk _ e=> .inl e))⟩
theorem St.go (h:St src tb tc ts g R w0 w s) (hk:bT ts (pGo s)):St src tb tc ts g R w0 (w.setCell (g,U2) ((s.i:Int)+1:Int)) (pGo s):=
 h.set 2 _ (λlvs hr=>hr.aPk (s.i+1)) hk
theorem St.up (h:St src tb tc ts g R w0 w s) (hd:1≤s.deep):St src tb tc ts g R w0 (w.setCell (g,U4) ((s.deep:Int) - 1:Int)) (pUp s):=by
 refine h.set 4 _ (λlvs hr=>?_) h.ok.up;have:=hr.aMy (s.deep - 1);rw[show (((s.deep - 1:Nat)):Int)=(s.deep:Int) - 1 by omega] at this;exact this
theorem St.cells (h:St src tb tc ts g R w0 w s):g<w.heap.size∧w.cell? (g,1)=(tb,ts.length,tc)∧w.cell? (g,2)=s.i∧w.cell? (g,4)=s.deep∧w.cell? (g,5)=s.e∧w.frozen? (g,U2)=false∧w.frozen? (g,U4)=false:=by
 obtain⟨lvs,hr,hnr⟩:=h.rdr;obtain⟨nv,hb⟩:=hr.blk;have c1:=hb.cell 1;have c2:=hb.cell 2;have c4:=hb.cell 4;have c5:=hb.cell 5;simp at c1 c2 c4 c5
 exact⟨hb.lt,c1,c2,c4,c5,hb.frozen 2,hb.frozen 4⟩
theorem St.tok (h:St src tb tc ts g R w0 w s):(s.i:Int)<(ts.length:Int)∧w.cell? (tb,s.i*3)=(bF ts s).kind∧w.cell? (tb,s.i*3+1)=(bs (bF ts s).text)∧w.cell? (tb,s.i*3+2)=(bF ts s).place:=by
 obtain⟨lvs,hr,hnr⟩:=h.rdr;obtain⟨_,_,x⟩:=hr.tok h.ok;exact⟨by have:=h.ok.room;omega,x⟩
theorem St.i_le (h:St src tb tc ts g R w0 w s):(s.i:Int)≤1000:=h.toks.i_le h.ok
theorem St.line (h:St src tb tc ts g R w0 w s) (hn:aR src.data.toList ts s=n):
  Calls prog 88 #[(g,())] w λe w'=>e = .returned n∧St src tb tc ts g R w0 w' s:=by
 obtain⟨lvs,hr,hnr⟩:=h.rdr;subst hn;exact (aGw hr h.ok h.long).mono λe w' ⟨he,hf⟩=>⟨he,h.no hf⟩
theorem St.is (h:St src tb tc ts g R w0 w s) (X:ByteArray){b:Bool} (hb:pIs ts X.data.toList s=b):
  Calls prog 91 #[(g,()),X] w λe w'=>e = .returned b∧St src tb tc ts g R w0 w' s:=by
 obtain⟨lvs,hr,hnr⟩:=h.rdr;subst hb;exact (aHq hr h.ok X).mono λe w' ⟨he,hf⟩=>⟨he,h.no hf⟩
theorem St.kind (h:St src tb tc ts g R w0 w s) (k:Nat){b:Bool} (hb:bB ts k s=b):
  Calls prog 56 #[(g,()),k] w λe w'=>e = .returned b∧St src tb tc ts g R w0 w' s:=by
 obtain⟨lvs,hr,hnr⟩:=h.rdr;subst hb;exact (pV hr h.ok k).mono λe w' ⟨he,hf⟩=>⟨he,h.no hf⟩
theorem St.calls (h:St src tb tc ts g R w0 w s){b:Bool} (hb:eP ts s=b):
  Calls prog 190 #[(g,())] w λe w'=>e = .returned b∧St src tb tc ts g R w0 w' s:=by
 obtain⟨lvs,hr,hnr⟩:=h.rdr;subst hb;exact (aIr hr h.ok h.toks).mono λe w' ⟨he,hf⟩=>⟨he,h.no hf⟩
theorem St.word (h:St src tb tc ts g R w0 w s){x:ByteArray} (hx:bs (bQ ts s)=x):
  Calls prog 135 #[(g,())] w λe w'=>e = .returned x∧St src tb tc ts g R w0 w' s:=by
 obtain⟨lvs,hr,hnr⟩:=h.rdr;subst hx;exact (sS hr h.ok).mono λe w' ⟨he,hf⟩=>⟨he,h.no hf⟩
theorem St.next (h:St src tb tc ts g R w0 w s) (lv:Nat) (hlv:lv≤4){x:ByteArray} (hx:bs (fC ts lv s)=x):
  Calls prog 206 #[(g,()),lv] w λe w'=>e = .returned x∧St src tb tc ts g R w0 w' s:=by
 obtain⟨lvs,hr,hnr⟩:=h.rdr;subst hx;exact (aLc hr h.ok lv hlv).mono λe w' ⟨he,hf⟩=>⟨he,h.no hf⟩
theorem St.fails (h:St src tb tc ts g R w0 w s) (k:Nat) (hk:k≤21) (hk0:1≤k):
  Calls prog 134 #[(g,()),k] w λe w'=>e = .returned (.tuple #[])∧St src tb tc ts g R w0 w' (aQ ts k s):=by
 obtain⟨lvs,hr,hnr⟩:=h.rdr;exact (lD hr h.ok k).mono λe w' ⟨he,hr2,hf⟩=>⟨he,⟨lvs,hr2,hnr⟩,λk hk=>Nat.lt_of_lt_of_le (h.res k hk) hf.size,h.ok.fail h.toks k hk hk0,h.toks,h.long,h.fr.trans hf⟩
theorem St.must (h:St src tb tc ts g R w0 w s) (X:ByteArray):
  Calls prog 89 #[(g,()),X] w λe w'=>e = .returned (.tuple #[])∧St src tb tc ts g R w0 w' (aA ts X.data.toList s):=by
 obtain⟨lvs,hr,hnr⟩:=h.rdr;exact (aLe hr h.ok h.toks X).mono λe w' ⟨he,hr2,hf⟩=>⟨he,⟨lvs,hr2,hnr⟩,λk hk=>Nat.lt_of_lt_of_le (h.res k hk) hf.size,h.ok.must h.toks _,h.toks,h.long,h.fr.trans hf⟩
theorem St.name (h:St src tb tc ts g R w0 w s){x:ByteArray} (hx:bs (dH ts s)=x):
  Calls prog 90 #[(g,())] w λe w'=>e = .returned x∧St src tb tc ts g R w0 w' (aF ts s):=by
 obtain⟨lvs,hr,hnr⟩:=h.rdr;subst hx;exact (vB hr h.ok h.toks).mono λe w' ⟨he,hr2,hf⟩=>⟨he,⟨lvs,hr2,hnr⟩,λk hk=>Nat.lt_of_lt_of_le (h.res k hk) hf.size,h.ok.named h.toks,h.toks,h.long,h.fr.trans hf⟩
theorem St.typed (h:St src tb tc ts g R w0 w s) (hn:eF ts s=n):
  Calls prog 92 #[(g,())] w λe w'=>e = .returned n∧St src tb tc ts g R w0 w' (bC ts s):=by
 obtain⟨lvs,hr,hnr⟩:=h.rdr;subst hn;exact (aEz hr h.ok h.toks).mono λe w' ⟨he,hr2,hf⟩=>⟨he,⟨lvs,hr2,hnr⟩,λk hk=>Nat.lt_of_lt_of_le (h.res k hk) hf.size,h.ok.typed h.toks,h.toks,h.long,h.fr.trans hf⟩
theorem St.down (h:St src tb tc ts g R w0 w s) (h0:s.e=0):
  Calls prog 137 #[(g,())] w λe w'=>e = .returned (.tuple #[])∧St src tb tc ts g R w0 w' (aU ts s):=by
 obtain⟨lvs,hr,hnr⟩:=h.rdr;exact (aMd hr h.ok).mono λe w' ⟨he,hr2,hf⟩=>⟨he,⟨lvs,hr2,hnr⟩,λk hk=>Nat.lt_of_lt_of_le (h.res k hk) hf.size,h.ok.down h.toks h0,h.toks,h.long,h.fr.trans hf⟩
theorem St.put (h:St src tb tc ts g R w0 w s) (k line n:Nat) (hkv:((k:Nat):Int)=kv) (hnv:((n:Nat):Int)=nv){name:List UInt8} (hX:bs name=X){lv:Value}{l:List Nat} (hl:Own w 3 1 lv l.length (ints l)) (hlr:∀k,blk lv=some k->¬R k) (hn:s.nodes.length≤1000000):
   Calls prog 139 #[(g,()),kv,line,nv,X,lv] w λe w'=>e = .returned s.nodes.length∧St src tb tc ts g R w0 w' (bY k line n name l s).2:=by
 obtain⟨lvs,hr,hnr⟩:=h.rdr;subst hX;subst hkv;subst hnv;refine (aOg hr k line n name lv l hl hn).mono λe w' ⟨he,hr2,hf⟩=>⟨he,⟨_,hr2,λv hv=>?_⟩,λk hk=>Nat.lt_of_lt_of_le (h.res k hk) hf.size,h.ok.put ..,h.toks,h.long,h.fr.trans hf⟩
 rcases List.mem_append.1 hv with hv|hv
 . exact hnr v hv
 . rw[List.mem_singleton.1 hv];exact hlr
theorem St.alloc (h:St src tb tc ts g R w0 w s) (o:Obj):St src tb tc ts g R w0 (w.alloc o) s:=h.no ((fR w).alloc o)
theorem St.uW (h:St src tb tc ts g R w0 w s) (k line n:Nat) (hkv:((k:Nat):Int)=kv) (hnv:((n:Nat):Int)=nv){name:List UInt8} (hX:bs name=X) (hn:s.nodes.length≤1000000):
  Calls prog 139 #[(g,()),kv,line,nv,X,Un] w λe w'=>e = .returned s.nodes.length∧St src tb tc ts g R w0 w' (bY k line n name [] s).2:=
 h.put k line n hkv hnv hX (l:=[]) (Own.nil _ _ _) (λk hk=>by simp[blk] at hk) hn
theorem mQ {c:Nat} (h:blk (B,n,c)=some k):k=B:=by
 simp[blk] at h;omega
theorem St.vS (h:St src tb tc ts g R w0 w s) (x:Nat) (hB:w.heap.size=B) (k line n:Nat) (hkv:((k:Nat):Int)=kv) (hnv:((n:Nat):Int)=nv){name:List UInt8} (hX:bs name=X) (hn:s.nodes.length≤1000000):
  Calls prog 139 #[(g,()),kv,line,nv,X,(B,1,1)] (w.alloc (.cells #[(x:Int)] 3)) λe w'=>e = .returned s.nodes.length∧St src tb tc ts g R w0 w' (bY k line n name [x] s).2:=by
 subst hB;refine (h.alloc _).put k line n hkv hnv hX (l:=[x]) ⟨rfl,_,1,rfl,.inr ⟨w.heap.size,_,rfl,by decide,Blk.new w _ _,Nat.le_refl _,by decide,rfl,rfl⟩⟩ (λk hk hR=>?_) hn;have:=h.res k hR;have:=mQ hk;omega
theorem St.aNc (h:St src tb tc ts g R w0 w s) (x y:Nat) (hB:w.heap.size=B) (k line n:Nat) (hkv:((k:Nat):Int)=kv) (hnv:((n:Nat):Int)=nv){name:List UInt8} (hX:bs name=X) (hn:s.nodes.length≤1000000):
  Calls prog 139 #[(g,()),kv,line,nv,X,(B,2,2)] (w.alloc (.cells #[(x:Int),(y:Int)] 3)) λe w'=>e = .returned s.nodes.length∧St src tb tc ts g R w0 w' (bY k line n name [x,y] s).2:=by
 subst hB;refine (h.alloc _).put k line n hkv hnv hX (l:=[x,y]) ⟨rfl,_,2,rfl,.inr ⟨w.heap.size,_,rfl,by decide,Blk.new w _ _,Nat.le_refl _,by decide,rfl,rfl⟩⟩ (λk hk hR=>?_) hn;have:=h.res k hR;have:=mQ hk;omega
theorem iG:vT prog 27 3 1 8 U0:=vT.mk' (by kernel_rfl) (by kernel_rfl) rfl (by decide)
structure StR (src:ByteArray) (tb tc:Nat) (ts:List Tok) (g:Nat) (R:Nat->Prop) (w0 w:World) (s:PS) (v:Value) (l:List Nat):Prop where
 st:St src tb tc ts g (RV R v) w0 w s
 own:Own w 3 1 v l.length (ints l)
 nr:∀k,blk v=some k->¬R k
 nw:∀k,blk v=some k->w0.heap.size≤k
variable {v:Value}{l:List Nat}
theorem StR.here (h:StR src tb tc ts g R w0 w s v l):St src tb tc ts g (RV R v) w w s:=h.st.here
theorem StR.step (h:StR src tb tc ts g R w0 w s v l){f:FuncId}{args:Array Value}{E:Ending->Prop} (c:Calls prog f args w λe w'=>E e∧St src tb tc ts g (RV R v) w w' s'):
  Calls prog f args w λe w'=>E e∧StR src tb tc ts g R w0 w' s' v l:=by
 refine c.mono λe w' ⟨he,h'⟩=>⟨he,h.st.back h',?_,h.nr,h.nw⟩
 obtain⟨lvs,hr,_⟩:=h.st.rdr;obtain⟨nv,hb⟩:=hr.blk;exact h.own.frR hb (by decide) (by decide) h'.fr
theorem StR.to (h:StR src tb tc ts g R w0 w s v l) (h':St src tb tc ts g (RV R v) w w' s'):StR src tb tc ts g R w0 w' s' v l:=by
 refine⟨h.st.back h',?_,h.nr,h.nw⟩;obtain⟨lvs,hr,_⟩:=h.st.rdr;obtain⟨nv,hb⟩:=hr.blk;exact h.own.frR hb (by decide) (by decide) h'.fr
theorem StR.go (h:StR src tb tc ts g R w0 w s v l) (hk:bT ts (pGo s)):StR src tb tc ts g R w0 (w.setCell (g,U2) ((s.i:Int)+1:Int)) (pGo s) v l:=h.to (h.here.go hk)
theorem StR.up (h:StR src tb tc ts g R w0 w s v l) (hd:1≤s.deep):StR src tb tc ts g R w0 (w.setCell (g,U4) ((s.deep:Int) - 1:Int)) (pUp s) v l:=h.to (h.here.up hd)
theorem St.row0 (h:St src tb tc ts g R w0 w s) (o:Obj) (A:Option Addr):StR src tb tc ts g R w0 (w.alloc o) s (.slice A 0 0) []:=by
 have hb:∀k,blk (.slice A 0 0)≠some k:=λk hk=>by cases A<;>simp[blk] at hk
 obtain⟨lvs,hr,hnr⟩:=(h.alloc o).rdr;refine⟨⟨⟨lvs,hr,λv hv k hk hR=>?_⟩,λk hk=>?_,h.ok,h.toks,h.long,(h.alloc o).fr⟩,Own.empty _ _ _ _,λk hk=>absurd hk (hb k),λk hk=>absurd hk (hb k)⟩
 . rcases hR with hR|hR
   . exact hnr v hv k hk hR
   . exact hb k hR
 . rcases hk with hR|hR
   . exact (h.alloc o).res k hR
   . exact absurd hR (hb k)
theorem nS:∀{ns:List aH}{vs:List Value},bJ w ns vs->∀v∈vs,∀k,blk v=some k->k<w.heap.size
 | [],[],_,_,hv,_,_=>by cases hv
 | [],_ :: _,h,_,_,_,_=>h.elim
 | _ :: _,[],h,_,_,_,_=>h.elim
 | _ :: ns,u :: vs,h,v,hv,k,hk=>by
  rcases List.mem_cons.1 hv with rfl|hv
  . exact h.1.bD hk
  . exact nS h.2 v hv k hk
theorem St.row (h:St src tb tc ts g R w0 w s){o:Obj}{v:Value}{l:List Nat} (hv:∀k,blk v=some k->k=w.heap.size) (ho:Own (w.alloc o) 3 1 v l.length (ints l)):StR src tb tc ts g R w0 (w.alloc o) s v l:=by
 obtain⟨lvs0,hr0,hnr0⟩:=h.rdr;obtain⟨lvs,hr,hnr⟩:∃lvs,Rdr src tb tc ts g lvs (w.alloc o) s∧∀v∈lvs,∀k,blk v=some k->¬R k∧k<w.heap.size:=
   ⟨lvs0,hr0.no ((fR w).alloc o),λv hv k hk=>⟨hnr0 v hv k hk,nS hr0.below v hv k hk⟩⟩
 refine⟨⟨⟨lvs,hr,λu hu k hk hR=>?_⟩,λk hk=>?_,h.ok,h.toks,h.long,(h.alloc o).fr⟩,ho,λk hk hR=>?_,λk hk=>?_⟩
 . rcases hR with hR|hR
   . exact (hnr u hu k hk).1 hR
   . have:=hv k hR;have:=(hnr u hu k hk).2;omega
 . rcases hk with hR|hR
   . exact (h.alloc o).res k hR
   . exact ho.bD hR
 . have:=hv k hk;have:=h.res k hR;omega
 . have:=hv k hk;have:=h.fr.size;omega
theorem St.aRd (h:St src tb tc ts g R w0 w s) (x y:Nat) (hB:w.heap.size=B):StR src tb tc ts g R w0 (w.alloc (.cells #[(x:Int),(y:Int)] 3)) s (B,2,2) [x,y]:=by
 subst hB;exact h.row (λk hk=>mQ hk) ⟨rfl,_,2,rfl,.inr ⟨w.heap.size,_,rfl,by decide,Blk.new w _ _,Nat.le_refl _,by decide,rfl,rfl⟩⟩
theorem kM {e:TypeId}{x:Nat} (h:Own w e 1 v (l.length+1) (ints l++[.int .i64 (x:Nat)])):Own w e 1 v (l++[x]).length (ints (l++[x])):=by
 rw[List.length_append];unfold ints at h ⊢;rw[List.map_append];exact h
theorem StR.app (h:StR src tb tc ts g R w0 w s v l){o:Obj}{v':Value}{l':List Nat} (ho:Own w' 3 1 v' l'.length (ints l')) (hf:Fr (obl (blk v)) (w.alloc o) w') (hv:blk v'=blk v∨blk v'=some (w.alloc o).heap.size):StR src tb tc ts g R w0 w' s v' l':=by
 have h1:=h.st.alloc o;obtain⟨lvs,hr,hnr⟩:=h1.rdr;have hlt:=nS hr.below;obtain⟨nv,hb,hon⟩:=hr.cells;obtain⟨b0,ht⟩:=hr.toks;have hown:=h.own.alloc o;have hrn:∀u∈lvs,∀k,blk u=some k->¬obl (blk v) k:=λu hu k hk hm=>hnr u hu k hk (.inr hm)
 have hg:¬obl (blk v) g:=λhm=>hown.aG hb (by decide) hm
 have hbel:∀{ns:List aH} {vs:List Value},bJ (w.alloc o) ns vs->(∀u∈vs,∀k,blk u=some k->¬obl (blk v) k)->bJ w' ns vs:=by
   intro ns;induction ns with
   | nil=>intro vs hb hn;cases vs with
     | nil=>trivial
     | cons _ _=>exact hb.elim
   | cons n ns ih=>intro vs hb hn;cases vs with
     | nil=>exact hb.elim
     | cons u vs=>exact⟨hb.1.fr hf (λk hk=>hn u List.mem_cons_self k hk),ih hb.2 (λu2 hu2=>hn u2 (List.mem_cons_of_mem _ hu2))⟩
 have hs:=hf.size;have hR':∀k,RV R v' k->k<w'.heap.size:=λk hk=>by
   rcases hk with hk|hk
   . have:=h1.res k (.inl hk);omega
   . exact ho.bD hk
 have hfr:FrR g w0 w':=by
   refine Fr.trans h1.fr hf (λ_ _ x=>x) (λk hk hm=>?_);have:=h.nw k hm;omega
 refine⟨⟨⟨lvs,⟨⟨nv,hb.fr hf hg,hon.fr hf (λk hk hm=>?_)⟩,hbel hr.below hrn,hr.same,⟨b0,ht.own.fr hf (λk hk hm=>?_),ht.new⟩,λnv2 h1=>hr.newer nv2 (by rw[<-hf.cell (p:=(g,U3)) hb.lt hg];exact h1)⟩,λu hu k hk hm=>?_⟩,hR',h.st.ok,h.st.toks,h.st.long,hfr⟩,ho,λk hk=>?_,λk hk=>?_⟩
 . exact hon.gQ hown (by decide) hm hk
 . exact ht.own.gQ hown (by decide) hm hk
 . rcases hm with hm|hm
   . exact hnr u hu k hk (.inl hm)
   . rcases hv with e|e
     . exact hnr u hu k hk (.inr (by rw[<-e];exact hm))
     . have:=hlt u hu k hk
       rw[e] at hm;injection hm with hm;omega
 . rcases hv with e|e
   . rw[e] at hk;exact h.nr k hk
   . rw[e] at hk;injection hk with hk
     intro hR;have:=h1.res k (.inl hR);omega
 . rcases hv with e|e
   . rw[e] at hk;exact h.nw k hk
   . rw[e] at hk;injection hk with hk
     have:=h1.fr.size;omega
theorem StR.put (h:StR src tb tc ts g R w0 w s v l) (k line n:Nat) (hkv:((k:Nat):Int)=kv) (hnv:((n:Nat):Int)=nv){name:List UInt8} (hX:bs name=X) (hn:s.nodes.length≤1000000):
  Calls prog 139 #[(g,()),kv,line,nv,X,v] w λe w'=>e = .returned s.nodes.length∧St src tb tc ts g R w0 w' (bY k line n name l s).2:=by
 have h1:St src tb tc ts g R w0 w s:=by
  obtain⟨lvs,hr,hnr⟩:=h.st.rdr;exact⟨⟨lvs,hr,λu hu k hk hR=>hnr u hu k hk (.inl hR)⟩,λk hk=>h.st.res k (.inl hk),h.st.ok,h.st.toks,h.st.long,h.st.fr⟩
 exact h1.put k line n hkv hnv hX h.own h.nr hn
end
section
variable {src:List UInt8}{ts:List Tok}{s:PS}
theorem fB (k:Nat) (s:PS):(aQ ts k s).deep=s.deep:=by unfold aQ;split<;>rfl
theorem aX (x:List UInt8) (s:PS):(aA ts x s).deep=s.deep:=by
 unfold aA;split
 . rfl
 . exact fB 20 s
theorem fA (s:PS):(aF ts s).deep=s.deep:=by
 unfold aF;split
 . rfl
 . exact fB 20 s
theorem dU (s:PS):(aU ts s).deep=s.deep+1:=by
 unfold aU;simp only;split
 . rw[fB]
 . rfl
theorem kR (s:PS):(pGo s).deep=s.deep:=rfl
theorem rJ (s:PS):(pUp s).deep=s.deep - 1:=rfl
theorem nM (k line n:Nat) (name:List UInt8) (l:List Nat) (s:PS):(bY k line n name l s).2.deep=s.deep:=rfl
theorem iA:∀(n:Nat) (k:Task) (s:PS) (r:List Nat×PS),run src ts n k s=some r->r.2.deep=s.deep:=by
 intro n;induction n with
 | zero=>intro k s r h;simp[run] at h
 | succ n ih=>
  intro k s r h;cases k<;>simp only[run] at h<;>
   (repeat' split at h)<;>
   (try simp only[mS,bS,Option.some.injEq] at h)<;>
   (try (obtain⟨q1,h1,h⟩:=h))<;>
   (repeat' split at h)<;>
   (try simp only[mS,bS,Option.some.injEq] at h)<;>
   (try (obtain⟨q2,h2,h⟩:=h))<;>
   (repeat' split at h)<;>
   (try simp only[mS,bS,Option.some.injEq] at h)<;>
   (try (obtain⟨q3,h3,h⟩:=h))<;>
   (try subst h)<;>
   (try subst h1)<;>
   (try replace h1:=ih _ _ _ h1)<;>
   (try replace h2:=ih _ _ _ h2)<;>
   (try replace h3:=ih _ _ _ h3)<;>
   (try replace h:=ih _ _ _ h)<;>
   (try simp only[fB,aX,fA,dU,kR,rJ,nM] at h1)<;>
   (try simp only[fB,aX,fA,dU,kR,rJ,nM] at h2)<;>
   (try simp only[fB,aX,fA,dU,kR,rJ,nM] at h3)<;>
   (try simp only[fB,aX,fA,dU,kR,rJ,nM] at h)<;>
   (try simp only[fB,aX,fA,dU,kR,rJ,nM])<;>
   (try omega)
def aSk:Task->Prop
 | .args _=>False | .stmts _=>False|_=>True
def oneOf (l:List Nat):Nat:=l.headD 0
theorem aK:∀(n:Nat) (k:Task) (s:PS) (r:List Nat×PS),run src ts n k s=some r->aSk k->r.1=[oneOf r.1]:=by
 intro n;induction n with
 | zero=>intro k s r h;simp[run] at h
 | succ n ih=>
  intro k s r h ho;cases k<;>simp only[aSk] at ho<;>simp only[run] at h<;>
   (repeat' split at h)<;>
   (try simp only[mS,bS,Option.some.injEq] at h)<;>
   (try (obtain⟨q1,h1,h⟩:=h))<;>
   (repeat' split at h)<;>
   (try simp only[mS,bS,Option.some.injEq] at h)<;>
   (try (obtain⟨q2,h2,h⟩:=h))<;>
   (repeat' split at h)<;>
   (try simp only[mS,bS,Option.some.injEq] at h)<;>
   (try (obtain⟨q3,h3,h⟩:=h))<;>
   (try subst h)<;>
   (first|rfl|exact ih _ _ _ h trivial|(have h5:=ih _ _ _ h1 trivial;exact h5))
theorem aW {s t:PS} (h:Ext s t):s.nodes.length≤t.nodes.length:=by
 obtain⟨x,hx⟩:=h.nodes;rw[hx,List.length_append];omega
end
section
variable (src:ByteArray) (tb tc:Nat) (ts:List Tok) (g:Nat)
def Does (n:Nat) (k:Task) (F:FuncId) (args:Array Value):Prop:=
 ∀(R:Nat->Prop) (w0 w:World) (s:PS) (r:List Nat×PS),St src tb tc ts g R w0 w s->run src.data.toList ts n k s=some r->r.2.nodes.length≤1000000 ->
  Calls prog F args w λe w'=>e = .returned (oneOf r.1)∧St src tb tc ts g R w0 w' r.2
structure Good (n:Nat):Prop where
 atom:Does src tb tc ts g n .atom 224 #[(g,())]
 factor:Does src tb tc ts g n .factor 205 #[(g,())]
 chain:∀(lv:Nat) (z:Int),((lv:Nat):Int)=z->lv≤5->Does src tb tc ts g n (.chain lv) 192 #[(g,()),z]
 expr:Does src tb tc ts g n (.chain 0) 166 #[(g,())]
 call:Does src tb tc ts g n .call 191 #[(g,())]
 right:Does src tb tc ts g n .right 165 #[(g,())]
 block:Does src tb tc ts g n .block 93 #[(g,())]
 named:∀line:Nat,Does src tb tc ts g n (.named line) 167 #[(g,()),line]
 stmt:Does src tb tc ts g n .stmt 138 #[(g,())]
end
section
variable {src:ByteArray}{tb tc:Nat}{ts:List Tok}{g:Nat}{n:Nat}
theorem Does.zero (k:Task) (F:FuncId) (args:Array Value):Does src tb tc ts g 0 k F args:=by
 intro R w0 w s r h hr hn;simp[run] at hr
theorem aIg (h:∀(lv:Nat) (z:Int),((lv:Nat):Int)=z->lv≤5->Does src tb tc ts g n (.chain lv) 192 #[(g,()),z]):Does src tb tc ts g n (.chain 0) 166 #[(g,())]:=by
 intro R w0 w s r h1 hr hn;have HC:=hD (h 0 0 rfl (by decide) R w0 w s r h1 hr hn);clear h h1 hr hn;go_enter func166,ntmps166;go_wp2_with fail
 refine HC.o.mono ?_;rintro e w1 ⟨rfl,h1⟩;have S1:=hD h1;clear h1;go_wp2
 go_ret;exact⟨rfl,S1⟩
theorem zO (ih:∀m,m<n->Good src tb tc ts g m):Does src tb tc ts g n .factor 205 #[(g,())]:=by
 cases n with
 | zero=>exact Does.zero _ _ _
 | succ n=>
  intro R w0 w s r h hr hn;have IH:=hD (ih n (Nat.lt_succ_self n));have S0:=hD h;simp only[run] at hr;by_cases hm:pIs ts [45] s=true
  . rw[if_pos hm] at hr
    simp only[mS] at hr;obtain⟨q,hq,rfl⟩:=hr;have hd:=iA _ _ _ _ hq;rw[show (pGo (aU ts s)).deep=s.deep+1 from dU s] at hd;have hdl:=h.ok.fine (aL hm).1;have HDB:=hD (show (1:Int)≤(q.2.deep:Int)∧(q.2.deep:Int)≤20 by omega);have HD:=hD (show 1≤q.2.deep by omega);have hq1:=aK _ _ _ _ hq trivial;have hn2:q.2.nodes.length+1≤1000000:=by simpa[bY,pUp] using hn
    have HN:=hD (show q.2.nodes.length≤1000000 by omega);have HQ:=hD hq;have HM:=hD hm;have HO:=hD (h.ok.goDown h.toks hm);have H0:=hD (aL hm).1;rw[hq1];obtain⟨b,hb⟩:∃b,pIs ts [33] s=b:=⟨_,rfl⟩;have HB:=hD hb;clear hb;clear h ih hn hd hdl hn2 hq hm hq1;go_enter func205,ntmps205;go_wp2_with fail
    refine stepM (S0.o.line rfl) λw1 S1=>?_;go_wp2_with fail
    refine stepM (S1.o.is ⟨#[45]⟩ HM) λw2 S2=>?_;go_wp2_with fail
    refine stepM (S2.o.is ⟨#[33]⟩ (b:=b) HB) λw3 S3=>?_;go_wp2_with fail
    refine stepM (S3.o.down H0) λw4 S4=>?_;obtain⟨hg4,c14,c24,c44,c54,f24,f44⟩:=S4.o.cells;have hi4:=S4.o.i_le;go_wp2_with fail
    have HZ5:=hD (show (w4.setCell (g,U2) (((aU ts (s)).i:Int)+1:Int)).heap.size=w4.heap.size by simp);have S5:=hD (S4.o.go HO);clear hg4 c14 c24 c44 c54 f24 f44 hi4;generalize w4.setCell (g,U2) (((aU ts (s)).i:Int)+1:Int)=w5 at *;refine stepM (IH.o.factor _ _ _ _ _ S5 HQ HN) λw6 S6=>?_;obtain⟨hg6,c16,c26,c46,c56,f26,f46⟩:=S6.o.cells;have hi6:=S6.o.i_le;obtain⟨hl6,hu6⟩:=HDB.o;go_wp2_with fail
    have HZ7:=hD (show (w6.setCell (g,U4) (((q.2).deep:Int) - 1:Int)).heap.size=w6.heap.size by simp);have S7:=hD (S6.o.up HD);clear hg6 c16 c26 c46 c56 f26 f46 hi6 hl6 hu6;generalize w6.setCell (g,U4) (((q.2).deep:Int) - 1:Int)=w7 at *;refine stepM (S7.o.vS (oneOf q.1) HZ7 7 _ 0 rfl rfl (name:=[]) rfl HN) λw8 S8=>?_;go_wp2
    go_ret;exact⟨rfl,S8⟩
  . rw[if_neg hm] at hr
    have hb:pIs ts [45] s=false:=by simpa using hm
    clear hm;by_cases hm:pIs ts [33] s=true
    . rw[if_pos hm] at hr
      simp only[mS] at hr;obtain⟨q,hq,rfl⟩:=hr;have hd:=iA _ _ _ _ hq;rw[show (pGo (aU ts s)).deep=s.deep+1 from dU s] at hd;have hdl:=h.ok.fine (aL hm).1;have HDB:=hD (show (1:Int)≤(q.2.deep:Int)∧(q.2.deep:Int)≤20 by omega);have HD:=hD (show 1≤q.2.deep by omega);have hq1:=aK _ _ _ _ hq trivial;have hn2:q.2.nodes.length+1≤1000000:=by simpa[bY,pUp] using hn
      have HN:=hD (show q.2.nodes.length≤1000000 by omega);have HQ:=hD hq;have HM:=hD hm;have HO:=hD (h.ok.goDown h.toks hm);have H0:=hD (aL hm).1;rw[hq1];have HB:=hD hb;clear hb;clear h ih hn hd hdl hn2 hq hm hq1;go_enter func205,ntmps205;go_wp2_with fail
      refine stepM (S0.o.line rfl) λw1 S1=>?_;go_wp2_with fail
      refine stepM (S1.o.is ⟨#[45]⟩ HB) λw2 S2=>?_;go_wp2_with fail
      refine stepM (S2.o.is ⟨#[33]⟩ HM) λw3 S3=>?_;go_wp2_with fail
      refine stepM (S3.o.down H0) λw4 S4=>?_;obtain⟨hg4,c14,c24,c44,c54,f24,f44⟩:=S4.o.cells;have hi4:=S4.o.i_le;go_wp2_with fail
      have HZ5:=hD (show (w4.setCell (g,U2) (((aU ts (s)).i:Int)+1:Int)).heap.size=w4.heap.size by simp);have S5:=hD (S4.o.go HO);clear hg4 c14 c24 c44 c54 f24 f44 hi4;generalize w4.setCell (g,U2) (((aU ts (s)).i:Int)+1:Int)=w5 at *;refine stepM (IH.o.factor _ _ _ _ _ S5 HQ HN) λw6 S6=>?_;obtain⟨hg6,c16,c26,c46,c56,f26,f46⟩:=S6.o.cells;have hi6:=S6.o.i_le;obtain⟨hl6,hu6⟩:=HDB.o;go_wp2_with fail
      have HZ7:=hD (show (w6.setCell (g,U4) (((q.2).deep:Int) - 1:Int)).heap.size=w6.heap.size by simp);have S7:=hD (S6.o.up HD);clear hg6 c16 c26 c46 c56 f26 f46 hi6 hl6 hu6;generalize w6.setCell (g,U4) (((q.2).deep:Int) - 1:Int)=w7 at *;refine stepM (S7.o.vS (oneOf q.1) HZ7 8 _ 0 rfl rfl (name:=[]) rfl HN) λw8 S8=>?_;go_wp2
      go_ret;exact⟨rfl,S8⟩
    . rw[if_neg hm] at hr
      have HB:=hD hb;have HB2:=hD (show pIs ts [33] s=false by simpa using hm);have HQ:=hD hr;have HN:=hD hn;clear h ih hn hm hb hr;go_enter func205,ntmps205;go_wp2_with fail
      refine stepM (S0.o.line rfl) λw1 S1=>?_;go_wp2_with fail
      refine stepM (S1.o.is ⟨#[45]⟩ HB) λw2 S2=>?_;go_wp2_with fail
      refine stepM (S2.o.is ⟨#[33]⟩ HB2) λw3 S3=>?_;go_wp2_with fail
      refine stepM (IH.o.atom _ _ _ _ _ S3 HQ HN) λw4 S4=>?_;go_wp2
      go_ret;exact⟨rfl,S4⟩
end
section
variable {src:ByteArray}{tb tc:Nat}{ts:List Tok}{g:Nat}{n:Nat}
theorem aCi (ih:∀m,m<n->Good src tb tc ts g m):Does src tb tc ts g n .right 165 #[(g,())]:=by
 cases n with
 | zero=>exact Does.zero _ _ _
 | succ n=>
  intro R w0 w s r h hr hn;have IH:=hD (ih n (Nat.lt_succ_self n));have S0:=hD h;simp only[run] at hr;by_cases hm:pIs ts [105,110,112,117,116] s=true
  . rw[if_pos hm] at hr
    simp only[Option.some.injEq] at hr;subst hr;have hn2:s.nodes.length+1≤1000000:=by simpa[bY,pGo] using hn
    have HN:=hD (show s.nodes.length≤1000000 by omega);have HM:=hD hm;have HO:=hD (h.ok.kE h.toks hm);clear h ih hn hn2 hm;go_enter func165,ntmps165;go_wp2_with fail
    refine stepM (S0.o.line rfl) λw1 S1=>?_;go_wp2_with fail
    refine stepM (S1.o.is ⟨#[105,110,112,117,116]⟩ HM) λw2 S2=>?_;obtain⟨hg2,c12,c22,c42,c52,f22,f42⟩:=S2.o.cells;have hi2:=S2.o.i_le;go_wp2_with fail
    have S3:=hD (S2.o.go HO);clear hg2 c12 c22 c42 c52 f22 f42 hi2;generalize w2.setCell (g,U2) (((s).i:Int)+1:Int)=w3 at *;refine stepM (S3.o.uW 19 _ 0 rfl rfl (name:=[]) rfl HN) λw4 S4=>?_;go_wp2
    go_ret;exact⟨rfl,S4⟩
  . rw[if_neg hm] at hr
    have HA:=hD (show pIs ts [105,110,112,117,116] s=false by simpa using hm);clear hm;by_cases hm:pIs ts [110,101,119] s=true
    . rw[if_pos hm] at hr
      simp only[mS] at hr;obtain⟨q,hq,rfl⟩:=hr;have hq1:=aK _ _ _ _ hq trivial;have hn2:(aA ts [41] q.2).nodes.length+1≤1000000:=by simpa[bY] using hn
      have HN:=hD (show (aA ts [41] q.2).nodes.length≤1000000 by omega);have HN1:=hD (Nat.le_trans (aW ((Ext.refl q.2).must (ts:=ts) [41])) HN);have HM:=hD hm;have HO:=hD (h.ok.kE h.toks hm);have HQ:=hD hq;rw[hq1];clear h ih hn hn2 hm hq hq1;go_enter func165,ntmps165;go_wp2_with fail
      refine stepM (S0.o.line rfl) λw1 S1=>?_;go_wp2_with fail
      refine stepM (S1.o.is ⟨#[105,110,112,117,116]⟩ HA) λw2 S2=>?_;go_wp2_with fail
      refine stepM (S2.o.is ⟨#[110,101,119]⟩ HM) λw3 S3=>?_;obtain⟨hg3,c13,c23,c43,c53,f23,f43⟩:=S3.o.cells;have hi3:=S3.o.i_le;go_wp2_with fail
      have S4:=hD (S3.o.go HO);clear hg3 c13 c23 c43 c53 f23 f43 hi3;generalize w3.setCell (g,U2) (((s).i:Int)+1:Int)=w4 at *;refine stepM (S4.o.must ⟨#[40]⟩) λw5 S5=>?_;go_wp2_with fail
      refine stepM (IH.o.expr _ _ _ _ _ S5 HQ HN1) λw6 S6=>?_;go_wp2_with fail
      refine stepM (S6.o.must ⟨#[41]⟩) λw7 S7=>?_;go_wp2_with fail
      refine stepM (S7.o.vS (oneOf q.1) rfl 20 _ 0 rfl rfl (name:=[]) rfl HN) λw8 S8=>?_;go_wp2
      go_ret;exact⟨rfl,S8⟩
    . rw[if_neg hm] at hr
      have HB:=hD (show pIs ts [110,101,119] s=false by simpa using hm);clear hm;have HN:=hD hn;by_cases hm:eP ts s=true
      . rw[if_pos hm] at hr
        have HM:=hD hm;have HQ:=hD hr;clear h ih hn hm hr;go_enter func165,ntmps165;go_wp2_with fail
        refine stepM (S0.o.line rfl) λw1 S1=>?_;go_wp2_with fail
        refine stepM (S1.o.is ⟨#[105,110,112,117,116]⟩ HA) λw2 S2=>?_;go_wp2_with fail
        refine stepM (S2.o.is ⟨#[110,101,119]⟩ HB) λw3 S3=>?_;go_wp2_with fail
        refine stepM (S3.o.calls HM) λw4 S4=>?_;go_wp2_with fail
        refine stepM (IH.o.call _ _ _ _ _ S4 HQ HN) λw5 S5=>?_;go_wp2
        go_ret;exact⟨rfl,S5⟩
      . rw[if_neg hm] at hr
        have HM:=hD (show eP ts s=false by simpa using hm);have HQ:=hD hr;clear h ih hn hm hr;go_enter func165,ntmps165;go_wp2_with fail
        refine stepM (S0.o.line rfl) λw1 S1=>?_;go_wp2_with fail
        refine stepM (S1.o.is ⟨#[105,110,112,117,116]⟩ HA) λw2 S2=>?_;go_wp2_with fail
        refine stepM (S2.o.is ⟨#[110,101,119]⟩ HB) λw3 S3=>?_;go_wp2_with fail
        refine stepM (S3.o.calls HM) λw4 S4=>?_;go_wp2_with fail
        refine stepM (IH.o.expr _ _ _ _ _ S4 HQ HN) λw5 S5=>?_;go_wp2
        go_ret;exact⟨rfl,S5⟩
end
section
variable {src:ByteArray}{tb tc:Nat}{ts:List Tok}{g:Nat}{n:Nat}
theorem aDi (ih:∀m,m<n->Good src tb tc ts g m) (line:Nat):Does src tb tc ts g n (.named line) 167 #[(g,()),line]:=by
 cases n with
 | zero=>exact Does.zero _ _ _
 | succ n=>
  intro R w0 w s r h hr hn;have IH:=hD (ih n (Nat.lt_succ_self n));have S0:=hD h;simp only[run] at hr;by_cases hm:eP ts s=true
  . rw[if_pos hm] at hr
    simp only[mS] at hr;obtain⟨q,hq,rfl⟩:=hr;have hq1:=aK _ _ _ _ hq trivial;have hn2:(aA ts [59] q.2).nodes.length+1≤1000000:=by simpa[bY] using hn
    have HN:=hD (show (aA ts [59] q.2).nodes.length≤1000000 by omega);have HN1:=hD (Nat.le_trans (aW ((Ext.refl q.2).must (ts:=ts) [59])) HN);have HM:=hD hm;have HQ:=hD hq;rw[hq1];clear h ih hn hn2 hm hq hq1;go_enter func167,ntmps167;go_wp2_with fail
    refine stepM (S0.o.calls HM) λw1 S1=>?_;go_wp2_with fail
    refine stepM (IH.o.call _ _ _ _ _ S1 HQ HN1) λw2 S2=>?_;go_wp2_with fail
    refine stepM (S2.o.must ⟨#[59]⟩) λw3 S3=>?_;go_wp2_with fail
    refine stepM (S3.o.vS (oneOf q.1) rfl 13 _ 0 rfl rfl (name:=[]) rfl HN) λw4 S4=>?_;go_wp2
    go_ret;exact⟨rfl,S4⟩
  . rw[if_neg hm] at hr
    have HM:=hD (show eP ts s=false by simpa using hm);clear hm;by_cases hm:pIs ts [91] (aF ts s)=true
    . rw[if_pos hm] at hr
      simp only[mS,bS] at hr;obtain⟨q,hq,u,hu,rfl⟩:=hr;have hq1:=aK _ _ _ _ hq trivial;have hu1:=aK _ _ _ _ hu trivial;have hd:=iA _ _ _ _ hq;rw[aX,dU,fA] at hd;have hdl:=(h.ok.named h.toks).fine (aL hm).1;rw[fA] at hdl;have HDB:=hD (show (1:Int)≤((aA ts [93] q.2).deep:Int)∧((aA ts [93] q.2).deep:Int)≤20 by rw[aX];omega);have HD:=hD (show 1≤(aA ts [93] q.2).deep by rw[aX];omega);have hn2:(aA ts [59] u.2).nodes.length+1≤1000000:=by simpa[bY] using hn
      have HN:=hD (show (aA ts [59] u.2).nodes.length≤1000000 by omega);have HN1:=hD (Nat.le_trans (aW ((Ext.refl u.2).must (ts:=ts) [59])) HN);have HN2:=hD (Nat.le_trans (aW (((((Ext.refl q.2).must (ts:=ts) [93]).up).must (ts:=ts) [61]).trans (aI _ _ _ _ hu))) HN1);have HB:=hD hm;have H0:=hD (aL hm).1;have HQ:=hD hq;have HU:=hD hu;rw[hq1,hu1];clear h ih hn hn2 hm hq hq1 hu hu1 hd hdl;rw[show [oneOf q.1]++[oneOf u.1]=[oneOf q.1,oneOf u.1] from rfl];go_enter func167,ntmps167;go_wp2_with fail
      refine stepM (S0.o.calls HM) λw1 S1=>?_;go_wp2_with fail
      refine stepM (S1.o.name rfl) λw2 S2=>?_;go_wp2_with fail
      refine stepM (S2.o.is ⟨#[91]⟩ HB) λw3 S3=>?_;go_wp2_with fail
      refine stepM (S3.o.down H0) λw4 S4=>?_;go_wp2_with fail
      refine stepM (S4.o.must ⟨#[91]⟩) λw5 S5=>?_;go_wp2_with fail
      refine stepM (IH.o.expr _ _ _ _ _ S5 HQ HN2) λw6 S6=>?_;go_wp2_with fail
      refine stepM (S6.o.must ⟨#[93]⟩) λw7 S7=>?_;obtain⟨hg7,c17,c27,c47,c57,f27,f47⟩:=S7.o.cells;have hi7:=S7.o.i_le;obtain⟨hl7,hu7⟩:=HDB.o;go_wp2_with fail
      have S8:=hD (S7.o.up HD);clear hg7 c17 c27 c47 c57 f27 f47 hi7 hl7 hu7;generalize w7.setCell (g,U4) (((aA ts [93] (q.2)).deep:Int) - 1:Int)=w8 at *;refine stepM (S8.o.must ⟨#[61]⟩) λw9 S9=>?_;go_wp2_with fail
      refine stepM (IH.o.expr _ _ _ _ _ S9 HU HN1) λw10 S10=>?_;go_wp2_with fail
      refine stepM (S10.o.must ⟨#[59]⟩) λw11 S11=>?_;go_wp2_with fail
      refine stepM (S11.o.aNc (oneOf q.1) (oneOf u.1) rfl 12 _ 0 rfl rfl (name:=(dH ts s)) rfl HN) λw12 S12=>?_;go_wp2
      go_ret;exact⟨rfl,S12⟩
    . rw[if_neg hm] at hr
      simp only[mS] at hr;obtain⟨q,hq,rfl⟩:=hr;have hq1:=aK _ _ _ _ hq trivial;have hn2:(aA ts [59] q.2).nodes.length+1≤1000000:=by simpa[bY] using hn
      have HN:=hD (show (aA ts [59] q.2).nodes.length≤1000000 by omega);have HN1:=hD (Nat.le_trans (aW ((Ext.refl q.2).must (ts:=ts) [59])) HN);have HB:=hD (show pIs ts [91] (aF ts s)=false by simpa using hm);have HQ:=hD hq;rw[hq1];clear h ih hn hn2 hm hq hq1;go_enter func167,ntmps167;go_wp2_with fail
      refine stepM (S0.o.calls HM) λw1 S1=>?_;go_wp2_with fail
      refine stepM (S1.o.name rfl) λw2 S2=>?_;go_wp2_with fail
      refine stepM (S2.o.is ⟨#[91]⟩ HB) λw3 S3=>?_;go_wp2_with fail
      refine stepM (S3.o.must ⟨#[61]⟩) λw4 S4=>?_;go_wp2_with fail
      refine stepM (IH.o.right _ _ _ _ _ S4 HQ HN1) λw5 S5=>?_;go_wp2_with fail
      refine stepM (S5.o.must ⟨#[59]⟩) λw6 S6=>?_;go_wp2_with fail
      refine stepM (S6.o.vS (oneOf q.1) rfl 11 _ 0 rfl rfl (name:=(dH ts s)) rfl HN) λw7 S7=>?_;go_wp2
      go_ret;exact⟨rfl,S7⟩
end
section
variable {src:ByteArray}{tb tc:Nat}{ts:List Tok}{g:Nat}{n:Nat}
theorem wB {src:List UInt8}{n:Nat} (h:run src ts n .stmt s=some r):s.nodes.length+1≤r.2.nodes.length:=by
 have key:∀{t:PS},Ext s t->∀(k line m:Nat) (name:List UInt8) (l:List Nat),s.nodes.length+1≤(bY k line m name l t).2.nodes.length:=λh k line m name l=>by
  have:=aW h;simp[bY];omega
 have named:∀{n line:Nat} {r:List Nat×PS},run src ts n (.named line) s=some r->s.nodes.length+1≤r.2.nodes.length:=by
  intro n line r h;cases n with
  | zero=>simp[run] at h
  | succ n=>
    simp only[run] at h
    (repeat' split at h)<;>
    (try simp only[mS,bS] at h)<;>
    (try (obtain⟨q1,h1,h⟩:=h))<;>
    (try (obtain⟨q2,h2,h⟩:=h))<;>
    (try subst h)<;>
    (refine key ?_ _ _ _ _ _)<;>
    (repeat (first
      | exact Ext.refl _
      | apply Ext.up
      | apply Ext.must
      | (refine Ext.trans ?_ (aI _ _ _ _ (by assumption)))
      | apply Ext.named
      | apply Ext.go
      | apply Ext.down
      | dsimp only))
 cases n with
 | zero=>simp[run] at h
 | succ n=>
  simp only[run] at h
  (repeat' split at h)<;>
    (try simp only[mS,bS,Option.some.injEq] at h)<;>
    (first|exact named h|skip)<;>
    (try (obtain⟨q1,h1,h⟩:=h))<;>
    (try (obtain⟨q2,h2,h⟩:=h))<;>
    (repeat' split at h)<;>
    (try simp only[mS,bS,Option.some.injEq] at h)<;>
    (try (obtain⟨q3,h3,h⟩:=h))<;>
    (try subst h)<;>
    (refine key ?_ _ _ _ _ _)<;>
    (repeat (first
      | exact Ext.refl _
      | apply Ext.up
      | apply Ext.must
      | (refine Ext.trans ?_ (aI _ _ _ _ (by assumption)))
      | apply Ext.named
      | apply Ext.go
      | apply Ext.down
      | dsimp only))
theorem aLj (ih:Good src tb tc ts g n) (h:St src tb tc ts g R w0 w s) (hw:bQ ts s=[108,101,116]) (hr:((run src.data.toList ts n .right (aA ts [61] (aF ts (pGo s)))).map λr=>bY 10 (aR src.data.toList ts s) 0 (dH ts (pGo s)) r.1 (aA ts [59] r.2))=some r) (hn:r.2.nodes.length≤1000000):
  Calls prog 138 #[(g,())] w λe w'=>e = .returned (oneOf r.1)∧St src tb tc ts g R w0 w' r.2:=by
 have IH:=hD ih;have S0:=hD h;have HW:=hD (show bs (bQ ts s)=⟨#[108,101,116]⟩ by rw[hw];rfl);have HO:=hD (h.ok.dS h.toks hw (by decide));simp only[mS] at hr;obtain⟨q,hq,rfl⟩:=hr;have hq1:=aK _ _ _ _ hq trivial;have hn2:(aA ts [59] q.2).nodes.length+1≤1000000:=by simpa[bY] using hn
 have HN:=hD (show (aA ts [59] q.2).nodes.length≤1000000 by omega);have HN1:=hD (Nat.le_trans (aW ((Ext.refl q.2).must (ts:=ts) [59])) HN);have HQ:=hD hq;rw[hq1];clear h ih hn hn2 hq hq1 hw;go_enter func138,ntmps138;go_wp2_with fail
 refine stepM (S0.o.line rfl) λw1 S1=>?_;go_wp2_with fail
 refine stepM (S1.o.word HW) λw2 S2=>?_;obtain⟨hg2,c12,c22,c42,c52,f22,f42⟩:=S2.o.cells;have hi2:=S2.o.i_le;go_wp2_with fail
 have S3:=hD (S2.o.go HO);clear hg2 c12 c22 c42 c52 f22 f42 hi2;generalize w2.setCell (g,U2) (((s).i:Int)+1:Int)=w3 at *;refine stepM (S3.o.name rfl) λw4 S4=>?_;go_wp2_with fail
 refine stepM (S4.o.must ⟨#[61]⟩) λw5 S5=>?_;go_wp2_with fail
 refine stepM (IH.o.right _ _ _ _ _ S5 HQ HN1) λw6 S6=>?_;go_wp2_with fail
 refine stepM (S6.o.must ⟨#[59]⟩) λw7 S7=>?_;go_wp2_with fail
 refine stepM (S7.o.vS (oneOf q.1) rfl 10 _ 0 rfl rfl (name:=(dH ts (pGo s))) rfl HN) λw8 S8=>?_;go_wp2
 go_ret;exact⟨rfl,S8⟩
theorem aDf (ih:Good src tb tc ts g n) (h:St src tb tc ts g R w0 w s) (hw:bQ ts s=[112,114,105,110,116]) (hr:((run src.data.toList ts n (.chain 0) (pGo s)).map λr=>bY 14 (aR src.data.toList ts s) 0 [] r.1 (aA ts [59] r.2))=some r) (hn:r.2.nodes.length≤1000000):
  Calls prog 138 #[(g,())] w λe w'=>e = .returned (oneOf r.1)∧St src tb tc ts g R w0 w' r.2:=by
 have IH:=hD ih;have S0:=hD h;have HW:=hD (show bs (bQ ts s)=⟨#[112,114,105,110,116]⟩ by rw[hw];rfl);have HO:=hD (h.ok.dS h.toks hw (by decide));simp only[mS] at hr;obtain⟨q,hq,rfl⟩:=hr;have hq1:=aK _ _ _ _ hq trivial;have hn2:(aA ts [59] q.2).nodes.length+1≤1000000:=by simpa[bY] using hn
 have HN:=hD (show (aA ts [59] q.2).nodes.length≤1000000 by omega);have HN1:=hD (Nat.le_trans (aW ((Ext.refl q.2).must (ts:=ts) [59])) HN);have HQ:=hD hq;rw[hq1];clear h ih hn hn2 hq hq1 hw;go_enter func138,ntmps138;go_wp2_with fail
 refine stepM (S0.o.line rfl) λw1 S1=>?_;go_wp2_with fail
 refine stepM (S1.o.word HW) λw2 S2=>?_;obtain⟨hg2,c12,c22,c42,c52,f22,f42⟩:=S2.o.cells;have hi2:=S2.o.i_le;go_wp2_with fail
 have S3:=hD (S2.o.go HO);clear hg2 c12 c22 c42 c52 f22 f42 hi2;generalize w2.setCell (g,U2) (((s).i:Int)+1:Int)=w3 at *;refine stepM (IH.o.expr _ _ _ _ _ S3 HQ HN1) λw4 S4=>?_;go_wp2_with fail
 refine stepM (S4.o.must ⟨#[59]⟩) λw5 S5=>?_;go_wp2_with fail
 refine stepM (S5.o.vS (oneOf q.1) rfl 14 _ 0 rfl rfl (name:=[]) rfl HN) λw6 S6=>?_;go_wp2
 go_ret;exact⟨rfl,S6⟩
theorem aBq (ih:Good src tb tc ts g n) (h:St src tb tc ts g R w0 w s) (hw:bQ ts s=[119,104,105,108,101]) (hr:((run src.data.toList ts n (.chain 0) (pGo s)).bind λr=>(run src.data.toList ts n .block r.2).map λb=>bY 16 (aR src.data.toList ts s) 0 [] (r.1++b.1) b.2)=some r) (hn:r.2.nodes.length≤1000000):
  Calls prog 138 #[(g,())] w λe w'=>e = .returned (oneOf r.1)∧St src tb tc ts g R w0 w' r.2:=by
 have IH:=hD ih;have S0:=hD h;have HW:=hD (show bs (bQ ts s)=⟨#[119,104,105,108,101]⟩ by rw[hw];rfl);have HO:=hD (h.ok.dS h.toks hw (by decide));simp only[mS,bS] at hr;obtain⟨q,hq,u,hu,rfl⟩:=hr;have hq1:=aK _ _ _ _ hq trivial;have hu1:=aK _ _ _ _ hu trivial;have hn2:u.2.nodes.length+1≤1000000:=by simpa[bY] using hn
 have HN:=hD (show u.2.nodes.length≤1000000 by omega);have HN1:=hD (Nat.le_trans (aW (aI _ _ _ _ hu)) HN);have HQ:=hD hq;have HU:=hD hu;rw[hq1,hu1];clear h ih hn hn2 hq hq1 hu hu1 hw;rw[show [oneOf q.1]++[oneOf u.1]=[oneOf q.1,oneOf u.1] from rfl];go_enter func138,ntmps138;go_wp2_with fail
 refine stepM (S0.o.line rfl) λw1 S1=>?_;go_wp2_with fail
 refine stepM (S1.o.word HW) λw2 S2=>?_;obtain⟨hg2,c12,c22,c42,c52,f22,f42⟩:=S2.o.cells;have hi2:=S2.o.i_le;go_wp2_with fail
 have S3:=hD (S2.o.go HO);clear hg2 c12 c22 c42 c52 f22 f42 hi2;generalize w2.setCell (g,U2) (((s).i:Int)+1:Int)=w3 at *;refine stepM (IH.o.expr _ _ _ _ _ S3 HQ HN1) λw4 S4=>?_;go_wp2_with fail
 refine stepM (IH.o.block _ _ _ _ _ S4 HU HN) λw5 S5=>?_;go_wp2_with fail
 refine stepM (S5.o.aNc (oneOf q.1) (oneOf u.1) rfl 16 _ 0 rfl rfl (name:=[]) rfl HN) λw6 S6=>?_;go_wp2
 go_ret;exact⟨rfl,S6⟩
theorem aOr (ih:Good src tb tc ts g n) (h:St src tb tc ts g R w0 w s) (hw:bQ ts s=[105,102]) (hr:((run src.data.toList ts n (.chain 0) (pGo s)).bind λr=>(run src.data.toList ts n .block r.2).bind λb=>
    if pIs ts [101,108,115,101] b.2 then (run src.data.toList ts n .block (pGo b.2)).map λc=>bY 15 (aR src.data.toList ts s) 0 [] (r.1++b.1++c.1) c.2
    else some (bY 15 (aR src.data.toList ts s) 0 [] (r.1++b.1) b.2))=some r) (hn:r.2.nodes.length≤1000000):
   Calls prog 138 #[(g,())] w λe w'=>e = .returned (oneOf r.1)∧St src tb tc ts g R w0 w' r.2:=by
 have IH:=hD ih;have S0:=hD h;have HW:=hD (show bs (bQ ts s)=⟨#[105,102]⟩ by rw[hw];rfl);have HO:=hD (h.ok.dS h.toks hw (by decide));simp only[bS] at hr;obtain⟨q,hq,u,hu,hr⟩:=hr;have hq1:=aK _ _ _ _ hq trivial;have hu1:=aK _ _ _ _ hu trivial;have hgo:=h.ok.dS h.toks hw (by decide);have hok:=fJ h.toks _ _ _ _ hu (fJ h.toks _ _ _ _ hq hgo);rw[hq1,hu1] at hr;rw[show [oneOf q.1]++[oneOf u.1]=[oneOf q.1,oneOf u.1] from rfl] at hr;split at hr
 . rename_i hm
   simp only[mS] at hr;obtain⟨c,hc,rfl⟩:=hr;have hc1:=aK _ _ _ _ hc trivial;have hn2:c.2.nodes.length+1≤1000000:=by simpa[bY] using hn
   have HN:=hD (show c.2.nodes.length≤1000000 by omega);have HN1:=hD (Nat.le_trans (aW (((Ext.refl u.2).go).trans (aI _ _ _ _ hc))) HN);have HN2:=hD (Nat.le_trans (aW (aI _ _ _ _ hu)) HN1);have HQ:=hD hq;have HU:=hD hu;have HC:=hD hc;have HM:=hD hm;have HP:=hD (hok.kE h.toks hm);rw[hc1];rw[show [oneOf q.1,oneOf u.1]++[oneOf c.1]=[oneOf q.1,oneOf u.1,oneOf c.1] from rfl];clear h ih hn hn2 hq hq1 hu hu1 hw hc hc1 hm hok hgo;go_enter func138,ntmps138;go_wp2_with fail
   refine stepM (S0.o.line rfl) λw1 S1=>?_;go_wp2_with fail
   refine stepM (S1.o.word HW) λw2 S2=>?_;obtain⟨hg2,c12,c22,c42,c52,f22,f42⟩:=S2.o.cells;have hi2:=S2.o.i_le;go_wp2_with fail
   have HZ3:=hD (show (w2.setCell (g,U2) (((s).i:Int)+1:Int)).heap.size=w2.heap.size by simp);have S3:=hD (S2.o.go HO);clear hg2 c12 c22 c42 c52 f22 f42 hi2;generalize w2.setCell (g,U2) (((s).i:Int)+1:Int)=w3 at *;refine stepM (IH.o.expr _ _ _ _ _ S3 HQ HN2) λw4 S4=>?_;go_wp2_with fail
   refine stepM (IH.o.block _ _ _ _ _ S4 HU HN1) λw5 S5=>?_;go_wp2_with fail
   have S6:=hD (S5.o.aRd (oneOf q.1) (oneOf u.1) rfl);refine stepM (S6.o.step (S6.o.here.is ⟨#[101,108,115,101]⟩ HM)) λw7 S7=>?_;obtain⟨hg7,c17,c27,c47,c57,f27,f47⟩:=S7.o.st.cells;have hi7:=S7.o.st.i_le;go_wp2_with fail
   have S8:=hD (S7.o.go HP);clear hg7 c17 c27 c47 c57 f27 f47 hi7;generalize w7.setCell (g,U2) (((u.2).i:Int)+1:Int)=w8 at *;refine stepM (S8.o.step (IH.o.block _ _ _ _ _ S8.o.here HC HN)) λw9 S9=>?_;go_wp2_with (at_builtin;go_loud (refine aN (m:=1) (news:=[oneOf c.1]) rfl _ _ rfl iG rfl rfl (S9.o.own.alloc _) (Rd.gG (n:=1) (cs:=[oneOf c.1]) (Blk.new _ _ _) rfl (by decide)) (by simp[Value.oneCell']) (by simp[maxLen]) (by simp[maxLen]) ?_);intro A10 c10 w10 ho10 hf10 hv10;have S10:=hD (S9.o.app (kM ho10) hf10 hv10);clear ho10 hf10 hv10)
   refine stepM (S10.o.put 15 _ 0 rfl rfl (name:=[]) rfl HN) λw11 S11=>?_;go_wp2
   go_ret;exact⟨rfl,S11⟩
 . rename_i hm
   simp only[Option.some.injEq] at hr;subst hr;have hn2:u.2.nodes.length+1≤1000000:=by simpa[bY] using hn
   have HN:=hD (show u.2.nodes.length≤1000000 by omega);have HN2:=hD (Nat.le_trans (aW (aI _ _ _ _ hu)) HN);have HQ:=hD hq;have HU:=hD hu;have HM:=hD (show pIs ts [101,108,115,101] u.2=false by simpa using hm);clear h ih hn hn2 hq hq1 hu hu1 hw hm hok hgo;go_enter func138,ntmps138;go_wp2_with fail
   refine stepM (S0.o.line rfl) λw1 S1=>?_;go_wp2_with fail
   refine stepM (S1.o.word HW) λw2 S2=>?_;obtain⟨hg2,c12,c22,c42,c52,f22,f42⟩:=S2.o.cells;have hi2:=S2.o.i_le;go_wp2_with fail
   have HZ3:=hD (show (w2.setCell (g,U2) (((s).i:Int)+1:Int)).heap.size=w2.heap.size by simp);have S3:=hD (S2.o.go HO);clear hg2 c12 c22 c42 c52 f22 f42 hi2;generalize w2.setCell (g,U2) (((s).i:Int)+1:Int)=w3 at *;refine stepM (IH.o.expr _ _ _ _ _ S3 HQ HN2) λw4 S4=>?_;go_wp2_with fail
   refine stepM (IH.o.block _ _ _ _ _ S4 HU HN) λw5 S5=>?_;go_wp2_with fail
   have S6:=hD (S5.o.aRd (oneOf q.1) (oneOf u.1) rfl);refine stepM (S6.o.step (S6.o.here.is ⟨#[101,108,115,101]⟩ HM)) λw7 S7=>?_;go_wp2_with fail
   refine stepM (S7.o.put 15 _ 0 rfl rfl (name:=[]) rfl HN) λw8 S8=>?_;go_wp2
   go_ret;exact⟨rfl,S8⟩
theorem yI (ih:Good src tb tc ts g n) (h:St src tb tc ts g R w0 w s) (hw:bQ ts s=[114,101,116,117,114,110]) (hr:(if pIs ts [59] (pGo s) then some (bY 17 (aR src.data.toList ts s) 0 [] [] (aA ts [59] (pGo s)))
    else (run src.data.toList ts n (.chain 0) (pGo s)).map λr=>bY 17 (aR src.data.toList ts s) 0 [] r.1 (aA ts [59] r.2))=some r) (hn:r.2.nodes.length≤1000000):
   Calls prog 138 #[(g,())] w λe w'=>e = .returned (oneOf r.1)∧St src tb tc ts g R w0 w' r.2:=by
 have IH:=hD ih;have S0:=hD h;have HW:=hD (show bs (bQ ts s)=⟨#[114,101,116,117,114,110]⟩ by rw[hw];rfl);have HO:=hD (h.ok.dS h.toks hw (by decide));split at hr
 . rename_i hm
   simp only[Option.some.injEq] at hr;subst hr;have hn2:(aA ts [59] (pGo s)).nodes.length+1≤1000000:=by simpa[bY] using hn
   have HN:=hD (show (aA ts [59] (pGo s)).nodes.length≤1000000 by omega);have HM:=hD hm;clear h ih hn hn2 hw hm;go_enter func138,ntmps138;go_wp2_with fail
   refine stepM (S0.o.line rfl) λw1 S1=>?_;go_wp2_with fail
   refine stepM (S1.o.word HW) λw2 S2=>?_;obtain⟨hg2,c12,c22,c42,c52,f22,f42⟩:=S2.o.cells;have hi2:=S2.o.i_le;go_wp2_with fail
   have HZ3:=hD (show (w2.setCell (g,U2) (((s).i:Int)+1:Int)).heap.size=w2.heap.size by simp);have S3:=hD (S2.o.go HO);clear hg2 c12 c22 c42 c52 f22 f42 hi2;generalize w2.setCell (g,U2) (((s).i:Int)+1:Int)=w3 at *;have S4:=hD (S3.o.row0 (.cells #[] 3) (some (w2.heap.size,())));refine stepM (S4.o.step (S4.o.here.is ⟨#[59]⟩ HM)) λw5 S5=>?_;go_wp2_with fail
   refine stepM (S5.o.step (S5.o.here.must ⟨#[59]⟩)) λw6 S6=>?_;go_wp2_with fail
   refine stepM (S6.o.put 17 _ 0 rfl rfl (name:=[]) rfl HN) λw7 S7=>?_;go_wp2
   go_ret;exact⟨rfl,S7⟩
 . rename_i hm
   simp only[mS] at hr;obtain⟨q,hq,rfl⟩:=hr;have hq1:=aK _ _ _ _ hq trivial;have hn2:(aA ts [59] q.2).nodes.length+1≤1000000:=by simpa[bY] using hn
   have HN:=hD (show (aA ts [59] q.2).nodes.length≤1000000 by omega);have HN1:=hD (Nat.le_trans (aW ((Ext.refl q.2).must (ts:=ts) [59])) HN);have HQ:=hD hq;have HM:=hD (show pIs ts [59] (pGo s)=false by simpa using hm);rw[hq1];clear h ih hn hn2 hq hq1 hw hm;go_enter func138,ntmps138;go_wp2_with fail
   refine stepM (S0.o.line rfl) λw1 S1=>?_;go_wp2_with fail
   refine stepM (S1.o.word HW) λw2 S2=>?_;obtain⟨hg2,c12,c22,c42,c52,f22,f42⟩:=S2.o.cells;have hi2:=S2.o.i_le;go_wp2_with fail
   have HZ3:=hD (show (w2.setCell (g,U2) (((s).i:Int)+1:Int)).heap.size=w2.heap.size by simp);have S3:=hD (S2.o.go HO);clear hg2 c12 c22 c42 c52 f22 f42 hi2;generalize w2.setCell (g,U2) (((s).i:Int)+1:Int)=w3 at *;have S4:=hD (S3.o.row0 (.cells #[] 3) (some (w2.heap.size,())));refine stepM (S4.o.step (S4.o.here.is ⟨#[59]⟩ HM)) λw5 S5=>?_;go_wp2_with fail
   refine stepM (S5.o.step (IH.o.expr _ _ _ _ _ S5.o.here HQ HN1)) λw6 S6=>?_;go_wp2_with (at_builtin;go_loud (refine aN (m:=1) (news:=[oneOf q.1]) rfl _ _ rfl iG rfl rfl (S6.o.own.alloc _) (Rd.gG (n:=1) (cs:=[oneOf q.1]) (Blk.new _ _ _) rfl (by decide)) (by simp[Value.oneCell']) (by simp[maxLen]) (by simp[maxLen]) ?_);intro A7 c7 w7 ho7 hf7 hv7;have S7:=hD (S6.o.app (kM ho7) hf7 hv7);clear ho7 hf7 hv7)
   refine stepM (S7.o.step (S7.o.here.must ⟨#[59]⟩)) λw8 S8=>?_;go_wp2_with fail
   refine stepM (S8.o.put 17 _ 0 rfl rfl (name:=[]) rfl HN) λw9 S9=>?_;go_wp2
   go_ret;exact⟨rfl,S9⟩
theorem aFd (ih:∀m,m<n->Good src tb tc ts g m):Does src tb tc ts g n .stmt 138 #[(g,())]:=by
 cases n with
 | zero=>exact Does.zero _ _ _
 | succ n=>
  intro R w0 w s r h hr hn;have ih0:=ih n (Nat.lt_succ_self n);have IH:=hD (ih n (Nat.lt_succ_self n));have S0:=hD h;simp only[run] at hr;by_cases hwlet:bQ ts s=[108,101,116]
  . rw[if_pos hwlet] at hr;exact aLj ih0 h hwlet hr hn
  . rw[if_neg hwlet] at hr
    by_cases hwprint:bQ ts s=[112,114,105,110,116]
    . rw[if_pos hwprint] at hr;exact aDf ih0 h hwprint hr hn
    . rw[if_neg hwprint] at hr
      by_cases hwwhile:bQ ts s=[119,104,105,108,101]
      . rw[if_pos hwwhile] at hr;exact aBq ih0 h hwwhile hr hn
      . rw[if_neg hwwhile] at hr
        by_cases hwif:bQ ts s=[105,102]
        . rw[if_pos hwif] at hr;exact aOr ih0 h hwif hr hn
        . rw[if_neg hwif] at hr
          by_cases hwreturn:bQ ts s=[114,101,116,117,114,110]
          . rw[if_pos hwreturn] at hr;exact yI ih0 h hwreturn hr hn
          . rw[if_neg hwreturn] at hr
            have HN:=hD hn;have HQ:=hD hr;have hX:(bs (bQ ts s)).toList=bQ ts s:=by rw[ByteArray.toList_eq];rfl
            have b0:((bs (bQ ts s)).toList==[108,101,116])=false:=by rw[hX];exact bN.2 hwlet
            have b1:((bs (bQ ts s)).toList==[112,114,105,110,116])=false:=by rw[hX];exact bN.2 hwprint
            have b2:((bs (bQ ts s)).toList==[119,104,105,108,101])=false:=by rw[hX];exact bN.2 hwwhile
            have b3:((bs (bQ ts s)).toList==[105,102])=false:=by rw[hX];exact bN.2 hwif
            have b4:((bs (bQ ts s)).toList==[114,101,116,117,114,110])=false:=by rw[hX];exact bN.2 hwreturn
            obtain⟨X,hXX⟩:∃X,bs (bQ ts s)=X:=⟨_,rfl⟩;rw[hXX] at b0 b1 b2 b3 b4;have HW:=hD hXX;clear h ih ih0 hn hr hX hXX hwlet hwprint hwwhile hwif hwreturn;go_enter func138,ntmps138;go_wp2_with fail
            refine stepM (S0.o.line rfl) λw1 S1=>?_;go_wp2_with fail
            refine stepM (S1.o.word HW) λw2 S2=>?_;go_wp2_with fail
            refine stepM (IH.o.named _ _ _ _ _ _ S2 HQ HN) λw3 S3=>?_;go_wp2
            go_ret;exact⟨rfl,S3⟩
end
section
variable {src:ByteArray}{tb tc:Nat}{ts:List Tok}{g:Nat}{n:Nat}
theorem aEk (ih:∀m,m<n->Good src tb tc ts g m) (lv:Nat) (z:Int) (hz:((lv:Nat):Int)=z) (hlv:lv≤5):Does src tb tc ts g n (.chain lv) 192 #[(g,()),z]:=by
 subst hz;cases n with
 | zero=>exact Does.zero _ _ _
 | succ n=>
  intro R w0 w s r h hr hn;have IH:=hD (ih n (Nat.lt_succ_self n));have S0:=hD h;simp only[run] at hr;by_cases h5:lv=5
  . subst h5
    rw[if_pos rfl] at hr;have HQ:=hD hr;have HN:=hD hn;clear h ih hn hr;go_enter func192,ntmps192;go_wp2_with fail
    refine stepM (IH.o.factor _ _ _ _ _ S0 HQ HN) λw1 S1=>?_;go_wp2
    go_ret;exact⟨rfl,S1⟩
  . rw[if_neg h5] at hr
    have lv4:lv≤4:=by omega
    have l0:((lv:Int)==5)=false:=bN.2 (by omega);have l1:(lv:Int)≤4:=by omega
    simp only[bS] at hr;obtain⟨q,hq,hm⟩:=hr;have HN:=hD hn;have HN1:=hD (Nat.le_trans (aW (aI _ _ _ _ hm)) hn);have HQ:=hD hq;have HM:=hD hm;have HL:=hD lv4;have HI:=hD ih;clear h ih hn hq hm hlv h5 lv4;obtain⟨line,hline⟩:∃line,aR src.data.toList ts s=line:=⟨_,rfl⟩;rw[hline] at HM;have HLN:=hD hline;clear hline;go_enter func192,ntmps192;go_wp2_with fail
    refine stepM (S0.o.line HLN) λw1 S1=>?_;go_wp2_with fail
    refine stepM (IH.o.chain (lv+1) _ rfl (by have:=HL.o;omega) _ _ _ _ _ S1 HQ HN1) λw2 S2=>?_;go_wp2
    go_loopg [6] n (λk x wr=>∃(xv:Nat) (s':PS),x = .int .i64 (xv:Nat)∧Hd (k≤n)∧Hd (St src tb tc ts g R w0 wr s')∧Hd (run src.data.toList ts k (.more lv line xv) s'=some r))
    case atStart=>exact⟨oneOf q.1,q.2,rfl,hD (Nat.le_refl n),S2,HM⟩
    case round=>
     obtain⟨xv,s',rfl,HK,S3,HR⟩:=hrel;clear S0 S1 S2 HQ HM HN1 IH;have hr:=HR.o;cases gk with
     | zero=>simp[run] at hr
     | succ k=>
      simp only[run] at hr;have IH:=hD (HI k (by have:=HK.o;omega));obtain⟨X,hX⟩:∃X,bs (fC ts lv s')=X:=⟨_,rfl⟩;have HX:=hD hX;by_cases hp:fC ts lv s'=[]
      . rw[if_pos hp] at hr
        simp only[Option.some.injEq] at hr;subst hr;obtain rfl:X=⟨#[]⟩:=by rw[<-hX,hp];rfl
        clear hX hp HR;go_wp2_with fail
        refine stepM (S3.o.next lv HL HX) λw4 S4=>?_;go_wp2
        go_ret;exact⟨rfl,S4⟩
      . rw[if_neg hp] at hr
        simp only[bS] at hr;obtain⟨u,hu,hr⟩:=hr;have hu1:=aK _ _ _ _ hu trivial;have b1:(X.toList==[])=false:=by rw[<-hX,ByteArray.toList_eq];exact bN.2 hp
        have b2:X.toList.isEmpty=false:=by rw[<-hX,ByteArray.toList_eq];exact List.isEmpty_eq_false_iff.2 hp
        have HO:=hD (S3.o.ok.kD S3.o.toks hp);have HU:=hD hu;clear hX hu HR hp;by_cases h2:lv=2
        . subst h2
          rw[if_pos rfl] at hr;simp only[Option.some.injEq] at hr;subst hr
          have HN2 := hD (show u.2.nodes.length ≤ 1000000 by have : u.2.nodes.length + 1 ≤ 1000000 := by simpa [bY] using HN.o
                                                             omega)
          clear hu1 l0 l1;go_wp2_with fail
          refine stepM (S3.o.next _ HL HX) λw4 S4=>?_;obtain⟨hg4,c14,c24,c44,c54,f24,f44⟩:=S4.o.cells;have hi4:=S4.o.i_le;go_wp2_with fail
          have HZ5:=hD (show (w4.setCell (g,U2) (((s').i:Int)+1:Int)).heap.size=w4.heap.size by simp);have S5:=hD (S4.o.go HO);clear hg4 c14 c24 c44 c54 f24 f44 hi4;generalize w4.setCell (g,U2) (((s').i:Int)+1:Int)=w5 at *;refine stepM (IH.o.chain 3 _ rfl (by decide) _ _ _ _ _ S5 HU HN2) λw6 S6=>?_;go_wp2_with fail
          refine stepM (S6.o.aNc xv (oneOf u.1) rfl 9 _ 0 rfl rfl (name:=(fC ts 2 s')) HX HN2) λw7 S7=>?_;go_wp2
          go_ret;exact⟨rfl,S7⟩
        . rw[if_neg h2] at hr
          have l2:((lv:Int)==2)=false:=bN.2 (by omega);have hpe:=aI _ _ _ _ hr
          have HN2 := hD (show u.2.nodes.length ≤ 1000000 by have h7 := aW hpe
                                                             have h8 := HN.o
                                                             have : u.2.nodes.length + 1 ≤ r.2.nodes.length := by simpa [bY] using h7
                                                             omega)
          have HR2:=hD hr;clear hr hpe h2 hu1;go_wp2_with fail
          refine stepM (S3.o.next lv HL HX) λw4 S4=>?_;obtain⟨hg4,c14,c24,c44,c54,f24,f44⟩:=S4.o.cells;have hi4:=S4.o.i_le;go_wp2_with fail
          have HZ5:=hD (show (w4.setCell (g,U2) (((s').i:Int)+1:Int)).heap.size=w4.heap.size by simp);have S5:=hD (S4.o.go HO);clear hg4 c14 c24 c44 c54 f24 f44 hi4;generalize w4.setCell (g,U2) (((s').i:Int)+1:Int)=w5 at *;refine stepM (IH.o.chain (lv+1) _ rfl (by have:=HL.o;omega) _ _ _ _ _ S5 HU HN2) λw6 S6=>?_;go_wp2_with fail
          refine stepM (S6.o.aNc xv (oneOf u.1) rfl 9 _ 0 rfl rfl (name:=(fC ts lv s')) HX HN2) λw7 S7=>?_;go_wp2
          go_roundg k
          case measure=>omega
          case rel=>exact⟨u.2.nodes.length,(bY 9 line 0 (fC ts lv s') [xv,oneOf u.1] u.2).2,rfl,hD (by have:=HK.o;omega),S7,HR2⟩
end
end Go.Proofs.YtlbjicjinnnboaaGreatDoor
