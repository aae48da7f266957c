/- MmC: PPut, PStepE, PStepF, PStepG, POk, PFew, PSt, PGood, PRight, PNamed, PStmt, PChain. -/
import Derived.Test.YtlbjicjinnnboaaGreatDoorMmB
set_option maxHeartbeats 8000000
set_option maxRecDepth 100000
set_option linter.unusedVariables false
set_option linter.unusedSimpArgs false
/- The reader puts a node. -/
namespace Go.Proofs.YtlbjicjinnnboaaGreatDoor
open Go.RowKit
theorem Own.ty {w:World}{e size n:Nat}{v:Value}{xs:List Value} (h:Own w e size v n xs){k:Nat} (hk:blk v=some k):∃cs,Blk w k e cs:=by
 obtain⟨hl,A,c,rfl,⟨rfl,_⟩|⟨g',cur,rfl,h0,hb',r⟩⟩:=h
 · cases A<;>simp[blk] at hk
 · simp[blk] at hk
   exact⟨cur,by rw[←hk.2];exact hb'⟩
theorem bG.frR {g:Nat}{w w':World}{cs:Array Value}{t:TypeId} (hb:Blk w g t cs) (ht:3≠t):∀{ns:List aF}{vs:List Value},bG w ns vs→FrR g w w'→bG w' ns vs
 | [],[],_,_=>trivial
 | [],_ :: _,h,_=>h.elim
 | _ :: _,[],h,_=>h.elim
 | _ :: _,_ :: _,h,f=>⟨h.1.fr f (fun b hb' hm=>by
  rcases hm with e|⟨_,cs',f',hc⟩
  · exact h.1.aG hb ht (by rw[hb',e])
  · obtain⟨cur,hcur⟩:=h.1.ty hb'
    unfold Blk at hcur;rw[hcur] at hc;injection hc with hc;injection hc with _ h2 _;exact absurd h2 (by decide)),bG.frR hb ht h.2 f⟩
theorem bG.snoc {w:World}{n:aF}{v:Value} (hn:Own w 3 1 v n.l.length (ints n.l)):∀{ns:List aF}{vs:List Value},bG w ns vs→bG w (ns++[n]) (vs++[v])
 | [],[],_=>⟨hn,trivial⟩
 | [],_ :: _,h=>h.elim
 | _ :: _,[],h=>h.elim
 | _ :: _,_ :: _,h=>⟨h.1,bG.snoc hn h.2⟩
theorem Own.frR {g:Nat}{w w':World}{cs:Array Value}{t e size n:Nat}{v:Value}{xs:List Value} (h:Own w e size v n xs) (hb:Blk w g t cs) (ht:e≠t) (hn:e≠50) (f:FrR g w w'):Own w' e size v n xs:=
 h.fr f (fun b hb' hm=>by
  rcases hm with e1|⟨_,cs',f',hc⟩
  · exact h.aG hb ht (by rw[hb',e1])
  · obtain⟨cur,hcur⟩:=h.ty hb'
    unfold Blk at hcur;rw[hcur] at hc;injection hc with hc;injection hc with _ h2 _;exact hn h2)
theorem aNx {src:ByteArray}{tb tc:Nat}{ts:List Tok}{g:Nat}{lvs:List Value}{w:World}{s:PS} (h:Rdr src tb tc ts g lvs w s) (k line n:Nat) (name:List UInt8) (lv:Value) (l:List Nat)
   (hl:Own w 3 1 lv l.length (ints l)) (hn:s.nodes.length≤1000000):
   Calls Tryz.prog 139 #[.pointer (some ⟨g,0,none⟩),.int .i64 k,.int .i64 line,.int .i64 n,.string (bs name),lv] w fun e w'=>
     e = .returned (.int .i64 s.nodes.length)∧Rdr src tb tc ts g (lvs++[lv]) w' (bM k line n name l s).2∧FrR g w w':=by
 obtain⟨nv,hb,ho⟩:=h.cells;obtain⟨b0,ht⟩:=h.toks;have hnw:=h.newer nv (hb.cell 3);have NW:=hD hnw;clear hnw;have c3:=hb.cell 3;have f3:=hb.frozen 3;obtain⟨A,c,rfl,hc1,hc2⟩:=ho.cap;obtain⟨A1,c1,rfl,hc3,hc4⟩:=hl.cap;simp at c3
 have hg:=hb.lt;have H:=hD h;have HO:=hD ho;have HB:=hD hb;have HL:=hD hl;have HT:=hD ht;have hn2:(s.nodes.length:Int)≤1000000:=by omega
 generalize hN:s.nodes.length=N at *;generalize hM:l.length=M at *;obtain⟨B,hB⟩:∃B,bs name=B:=⟨_,rfl⟩;have NM:=hD hB;rw[hB];clear h ho hb hl ht hB;go_enter Tryz.func139,Tryz.ntmps139;go_wp2_with (at_builtin;refine aL (v:= .slice A N c) (m:=1) (news:=[.int .i64 k,.int .i64 line,.int .i64 n,.string B,.slice A1 M c1]) rfl _ _ rfl aNg rfl rfl (HO.out.alloc _) (Rd.fC (n:=1) (cs:=[.int .i64 k,.int .i64 line,.int .i64 n,.string B,.slice A1 M c1]) (Blk.new _ _ _) rfl (by decide)) (by simp[Value.oneCell']) (by omega) (by unfold maxLen;omega) ?_;intro A3 c3' w3 ho3 hf3 hv3;have O3:=hD ho3;have F3:=hD hf3;have V3:=hD hv3;have B3:=hD ((HB.out.alloc _).fr hf3 (fun hm=>HO.out.aG HB.out (by decide) hm));have g3:=B3.out.frozen 3;have d3:=B3.out.cell 3;simp at d3;clear ho3 hf3 hv3)
 go_ret;have hFR:FrR g w w3:=by
   refine Fr.trans (M1:=nob) ((fR w).alloc _) F3.out (fun _ _ x=>x.elim) (fun k2 hk2 hm=>?_);obtain⟨cur,hcur⟩:=HO.out.ty (k:=k2) hm;exact .inr ⟨NW.out k2 hm,cur,_,hcur⟩
 have hset:Fr (bZ g) w3 (w3.setCell ⟨g,3,none⟩ (.slice A3 (N+1) c3')):=(Fr.refl (bZ g) w3).setCell _ _ (fun _=>rfl);have hFR2:FrR g w (w3.setCell ⟨g,3,none⟩ (.slice A3 (N+1) c3')):=FrR.trans hFR (hset.mono (fun k _ e=> .inl e));refine⟨by first|rfl|simp,⟨⟨.slice A3 (N+1) c3',?_,?_⟩,?_,?_,⟨b0,?_⟩,fun nv2 h1 k2 hk2=>?_⟩,hFR2⟩
 · exact B3.out.setCell 3 _
 · have e1:(bM k line n name l s).2.nodes=s.nodes++[⟨k,line,n,name,l⟩]:=rfl
   rw[e1,gG _ _ _ _ H.out.same,List.length_append,hN];have:=O3.out;rw[←NM.out] at this;exact this.fr hset (fun b hb' hm=>O3.out.aG B3.out (by decide) (by rw[hb',show b=g from hm]))
 · have hl2:Own w 3 1 (.slice A1 M c1) l.length (ints l):=by rw[hM];exact HL.out
   exact bG.snoc (hl2.frR HB.out (by decide) (by decide) hFR2) (H.out.below.frR HB.out (by decide) hFR2)
 · show (s.nodes++[_]).length=(lvs++[_]).length
   rw[List.length_append,List.length_append,H.out.same];rfl
 · exact⟨HT.out.own.frR HB.out (by decide) (by decide) hFR2,HT.out.new⟩
 · have h3:=(B3.out.setCell 3 (.slice A3 (N+1) c3')).cell 3
   rw[h3] at h1;simp at h1
   subst h1;rcases V3.out with e|e
   · exact NW.out k2 (by rw[←e];exact hk2)
   · rw[e] at hk2
     injection hk2 with hk2;have:=HB.out.lt;simp at hk2;omega
theorem uE (x:List UInt8):mH x≤4:=by
 unfold mH
 (repeat' split)<;>omega
theorem aFe {src:ByteArray}{tb tc:Nat}{ts:List Tok}{g:Nat}{lvs:List Value}{w:World}{s:PS} (h:Rdr src tb tc ts g lvs w s) (hk:bO ts s) (ht:aQ ts):
   Calls Tryz.prog 92 #[.pointer (some ⟨g,0,none⟩)] w fun e w'=>e = .returned (.int .i64 (bQ ts s))∧Rdr src tb tc ts g lvs w' (aR ts s)∧FrR g w w':=by
 have H:=hD h;have HK:=hD hk;have hi:=ht.i_le hk;have HW:=hD (sG h hk);have HT:=hD (fun w'=>aKf (bs (bH ts s)) w');rw[show (bs (bH ts s)).data.toList=bH ts s from rfl] at HT;have hle:=uE (bH ts s);unfold aR;have e0:bQ ts s=mH (bH ts s):=rfl;rw[e0];generalize mH (bH ts s)=t at *;generalize bs (bH ts s)=wd at *;clear h hk ht e0;by_cases h0:t=0
 · subst h0
   rw[if_pos rfl];go_enter Tryz.func92,Tryz.ntmps92;go_wp2_with (first|(go_at_call 135;go_must (refine HW.out.mono ?_;rintro e w1 ⟨rfl,hf⟩;have F1:=hD hf;have H1:=hD (H.out.no hf);clear hf))|(go_at_call 136;refine (HT.out _).mono ?_;rintro e w3 ⟨rfl,rfl⟩)|(go_at_call 134;go_must (refine (kH H1.out HK.out 20).mono ?_;rintro e w2 ⟨rfl,hr,hf2⟩;have H2:=hD hr;have F2:=hD hf2;clear hr hf2)))
   go_ret;exact⟨rfl,H2.out,FrR.trans (FrR.no F1.out) F2.out⟩
 · rw[if_neg h0]
   have tb2:((t:Int)==0)=false:=bN.2 (by omega);clear h0;go_enter Tryz.func92,Tryz.ntmps92;go_wp2_with (first|(go_at_call 135;go_must (refine HW.out.mono ?_;rintro e w1 ⟨rfl,hf⟩;have F1:=hD hf;have H1:=hD (H.out.no hf);(obtain⟨nv,hb⟩:=H1.out.blk);have c2:=hb.cell 2;have f2:=hb.frozen 2;simp at c2;clear hf hb))|(go_at_call 136;refine (HT.out _).mono ?_;rintro e w3 ⟨rfl,rfl⟩))
   go_ret;exact⟨rfl,H1.out.aOx (s.i+1),FrR.trans (FrR.no F1.out) (((Fr.refl (bZ g) w1).setCell ⟨g,2,none⟩ _ (fun _=>rfl)).mono (fun k _ e=> .inl e))⟩
theorem aIy {src:ByteArray}{tb tc:Nat}{ts:List Tok}{g:Nat}{lvs:List Value}{w:World}{s:PS} (h:Rdr src tb tc ts g lvs w s) (hk:bO ts s) (ht:aQ ts):
  Calls Tryz.prog 190 #[.pointer (some ⟨g,0,none⟩)] w fun e w'=>e = .returned (.bool (dU ts s))∧Fr nob w w':=by
 have H:=hD h;have hi:=ht.i_le hk;have HI:=hD (pJ h hk 3);have hnext:bA ts 3 s=true→s.i+1<ts.length:=fun hx=>(hk.go ht (by rw[(aM hx).2];decide)).room
 unfold dU;clear h hk ht;generalize bA ts 3 s=b at *;cases b with
 | false=>
  rw[Bool.false_and];clear hnext;go_enter Tryz.func190,Tryz.ntmps190;go_upto_region 2 with (go_at_call 56;go_must (refine HI.out.mono ?_;rintro e w1 ⟨rfl,hf⟩;have F1:=hD hf;clear hf));go_quiet (fail)
  go_wp2
  go_ret;exact⟨rfl,F1.out.drewN _⟩
 | true=>
  have hn:=hnext rfl;have hr:(s.i:Int)+1<(ts.length:Int):=by omega
  obtain⟨u,hu⟩:∃u,ts[s.i+1]?=some u:=⟨ts[s.i+1],gE hn⟩;have hug:ts.getD (s.i+1) lQ=u:=by rw[List.getD,hu];rfl
  rw[hug,Bool.true_and];have HU:=hD hu;have hx:(bs u.text).toList=u.text:=by rw[ByteArray.toList_eq];rfl
  have d1:IntKind.i64.wrap ((s.i:Int)+1)=(s.i:Int)+1:=IntWalk.i64_in _ (by omega);have d2:(0:Int)≤(s.i:Int)+1:=by omega
  have d3:((s.i:Int)+1).toNat=s.i+1:=by omega
  obtain⟨R,hR⟩:∃R,(decide (u.kind=5) && decide (u.text=[40]))=R:=⟨_,rfl⟩;rw[hR];have HR:=hD hR;have HX:=hD hx;clear hnext hug hu hn hx hR;go_enter Tryz.func190,Tryz.ntmps190;go_upto_region 2 with (go_at_call 56;go_must (refine HI.out.mono ?_;rintro e w1 ⟨rfl,hf⟩;have F1:=hD hf;have H1:=hD (H.out.no hf);clear hf));obtain⟨nv2,hb2⟩:=H1.out.blk;have c1:=hb2.cell 1;have c2:=hb2.cell 2;obtain⟨x0,x1,_⟩:=H1.out.aNm HU.out;simp at c1 c2
  clear hb2;generalize bs u.text=ut at *;by_cases h5:u.kind=5
  · have h5b:((u.kind:Int)==5)=true:=by rw[h5];rfl
    by_cases hT:u.text=[40]
    · have hTb:(ut.toList==[40])=true:=by rw[HX.out,hT];rfl
      obtain rfl:R=true:=by rw[←HR.out,decide_eq_true h5,decide_eq_true hT];rfl
      clear h5 hT;go_quiet (fail)
      go_wp2
      go_ret;exact⟨rfl,F1.out.drewN _⟩
    · have hTb:(ut.toList==[40])=false:=by rw[HX.out];exact bN.2 hT
      obtain rfl:R=false:=by rw[←HR.out,decide_eq_true h5,decide_eq_false hT];rfl
      clear h5 hT;go_quiet (fail)
      go_wp2
      go_ret;exact⟨rfl,F1.out.drewN _⟩
  · have h5b:((u.kind:Int)==5)=false:=bN.2 (by omega)
    obtain rfl:R=false:=by rw[←HR.out,decide_eq_false h5];rfl
    clear h5;go_quiet (fail)
    go_wp2
    go_ret;exact⟨rfl,F1.out.drewN _⟩
def aKs (lv:Nat):Array Value:=((dK lv).map fun x=>Value.string (bs x)).toArray
theorem aFq (lv:Nat) (h:lv≤4) (w:World):Calls Tryz.prog 225 #[.int .i64 lv] w fun e w'=>(∃g2,e = .returned (.slice (some ⟨g2,0,none⟩) (dK lv).length (dK lv).length)∧Blk w' g2 9 (aKs lv))∧Fr nob w w':=by
 rcases (by omega:lv=0∨lv=1∨lv=2∨lv=3∨lv=4) with rfl|rfl|rfl|rfl|rfl
 all_goals
  go_enter Tryz.func225,Tryz.ntmps225;go_wp2
  go_ret;exact⟨⟨w.heap.size,rfl,Blk.new w 9 _⟩,(fR w).alloc _⟩
theorem aKr {lv j:Nat} (h:j<(dK lv).length):∃x,(dK lv)[j]?=some x∧(aKs lv)[j]?=some (.string (bs x)):=by
 refine⟨(dK lv)[j],gE h,?_⟩;unfold aKs;simp[gE h]
theorem tL {p:List UInt8→Bool}:∀{l:List (List UInt8)}{j:Nat}{x:List UInt8},l[j]?=some x→p x=true→(∀k y,k<j→l[k]?=some y→p y=false)→l.find? p=some x
 | [],_,_,h,_,_=>by simp at h
 | a :: l,0,x,h,hp,_=>by simp at h;subst h;simp[hp]
 | a :: l,j+1,x,h,hp,hn=>by
  have ha:=hn 0 a (by omega) rfl;rw[List.find?_cons,ha];exact tL (by simpa using h) hp (fun k y hk hy=>hn (k+1) y (by omega) (by simpa using hy))
theorem aLn {src:ByteArray}{tb tc:Nat}{ts:List Tok}{g:Nat}{lvs:List Value}{w:World}{s:PS} (h:Rdr src tb tc ts g lvs w s) (hk:bO ts s) (lv:Nat) (hlv:lv≤4):
  Calls Tryz.prog 206 #[.pointer (some ⟨g,0,none⟩),.int .i64 lv] w fun e w'=>e = .returned (.string (bs (eG ts lv s)))∧Fr nob w w':=by
 have H:=hD h;have HK:=hD hk;have HS:=hD (aFq lv hlv);have hlen:(dK lv).length≤4:=by
  rcases (by omega:lv=0∨lv=1∨lv=2∨lv=3∨lv=4) with rfl|rfl|rfl|rfl|rfl<;>decide
 have SV:=hD (fun j (hj:j<(dK lv).length)=>aKr hj);have hN:=fun (j:Nat) (x:List UInt8) (h1:(dK lv)[j]?=some x) (h2:pIs ts x s=true) (h3:∀k y,k<j→(dK lv)[k]?=some y→pIs ts y s=false)=>(show eG ts lv s=x by unfold eG;rw[tL h1 h2 h3];rfl)
 have hZ:=fun (h3:∀k y,k<(dK lv).length→(dK lv)[k]?=some y→pIs ts y s=false)=>(show eG ts lv s=[] by
  unfold eG;rw[List.find?_eq_none.2 (fun y hy=>by
    obtain⟨k,hk,hky⟩:=List.getElem_of_mem hy;rw[h3 k y hk (by rw[gE hk,hky])];simp)];rfl)
 have HN:=hD hN;have HZ:=hD hZ;clear h hk hN hZ hlv;generalize hr:eG ts lv s=R at *;clear hr;generalize aKs lv=sv at *;generalize hL:dK lv=L at *;clear hL;go_enter Tryz.func206,Tryz.ntmps206;go_wp2_with (go_at_call 225;go_must (refine (HS.out _).mono ?_;rintro e w1 ⟨⟨g2,rfl,hb⟩,hf⟩;have F1:=hD hf;have H1:=hD (H.out.no hf);have B1:=hD hb;clear hf hb))
 go_loopw [6] (fun i w'=>∃j:Nat,j≤L.length∧i = .int .i64 j∧Hid (∀k y,k<j→L[k]?=some y→pIs ts y s=false)∧Hid (Fr nob w1 w')) (fun i _=>L.length - (intOf i).toNat)
 case atStart=>exact⟨0,Nat.zero_le _,rfl,hD (fun k y hk=>absurd hk (Nat.not_lt_zero _)),hD (Fr.refl _ _)⟩
 case round=>
  obtain⟨j,hj,rfl,HJ,F2⟩:=hrel;by_cases hjl:j<L.length
  · have hjl2:(j:Int)<(L.length:Int):=by omega
    obtain⟨x,hx,hxv⟩:=SV.out j hjl;have B2:=hD (B1.out.fr F2.out (fun x=>x));have c0:=(B2.out.cell j).trans hxv;have HX:=hD hx;have HI:=hD (aHx (H1.out.no F2.out) HK.out (bs x));rw[show (bs x).data.toList=x from rfl] at HI;have hj6:(j:Int)≤4:=by omega
    clear hx hxv;cases hb:pIs ts x s with
    | true=>
     have e1:=hD (HN.out j x HX.out hb HJ.out);rw[hb] at HI;clear hb;generalize hXX:bs x=X at *;have XE:=hD hXX;clear hXX;go_wp2_with (go_at_call 91;go_must (refine HI.out.mono ?_;rintro e w3 ⟨rfl,hf3⟩;have F3:=hD hf3;have c1:=(F3.out.cell (p:=⟨g2,j,none⟩) B2.out.lt (fun x=>x)).trans c0;clear hf3))
     go_ret;exact⟨by rw[e1.out,XE.out];first|done|rfl,(F1.out.tr F2.out).tr F3.out⟩
    | false=>
     have hn2:=hD (show ∀k y,k<j+1→L[k]?=some y→pIs ts y s=false from fun k y hk hy=>by
      by_cases e:k=j
      · subst e
        rw[HX.out] at hy;injection hy with hy;subst hy;exact hb
      · exact HJ.out k y (by omega) hy)
     rw[hb] at HI;clear hb;generalize bs x=X at *;go_wp2_with (go_at_call 91;go_must (refine HI.out.mono ?_;rintro e w3 ⟨rfl,hf3⟩;have F3:=hD hf3;clear hf3))
     go_roundw
     case rel=>exact⟨j+1,by omega,by go_num,hn2,hD (F2.out.tr F3.out)⟩
     case measure=>simp[intOf];omega
  · have hjl2:(L.length:Int)≤(j:Int):=by omega
    have e1:=hD (HZ.out (fun k y hk hy=>HJ.out k y (by omega) hy));go_wp2
    go_ret;exact⟨by rw[e1.out];first|done|rfl,F1.out.tr F2.out⟩
section
variable {src:List UInt8}{ts:List Tok}{s:PS}
theorem aHf (s:PS):bE ts (aW ts s)=bE ts s:=by
 unfold aW aO bE;simp only;split
 · split<;>rfl
 · rfl
theorem bO.goDown {x:List UInt8} (h:bO ts s) (ht:aQ ts) (hx:pIs ts x s=true):bO ts (pGo (aW ts s)):=
 (h.down ht (aN hx).1).go ht (by rw[aHf];exact (aN hx).2.1)
theorem bO.eU {x:List UInt8} (h:bO ts s) (ht:aQ ts) (hx:pIs ts x s=true):bO ts (aW ts s):=h.down ht (aN hx).1
theorem bO.iZ {x:List UInt8} (h:bO ts s) (ht:aQ ts) (hx:pIs ts x s=true):bO ts (pGo s):=h.go ht (aN hx).2.1
theorem bO.lK {lv:Nat} (h:bO ts s) (ht:aQ ts) (hx:eG ts lv s≠[]):bO ts (pGo s):=by
 unfold eG at hx;cases hf:(dK lv).find? fun x=>pIs ts x s with
 | none=>rw[hf] at hx;simp at hx
 | some x=>
  have hp:=List.find?_some hf;exact h.iZ (x:=x) ht hp
theorem bO.fA {x:List UInt8} (h:bO ts s) (ht:aQ ts) (hw:bH ts s=x) (hx:x≠[]):bO ts (pGo s):=h.go ht (by rw[(nR hx hw).2];decide)
theorem bO.fU {k:Nat} (h:bO ts s) (ht:aQ ts) (hk:(bE ts s).kind=k) (h0:k≠0):bO ts (pGo s):=h.go ht (by rw[hk];exact h0)
theorem gV (ht:aQ ts):∀(n:Nat) (k:Task) (s:PS) (r:List Nat×PS),run src ts n k s=some r→bO ts s→bO ts r.2:=by
 intro n;induction n with
 | zero=>intro k s r h;simp[run] at h
 | succ n ih=>
  intro k s r h hs;cases k<;>simp only[run] at h<;>
   (repeat' split at h)<;>
   (try simp only[mS,bS,Option.some.injEq] at h)<;>
   (try (obtain⟨q1,h1,h⟩:=h))<;>
   (repeat' split at h)<;>
   (try simp only[mS,bS,Option.some.injEq] at h)<;>
   (try (obtain⟨q2,h2,h⟩:=h))<;>
   (repeat' split at h)<;>
   (try simp only[mS,bS,Option.some.injEq] at h)<;>
   (try (obtain⟨q3,h3,h⟩:=h))<;>
   (try subst h)<;>
   (try subst h1)<;>
   (repeat (first
     | assumption
     | apply bO.put
     | apply bO.up
     | (refine bO.must ?_ ht _)
     | (refine bO.named ?_ ht)
     | (refine bO.typed ?_ ht)
     | (refine bO.fail ?_ ht 20 (by decide) (by decide))
     | (refine bO.goDown ?_ ht (by assumption))
     | (refine bO.eU ?_ ht (by assumption))
     | (refine bO.iZ ?_ ht (by assumption))
     | (refine bO.lK ?_ ht (by assumption))
     | (refine bO.fA ?_ ht (by assumption) (by simp))
     | (refine bO.fU ?_ ht (by assumption) (by decide))
     | (refine ih _ _ _ (by assumption) ?_)
     | dsimp only))
end
def pot (s:PS):Int:=(s.nodes.length:Int) - 20*(s.i:Int)
section
variable {src:List UInt8}{ts:List Tok}{s:PS}
theorem qI (s:PS):pot (pGo s)=pot s - 20:=by unfold pot pGo;simp only;omega
theorem kL (k:Nat) (s:PS):pot (aO ts k s)=pot s:=by unfold aO;split<;>rfl
theorem oW (x:List UInt8) (s:PS):pot (aA ts x s)≤pot s:=by
 unfold aA;split
 · rw[qI];omega
 · rw[kL];omega
theorem qH (s:PS):pot (aC ts s)≤pot s:=by
 unfold aC;split
 · rw[qI];omega
 · rw[kL];omega
theorem aLf (s:PS):pot (aW ts s)=pot s:=by
 unfold aW;simp only;split
 · exact kL 21 s
 · rfl
theorem aNy (k line n:Nat) (name:List UInt8) (l:List Nat) (s:PS):pot (bM k line n name l s).2=pot s+1:=by unfold pot bM;simp;omega
def kN:Task→Int
 | .call=>1 | .right=>1 | .block=>3 | .named _=>2 | .stmt=>2 | .stmts _=>2|_=>0
def kS:Task→Prop
 | .named _=>True | .stmt=>True|_=>False
theorem iR {b:Int} (h:pot s≤b):pot (pGo s)≤b - 20:=by rw[qI];omega
theorem bT {b:Int} (x:List UInt8) (h:pot s≤b):pot (aA ts x s)≤b:=Int.le_trans (oW x s) h
theorem kM {b:Int} (h:pot s≤b):pot (aC ts s)≤b:=Int.le_trans (qH s) h
theorem wK {b:Int} (h:pot s≤b):pot (aW ts s)≤b:=by rw[aLf];exact h
theorem aGz {b:Int} (h:pot s≤b):pot (pUp s)≤b:=h
theorem aHa {b:Int} (k:Nat) (h:pot s≤b):pot (aO ts k s)≤b:=by rw[kL];exact h
theorem eT {b:Int} (k line n:Nat) (name:List UInt8) (l:List Nat) (h:pot s≤b):pot (bM k line n name l s).2≤b+1:=by rw[aNy];omega
theorem aOm (h:(aC ts s).e=0):bA ts 3 s=true:=by
 unfold aC at h;by_cases hk:bA ts 3 s=true
 · exact hk
 · rw[if_neg hk] at h
   unfold aO at h;split at h
   · simp at h
   · rename_i h0;exact absurd h h0
theorem lU {b:Int} (hk:(aC ts s).e=0) (h:pot s≤b):pot (aC ts s)≤b - 20:=by
 have:=aOm hk;unfold aC;rw[if_pos this];exact iR h
theorem Ext.e0 {t:PS} (h:Ext s t) (h0:t.e=0):s.e=0:=by
 by_cases e:s.e=0
 · exact e
 · exact absurd ((h.err e).1.symm.trans h0) e
theorem aNp:∀(n:Nat) (k:Task) (s:PS) (r:List Nat×PS),run src ts n k s=some r→pot r.2≤pot s+kN k∧(kS k→r.2.e=0→pot r.2≤pot s - 10)∧(k = .call→(aC ts s).e=0→pot r.2≤pot s - 19):=by
 intro n;induction n with
 | zero=>intro k s r h;simp[run] at h
 | succ n ih=>
  have ih1:∀(k:Task) (s:PS) (r:List Nat×PS) (b:Int),run src ts n k s=some r→pot s≤b→pot r.2≤b+kN k:=fun k s r b h hb=>Int.le_trans (ih k s r h).1 (by omega)
  intro k s r h;have h0:=h;cases k
  case stmts l=>
   refine⟨?_,fun hk=>hk.elim,fun hk=>by cases hk⟩;simp only[run] at h;split at h
   · simp only[Option.some.injEq] at h;subst h;(simp only[kN];omega)
   · split at h
     · simp only[Option.some.injEq] at h;subst h;(simp only[kN];omega)
     · simp only[bS] at h
       obtain⟨q1,h1,h⟩:=h;obtain⟨a1,a2,_⟩:=ih _ _ _ h1;by_cases he:q1.2.e=0
       · have b1:=a2 trivial he
         have:=(ih _ _ _ h).1;simp only[kN] at this ⊢;omega
       · cases n with
         | zero=>simp[run] at h
         | succ n=>
           simp only[run] at h;rw[if_pos he] at h;simp only[Option.some.injEq] at h;subst h;exact a1
  case named line=>
   simp only[run] at h;split at h
   · rename_i hc
     simp only[mS] at h;obtain⟨q1,h1,h⟩:=h;subst h;have hk:=zF hc;have hn0:(aC ts s).e=0:=by unfold aC;rw[if_pos hk];exact (aM hk).1
     have hc2:pot q1.2≤pot s - 19:=(ih _ _ _ h1).2.2 rfl hn0;have:=eT 13 line 0 [] q1.1 (bT (ts:=ts) [59] hc2);simp only[kN,kS];refine⟨by omega,fun _ _=>by omega,fun hk=>by cases hk⟩
   · split at h
     · rename_i hx
       simp only[mS,bS] at h;obtain⟨q1,h1,q2,h2,h⟩:=h;subst h;have hn0:=(aN hx).1;have hb:=eT 12 line 0 (bK ts s) (q1.1++q2.1) (bT (ts:=ts) [59] (ih1 _ _ _ _ h2 (bT _ (aGz (bT _ (ih1 _ _ _ _ h1 (bT _ (wK (lU hn0 (Int.le_refl _))))))))));simp only[kN,kS] at hb ⊢;refine⟨by omega,fun _ _=>by omega,fun hk=>by cases hk⟩
     · simp only[mS] at h
       obtain⟨q1,h1,h⟩:=h;subst h;have hb:=eT 11 line 0 (bK ts s) q1.1 (bT (ts:=ts) [59] (ih1 _ _ _ _ h1 (bT _ (kM (Int.le_refl _)))));simp only[kN,kS] at hb ⊢;refine⟨by omega,fun _ he=>?_,fun hk=>by cases hk⟩;have hn0:(aC ts s).e=0:=by
         refine Ext.e0 (t:=(bM 11 line 0 (bK ts s) q1.1 (aA ts [59] q1.2)).2) ?_ he;exact ((((Ext.refl _).must (ts:=ts) [61]).trans (aI _ _ _ _ h1)).must (ts:=ts) [59]).put _ _ _ _ _
       have hb:=eT 11 line 0 (bK ts s) q1.1 (bT (ts:=ts) [59] (ih1 _ _ _ _ h1 (bT _ (lU hn0 (Int.le_refl _)))));simp only[kN] at hb ⊢;omega
  case stmt=>
   simp only[run] at h;have fin:∀{b:Int},pot r.2≤b→b≤pot s - 10→pot r.2≤pot s+2∧(True→r.2.e=0→pot r.2≤pot s - 10)∧(Task.stmt = .call→(aC ts s).e=0→pot r.2≤pot s - 19):=fun h1 h2=>⟨by omega,fun _ _=>by omega,fun hk=>by cases hk⟩
   simp only[kN,kS];by_cases hw:bH ts s=[108,101,116]
   · rw[if_pos hw] at h
     simp only[mS] at h;obtain⟨q1,h1,h⟩:=h;subst h;refine fin (eT _ _ _ _ _ (bT _ (ih1 _ _ _ _ h1 (bT _ (kM (iR (Int.le_refl _))))))) (by simp only[kN];omega)
   · rw[if_neg hw] at h;clear hw
     by_cases hw:bH ts s=[112,114,105,110,116]
     · rw[if_pos hw] at h
       simp only[mS] at h;obtain⟨q1,h1,h⟩:=h;subst h;refine fin (eT _ _ _ _ _ (bT _ (ih1 _ _ _ _ h1 (iR (Int.le_refl _))))) (by simp only[kN];omega)
     · rw[if_neg hw] at h;clear hw
       by_cases hw:bH ts s=[119,104,105,108,101]
       · rw[if_pos hw] at h
         simp only[mS,bS] at h;obtain⟨q1,h1,q2,h2,h⟩:=h;subst h;refine fin (eT _ _ _ _ _ (ih1 _ _ _ _ h2 (ih1 _ _ _ _ h1 (iR (Int.le_refl _))))) (by simp only[kN];omega)
       · rw[if_neg hw] at h;clear hw
         by_cases hw:bH ts s=[105,102]
         · rw[if_pos hw] at h
           simp only[bS] at h;obtain⟨q1,h1,q2,h2,h⟩:=h;split at h
           · simp only[mS] at h
             obtain⟨q3,h3,h⟩:=h;subst h;refine fin (eT _ _ _ _ _ (ih1 _ _ _ _ h3 (iR (ih1 _ _ _ _ h2 (ih1 _ _ _ _ h1 (iR (Int.le_refl _))))))) (by simp only[kN];omega)
           · simp only[Option.some.injEq] at h
             subst h;refine fin (eT _ _ _ _ _ (ih1 _ _ _ _ h2 (ih1 _ _ _ _ h1 (iR (Int.le_refl _))))) (by simp only[kN];omega)
         · rw[if_neg hw] at h;clear hw
           by_cases hw:bH ts s=[114,101,116,117,114,110]
           · rw[if_pos hw] at h
             split at h
             · simp only[Option.some.injEq] at h
               subst h;refine fin (eT _ _ _ _ _ (bT _ (iR (Int.le_refl _)))) (by omega)
             · simp only[mS] at h
               obtain⟨q1,h1,h⟩:=h;subst h;refine fin (eT _ _ _ _ _ (bT _ (ih1 _ _ _ _ h1 (iR (Int.le_refl _))))) (by simp only[kN];omega)
           · rw[if_neg hw] at h;clear hw
             obtain⟨a1,a2,_⟩:=ih _ _ _ h;exact⟨a1,fun _=>a2 trivial,fun hk=>by cases hk⟩
  case call=>
   simp only[run] at h;simp only[kN,kS];have key:∀{b:Int},pot (aA ts [40] (aC ts s))≤b→pot r.2≤b+1:=fun {b} hb=>by
     split at h<;>simp only[mS,Option.some.injEq] at h<;>obtain⟨q1,h1,h⟩:=h<;>subst h
     · have:=eT 21 (aS src ts s) 0 (bK ts s) q1.1 (bT (ts:=ts) [41] (ih1 _ _ _ _ h1 hb))
       simp only[kN] at this;omega
     · subst h1
       exact eT 21 (aS src ts s) 0 (bK ts s) [] (bT (ts:=ts) [41] hb)
   refine⟨key (bT _ (kM (Int.le_refl _))),fun hk=>hk.elim,fun _ hn0=>?_⟩;have:=key (bT _ (lU hn0 (Int.le_refl _)));omega
  all_goals
   refine⟨?_,fun hk=>hk.elim,fun hk=>by cases hk⟩;simp only[run] at h
   (repeat' split at h)<;>
   (try simp only[mS,bS,Option.some.injEq] at h)<;>
   (try (obtain⟨q1,h1,h⟩:=h))<;>
   (repeat' split at h)<;>
   (try simp only[mS,bS,Option.some.injEq] at h)<;>
   (try (obtain⟨q2,h2,h⟩:=h))<;>
   (repeat' split at h)<;>
   (try simp only[mS,bS,Option.some.injEq] at h)<;>
   (try subst h)<;>
   (try subst h1)<;>
   (apply Int.le_trans
    focus (repeat (with_reducible (first
     | apply eT
     | apply aGz
     | apply bT
     | apply kM
     | apply aHa
     | apply iR
     | apply wK
     | apply ih1 _ _ _ _ (by assumption)
     | dsimp only
     | exact Int.le_refl _)))
    (first|(simp only[kN];omega)|omega|(simp only[kN] at *;omega)))
end
structure St (src:ByteArray) (tb tc:Nat) (ts:List Tok) (g:Nat) (R:Nat→Prop) (w0 w:World) (s:PS):Prop where
 rdr:∃lvs,Rdr src tb tc ts g lvs w s∧∀v∈lvs,∀k,blk v=some k→¬R k
 res:∀k,R k→k<w.heap.size
 ok:bO ts s
 toks:aQ ts
 long:src.size≤281474976710656
 fr:FrR g w0 w
def RV (R:Nat→Prop) (v:Value):Nat→Prop:=fun k=>R k∨blk v=some k
section
variable {src:ByteArray}{tb tc:Nat}{ts:List Tok}{g:Nat}{R:Nat→Prop}{w0 w w1 w':World}{s:PS}
theorem St.no (h:St src tb tc ts g R w0 w s) (f:Fr nob w w'):St src tb tc ts g R w0 w' s:=by
 obtain⟨lvs,hr,hn⟩:=h.rdr;exact⟨⟨lvs,hr.no f,hn⟩,fun k hk=>Nat.lt_of_lt_of_le (h.res k hk) f.size,h.ok,h.toks,h.long,h.fr.trans (FrR.no f)⟩
theorem St.here (h:St src tb tc ts g R w0 w s):St src tb tc ts g R w w s:=⟨h.rdr,h.res,h.ok,h.toks,h.long,Fr.refl _ _⟩
theorem St.back (h:St src tb tc ts g R w0 w s){s':PS} (h':St src tb tc ts g R w w' s'):St src tb tc ts g R w0 w' s':=⟨h'.rdr,h'.res,h'.ok,h'.toks,h'.long,h.fr.trans h'.fr⟩
theorem St.set (h:St src tb tc ts g R w0 w s) (j:Nat) (u:Value){s':PS} (hr:∀lvs,Rdr src tb tc ts g lvs w s→Rdr src tb tc ts g lvs (w.setCell ⟨g,j,none⟩ u) s') (hk:bO ts s'):St src tb tc ts g R w0 (w.setCell ⟨g,j,none⟩ u) s':=by
 obtain⟨lvs,hr0,hn⟩:=h.rdr;exact⟨⟨lvs,hr lvs hr0,hn⟩,fun k hk=>by simpa using h.res k hk,hk,h.toks,h.long,h.fr.trans (((Fr.refl (bZ g) w).setCell ⟨g,j,none⟩ _ (fun _=>rfl)).mono (fun k _ e=> .inl e))⟩
theorem St.go (h:St src tb tc ts g R w0 w s) (hk:bO ts (pGo s)):St src tb tc ts g R w0 (w.setCell ⟨g,2,none⟩ (.int .i64 ((s.i:Int)+1))) (pGo s):=
 h.set 2 _ (fun lvs hr=>hr.aOx (s.i+1)) hk
theorem St.up (h:St src tb tc ts g R w0 w s) (hd:1≤s.deep):St src tb tc ts g R w0 (w.setCell ⟨g,4,none⟩ (.int .i64 ((s.deep:Int) - 1))) (pUp s):=by
 refine h.set 4 _ (fun lvs hr=>?_) h.ok.up;have:=hr.aMz (s.deep - 1);rw[show (((s.deep - 1:Nat)):Int)=(s.deep:Int) - 1 by omega] at this;exact this
theorem St.cells (h:St src tb tc ts g R w0 w s):g<w.heap.size∧w.cell? ⟨g,1,none⟩=some (.slice (some ⟨tb,0,none⟩) ts.length tc)∧w.cell? ⟨g,2,none⟩=some (.int .i64 s.i)∧w.cell? ⟨g,4,none⟩=some (.int .i64 s.deep)∧w.cell? ⟨g,5,none⟩=some (.int .i64 s.e)∧w.frozen? ⟨g,2,none⟩=false∧w.frozen? ⟨g,4,none⟩=false:=by
 obtain⟨lvs,hr,hnr⟩:=h.rdr;obtain⟨nv,hb⟩:=hr.blk;have c1:=hb.cell 1;have c2:=hb.cell 2;have c4:=hb.cell 4;have c5:=hb.cell 5;simp at c1 c2 c4 c5
 exact⟨hb.lt,c1,c2,c4,c5,hb.frozen 2,hb.frozen 4⟩
theorem St.tok (h:St src tb tc ts g R w0 w s):(s.i:Int)<(ts.length:Int)∧w.cell? ⟨tb,s.i*3,none⟩=some (.int .i64 (bE ts s).kind)∧w.cell? ⟨tb,s.i*3+1,none⟩=some (.string (bs (bE ts s).text))∧w.cell? ⟨tb,s.i*3+2,none⟩=some (.int .i64 (bE ts s).place):=by
 obtain⟨lvs,hr,hnr⟩:=h.rdr;obtain⟨_,_,x⟩:=hr.tok h.ok;exact⟨by have:=h.ok.room;omega,x⟩
theorem St.i_le (h:St src tb tc ts g R w0 w s):(s.i:Int)≤1000:=h.toks.i_le h.ok
theorem St.line (h:St src tb tc ts g R w0 w s){n:Nat} (hn:aS src.data.toList ts s=n):
  Calls Tryz.prog 88 #[.pointer (some ⟨g,0,none⟩)] w fun e w'=>e = .returned (.int .i64 n)∧St src tb tc ts g R w0 w' s:=by
 obtain⟨lvs,hr,hnr⟩:=h.rdr;subst hn;exact (aHb hr h.ok h.long).mono fun e w' ⟨he,hf⟩=>⟨he,h.no hf⟩
theorem St.is (h:St src tb tc ts g R w0 w s) (X:ByteArray){b:Bool} (hb:pIs ts X.data.toList s=b):
  Calls Tryz.prog 91 #[.pointer (some ⟨g,0,none⟩),.string X] w fun e w'=>e = .returned (.bool b)∧St src tb tc ts g R w0 w' s:=by
 obtain⟨lvs,hr,hnr⟩:=h.rdr;subst hb;exact (aHx hr h.ok X).mono fun e w' ⟨he,hf⟩=>⟨he,h.no hf⟩
theorem St.kind (h:St src tb tc ts g R w0 w s) (k:Nat){b:Bool} (hb:bA ts k s=b):
  Calls Tryz.prog 56 #[.pointer (some ⟨g,0,none⟩),.int .i64 k] w fun e w'=>e = .returned (.bool b)∧St src tb tc ts g R w0 w' s:=by
 obtain⟨lvs,hr,hnr⟩:=h.rdr;subst hb;exact (pJ hr h.ok k).mono fun e w' ⟨he,hf⟩=>⟨he,h.no hf⟩
theorem St.calls (h:St src tb tc ts g R w0 w s){b:Bool} (hb:dU ts s=b):
  Calls Tryz.prog 190 #[.pointer (some ⟨g,0,none⟩)] w fun e w'=>e = .returned (.bool b)∧St src tb tc ts g R w0 w' s:=by
 obtain⟨lvs,hr,hnr⟩:=h.rdr;subst hb;exact (aIy hr h.ok h.toks).mono fun e w' ⟨he,hf⟩=>⟨he,h.no hf⟩
theorem St.word (h:St src tb tc ts g R w0 w s){x:ByteArray} (hx:bs (bH ts s)=x):
  Calls Tryz.prog 135 #[.pointer (some ⟨g,0,none⟩)] w fun e w'=>e = .returned (.string x)∧St src tb tc ts g R w0 w' s:=by
 obtain⟨lvs,hr,hnr⟩:=h.rdr;subst hx;exact (sG hr h.ok).mono fun e w' ⟨he,hf⟩=>⟨he,h.no hf⟩
theorem St.next (h:St src tb tc ts g R w0 w s) (lv:Nat) (hlv:lv≤4){x:ByteArray} (hx:bs (eG ts lv s)=x):
  Calls Tryz.prog 206 #[.pointer (some ⟨g,0,none⟩),.int .i64 lv] w fun e w'=>e = .returned (.string x)∧St src tb tc ts g R w0 w' s:=by
 obtain⟨lvs,hr,hnr⟩:=h.rdr;subst hx;exact (aLn hr h.ok lv hlv).mono fun e w' ⟨he,hf⟩=>⟨he,h.no hf⟩
theorem St.fails (h:St src tb tc ts g R w0 w s) (k:Nat) (hk:k≤21) (hk0:1≤k):
  Calls Tryz.prog 134 #[.pointer (some ⟨g,0,none⟩),.int .i64 k] w fun e w'=>e = .returned (.tuple #[])∧St src tb tc ts g R w0 w' (aO ts k s):=by
 obtain⟨lvs,hr,hnr⟩:=h.rdr;exact (kH hr h.ok k).mono fun e w' ⟨he,hr2,hf⟩=>⟨he,⟨lvs,hr2,hnr⟩,fun k hk=>Nat.lt_of_lt_of_le (h.res k hk) hf.size,h.ok.fail h.toks k hk hk0,h.toks,h.long,h.fr.trans hf⟩
theorem St.must (h:St src tb tc ts g R w0 w s) (X:ByteArray):
  Calls Tryz.prog 89 #[.pointer (some ⟨g,0,none⟩),.string X] w fun e w'=>e = .returned (.tuple #[])∧St src tb tc ts g R w0 w' (aA ts X.data.toList s):=by
 obtain⟨lvs,hr,hnr⟩:=h.rdr;exact (aLp hr h.ok h.toks X).mono fun e w' ⟨he,hr2,hf⟩=>⟨he,⟨lvs,hr2,hnr⟩,fun k hk=>Nat.lt_of_lt_of_le (h.res k hk) hf.size,h.ok.must h.toks _,h.toks,h.long,h.fr.trans hf⟩
theorem St.name (h:St src tb tc ts g R w0 w s){x:ByteArray} (hx:bs (bK ts s)=x):
  Calls Tryz.prog 90 #[.pointer (some ⟨g,0,none⟩)] w fun e w'=>e = .returned (.string x)∧St src tb tc ts g R w0 w' (aC ts s):=by
 obtain⟨lvs,hr,hnr⟩:=h.rdr;subst hx;exact (uU hr h.ok h.toks).mono fun e w' ⟨he,hr2,hf⟩=>⟨he,⟨lvs,hr2,hnr⟩,fun k hk=>Nat.lt_of_lt_of_le (h.res k hk) hf.size,h.ok.named h.toks,h.toks,h.long,h.fr.trans hf⟩
theorem St.typed (h:St src tb tc ts g R w0 w s){n:Nat} (hn:bQ ts s=n):
  Calls Tryz.prog 92 #[.pointer (some ⟨g,0,none⟩)] w fun e w'=>e = .returned (.int .i64 n)∧St src tb tc ts g R w0 w' (aR ts s):=by
 obtain⟨lvs,hr,hnr⟩:=h.rdr;subst hn;exact (aFe hr h.ok h.toks).mono fun e w' ⟨he,hr2,hf⟩=>⟨he,⟨lvs,hr2,hnr⟩,fun k hk=>Nat.lt_of_lt_of_le (h.res k hk) hf.size,h.ok.typed h.toks,h.toks,h.long,h.fr.trans hf⟩
theorem St.down (h:St src tb tc ts g R w0 w s) (h0:s.e=0):
  Calls Tryz.prog 137 #[.pointer (some ⟨g,0,none⟩)] w fun e w'=>e = .returned (.tuple #[])∧St src tb tc ts g R w0 w' (aW ts s):=by
 obtain⟨lvs,hr,hnr⟩:=h.rdr;exact (aMk hr h.ok).mono fun e w' ⟨he,hr2,hf⟩=>⟨he,⟨lvs,hr2,hnr⟩,fun k hk=>Nat.lt_of_lt_of_le (h.res k hk) hf.size,h.ok.down h.toks h0,h.toks,h.long,h.fr.trans hf⟩
theorem St.put (h:St src tb tc ts g R w0 w s) (k line n:Nat){kv nv:Int} (hkv:((k:Nat):Int)=kv) (hnv:((n:Nat):Int)=nv){name:List UInt8}{X:ByteArray} (hX:bs name=X){lv:Value}{l:List Nat} (hl:Own w 3 1 lv l.length (ints l)) (hlr:∀k,blk lv=some k→¬R k) (hn:s.nodes.length≤1000000):
   Calls Tryz.prog 139 #[.pointer (some ⟨g,0,none⟩),.int .i64 kv,.int .i64 line,.int .i64 nv,.string X,lv] w fun e w'=>e = .returned (.int .i64 s.nodes.length)∧St src tb tc ts g R w0 w' (bM k line n name l s).2:=by
 obtain⟨lvs,hr,hnr⟩:=h.rdr;subst hX;subst hkv;subst hnv;refine (aNx hr k line n name lv l hl hn).mono fun e w' ⟨he,hr2,hf⟩=>⟨he,⟨_,hr2,fun v hv=>?_⟩,fun k hk=>Nat.lt_of_lt_of_le (h.res k hk) hf.size,h.ok.put ..,h.toks,h.long,h.fr.trans hf⟩
 rcases List.mem_append.1 hv with hv|hv
 · exact hnr v hv
 · rw[List.mem_singleton.1 hv];exact hlr
theorem St.alloc (h:St src tb tc ts g R w0 w s) (o:Obj):St src tb tc ts g R w0 (w.alloc o) s:=h.no ((fR w).alloc o)
theorem St.uP (h:St src tb tc ts g R w0 w s) (k line n:Nat){kv nv:Int} (hkv:((k:Nat):Int)=kv) (hnv:((n:Nat):Int)=nv){name:List UInt8}{X:ByteArray} (hX:bs name=X) (hn:s.nodes.length≤1000000):
  Calls Tryz.prog 139 #[.pointer (some ⟨g,0,none⟩),.int .i64 kv,.int .i64 line,.int .i64 nv,.string X,.slice none 0 0] w fun e w'=>e = .returned (.int .i64 s.nodes.length)∧St src tb tc ts g R w0 w' (bM k line n name [] s).2:=
 h.put k line n hkv hnv hX (l:=[]) (Own.nil _ _ _) (fun k hk=>by simp[blk] at hk) hn
theorem lX {B n c k:Nat} (h:blk (.slice (some ⟨B,0,none⟩) n c)=some k):k=B:=by
 simp[blk] at h;omega
theorem St.vM (h:St src tb tc ts g R w0 w s) (x:Nat){B:Nat} (hB:w.heap.size=B) (k line n:Nat){kv nv:Int} (hkv:((k:Nat):Int)=kv) (hnv:((n:Nat):Int)=nv){name:List UInt8}{X:ByteArray} (hX:bs name=X) (hn:s.nodes.length≤1000000):
  Calls Tryz.prog 139 #[.pointer (some ⟨g,0,none⟩),.int .i64 kv,.int .i64 line,.int .i64 nv,.string X,.slice (some ⟨B,0,none⟩) 1 1] (w.alloc (.cells #[.int .i64 (x:Int)] 3)) fun e w'=>e = .returned (.int .i64 s.nodes.length)∧St src tb tc ts g R w0 w' (bM k line n name [x] s).2:=by
 subst hB;refine (h.alloc _).put k line n hkv hnv hX (l:=[x]) ⟨rfl,_,1,rfl,.inr ⟨w.heap.size,_,rfl,by decide,Blk.new w _ _,Nat.le_refl _,by decide,rfl,rfl⟩⟩ (fun k hk hR=>?_) hn;have:=h.res k hR;have:=lX hk;omega
theorem St.aNd (h:St src tb tc ts g R w0 w s) (x y:Nat){B:Nat} (hB:w.heap.size=B) (k line n:Nat){kv nv:Int} (hkv:((k:Nat):Int)=kv) (hnv:((n:Nat):Int)=nv){name:List UInt8}{X:ByteArray} (hX:bs name=X) (hn:s.nodes.length≤1000000):
  Calls Tryz.prog 139 #[.pointer (some ⟨g,0,none⟩),.int .i64 kv,.int .i64 line,.int .i64 nv,.string X,.slice (some ⟨B,0,none⟩) 2 2] (w.alloc (.cells #[.int .i64 (x:Int),.int .i64 (y:Int)] 3)) fun e w'=>e = .returned (.int .i64 s.nodes.length)∧St src tb tc ts g R w0 w' (bM k line n name [x,y] s).2:=by
 subst hB;refine (h.alloc _).put k line n hkv hnv hX (l:=[x,y]) ⟨rfl,_,2,rfl,.inr ⟨w.heap.size,_,rfl,by decide,Blk.new w _ _,Nat.le_refl _,by decide,rfl,rfl⟩⟩ (fun k hk hR=>?_) hn;have:=h.res k hR;have:=lX hk;omega
theorem gW:vN Tryz.prog 27 3 1 8 (.int .i64 0):=vN.mk' (by kernel_rfl) (by kernel_rfl) rfl (by decide)
structure StR (src:ByteArray) (tb tc:Nat) (ts:List Tok) (g:Nat) (R:Nat→Prop) (w0 w:World) (s:PS) (v:Value) (l:List Nat):Prop where
 st:St src tb tc ts g (RV R v) w0 w s
 own:Own w 3 1 v l.length (ints l)
 nr:∀k,blk v=some k→¬R k
 nw:∀k,blk v=some k→w0.heap.size≤k
variable {v:Value}{l:List Nat}
theorem StR.here (h:StR src tb tc ts g R w0 w s v l):St src tb tc ts g (RV R v) w w s:=h.st.here
theorem StR.step (h:StR src tb tc ts g R w0 w s v l){f:FuncId}{args:Array Value}{E:Ending→Prop}{s':PS} (c:Calls Tryz.prog f args w fun e w'=>E e∧St src tb tc ts g (RV R v) w w' s'):
  Calls Tryz.prog f args w fun e w'=>E e∧StR src tb tc ts g R w0 w' s' v l:=by
 refine c.mono fun e w' ⟨he,h'⟩=>⟨he,h.st.back h',?_,h.nr,h.nw⟩
 obtain⟨lvs,hr,_⟩:=h.st.rdr;obtain⟨nv,hb⟩:=hr.blk;exact h.own.frR hb (by decide) (by decide) h'.fr
theorem StR.to (h:StR src tb tc ts g R w0 w s v l){s':PS} (h':St src tb tc ts g (RV R v) w w' s'):StR src tb tc ts g R w0 w' s' v l:=by
 refine⟨h.st.back h',?_,h.nr,h.nw⟩;obtain⟨lvs,hr,_⟩:=h.st.rdr;obtain⟨nv,hb⟩:=hr.blk;exact h.own.frR hb (by decide) (by decide) h'.fr
theorem StR.go (h:StR src tb tc ts g R w0 w s v l) (hk:bO ts (pGo s)):StR src tb tc ts g R w0 (w.setCell ⟨g,2,none⟩ (.int .i64 ((s.i:Int)+1))) (pGo s) v l:=h.to (h.here.go hk)
theorem StR.up (h:StR src tb tc ts g R w0 w s v l) (hd:1≤s.deep):StR src tb tc ts g R w0 (w.setCell ⟨g,4,none⟩ (.int .i64 ((s.deep:Int) - 1))) (pUp s) v l:=h.to (h.here.up hd)
theorem St.row0 (h:St src tb tc ts g R w0 w s) (o:Obj) (A:Option Addr):StR src tb tc ts g R w0 (w.alloc o) s (.slice A 0 0) []:=by
 have hb:∀k,blk (.slice A 0 0)≠some k:=fun k hk=>by cases A<;>simp[blk] at hk
 obtain⟨lvs,hr,hnr⟩:=(h.alloc o).rdr;refine⟨⟨⟨lvs,hr,fun v hv k hk hR=>?_⟩,fun k hk=>?_,h.ok,h.toks,h.long,(h.alloc o).fr⟩,Own.empty _ _ _ _,fun k hk=>absurd hk (hb k),fun k hk=>absurd hk (hb k)⟩
 · rcases hR with hR|hR
   · exact hnr v hv k hk hR
   · exact hb k hR
 · rcases hk with hR|hR
   · exact (h.alloc o).res k hR
   · exact absurd hR (hb k)
theorem nK:∀{ns:List aF}{vs:List Value},bG w ns vs→∀v∈vs,∀k,blk v=some k→k<w.heap.size
 | [],[],_,_,hv,_,_=>by cases hv
 | [],_ :: _,h,_,_,_,_=>h.elim
 | _ :: _,[],h,_,_,_,_=>h.elim
 | _ :: ns,u :: vs,h,v,hv,k,hk=>by
  rcases List.mem_cons.1 hv with rfl|hv
  · exact h.1.cO hk
  · exact nK h.2 v hv k hk
theorem St.row (h:St src tb tc ts g R w0 w s){o:Obj}{v:Value}{l:List Nat} (hv:∀k,blk v=some k→k=w.heap.size) (ho:Own (w.alloc o) 3 1 v l.length (ints l)):StR src tb tc ts g R w0 (w.alloc o) s v l:=by
 obtain⟨lvs0,hr0,hnr0⟩:=h.rdr;obtain⟨lvs,hr,hnr⟩:∃lvs,Rdr src tb tc ts g lvs (w.alloc o) s∧∀v∈lvs,∀k,blk v=some k→¬R k∧k<w.heap.size:=
   ⟨lvs0,hr0.no ((fR w).alloc o),fun v hv k hk=>⟨hnr0 v hv k hk,nK hr0.below v hv k hk⟩⟩
 refine⟨⟨⟨lvs,hr,fun u hu k hk hR=>?_⟩,fun k hk=>?_,h.ok,h.toks,h.long,(h.alloc o).fr⟩,ho,fun k hk hR=>?_,fun k hk=>?_⟩
 · rcases hR with hR|hR
   · exact (hnr u hu k hk).1 hR
   · have:=hv k hR;have:=(hnr u hu k hk).2;omega
 · rcases hk with hR|hR
   · exact (h.alloc o).res k hR
   · exact ho.cO hR
 · have:=hv k hk;have:=h.res k hR;omega
 · have:=hv k hk;have:=h.fr.size;omega
theorem St.aQk (h:St src tb tc ts g R w0 w s) (x y:Nat){B:Nat} (hB:w.heap.size=B):StR src tb tc ts g R w0 (w.alloc (.cells #[.int .i64 (x:Int),.int .i64 (y:Int)] 3)) s (.slice (some ⟨B,0,none⟩) 2 2) [x,y]:=by
 subst hB;exact h.row (fun k hk=>lX hk) ⟨rfl,_,2,rfl,.inr ⟨w.heap.size,_,rfl,by decide,Blk.new w _ _,Nat.le_refl _,by decide,rfl,rfl⟩⟩
theorem gF {e:TypeId}{x:Nat} (h:Own w e 1 v (l.length+1) (ints l++[.int .i64 (x:Nat)])):Own w e 1 v (l++[x]).length (ints (l++[x])):=by
 rw[List.length_append];unfold ints at h ⊢;rw[List.map_append];exact h
theorem StR.app (h:StR src tb tc ts g R w0 w s v l){o:Obj}{v':Value}{l':List Nat} (ho:Own w' 3 1 v' l'.length (ints l')) (hf:Fr (obl (blk v)) (w.alloc o) w') (hv:blk v'=blk v∨blk v'=some (w.alloc o).heap.size):StR src tb tc ts g R w0 w' s v' l':=by
 have h1:=h.st.alloc o;obtain⟨lvs,hr,hnr⟩:=h1.rdr;have hlt:=nK hr.below;obtain⟨nv,hb,hon⟩:=hr.cells;obtain⟨b0,ht⟩:=hr.toks;have hown:=h.own.alloc o;have hrn:∀u∈lvs,∀k,blk u=some k→¬obl (blk v) k:=fun u hu k hk hm=>hnr u hu k hk (.inr hm)
 have hg:¬obl (blk v) g:=fun hm=>hown.aG hb (by decide) hm
 have hbel:∀{ns:List aF} {vs:List Value},bG (w.alloc o) ns vs→(∀u∈vs,∀k,blk u=some k→¬obl (blk v) k)→bG w' ns vs:=by
   intro ns;induction ns with
   | nil=>intro vs hb hn;cases vs with
     | nil=>trivial
     | cons _ _=>exact hb.elim
   | cons n ns ih=>intro vs hb hn;cases vs with
     | nil=>exact hb.elim
     | cons u vs=>exact⟨hb.1.fr hf (fun k hk=>hn u List.mem_cons_self k hk),ih hb.2 (fun u2 hu2=>hn u2 (List.mem_cons_of_mem _ hu2))⟩
 have hs:=hf.size;have hR':∀k,RV R v' k→k<w'.heap.size:=fun k hk=>by
   rcases hk with hk|hk
   · have:=h1.res k (.inl hk);omega
   · exact ho.cO hk
 have hfr:FrR g w0 w':=by
   refine Fr.trans h1.fr hf (fun _ _ x=>x) (fun k hk hm=>?_);have:=h.nw k hm;omega
 refine⟨⟨⟨lvs,⟨⟨nv,hb.fr hf hg,hon.fr hf (fun k hk hm=>?_)⟩,hbel hr.below hrn,hr.same,⟨b0,ht.own.fr hf (fun k hk hm=>?_),ht.new⟩,fun nv2 h1=>hr.newer nv2 (by rw[←hf.cell (p:=⟨g,3,none⟩) hb.lt hg];exact h1)⟩,fun u hu k hk hm=>?_⟩,hR',h.st.ok,h.st.toks,h.st.long,hfr⟩,ho,fun k hk=>?_,fun k hk=>?_⟩
 · exact hon.jR hown (by decide) hm hk
 · exact ht.own.jR hown (by decide) hm hk
 · rcases hm with hm|hm
   · exact hnr u hu k hk (.inl hm)
   · rcases hv with e|e
     · exact hnr u hu k hk (.inr (by rw[←e];exact hm))
     · have:=hlt u hu k hk
       rw[e] at hm;injection hm with hm;omega
 · rcases hv with e|e
   · rw[e] at hk;exact h.nr k hk
   · rw[e] at hk;injection hk with hk
     intro hR;have:=h1.res k (.inl hR);omega
 · rcases hv with e|e
   · rw[e] at hk;exact h.nw k hk
   · rw[e] at hk;injection hk with hk
     have:=h1.fr.size;omega
theorem StR.put (h:StR src tb tc ts g R w0 w s v l) (k line n:Nat){kv nv:Int} (hkv:((k:Nat):Int)=kv) (hnv:((n:Nat):Int)=nv){name:List UInt8}{X:ByteArray} (hX:bs name=X) (hn:s.nodes.length≤1000000):
  Calls Tryz.prog 139 #[.pointer (some ⟨g,0,none⟩),.int .i64 kv,.int .i64 line,.int .i64 nv,.string X,v] w fun e w'=>e = .returned (.int .i64 s.nodes.length)∧St src tb tc ts g R w0 w' (bM k line n name l s).2:=by
 have h1:St src tb tc ts g R w0 w s:=by
  obtain⟨lvs,hr,hnr⟩:=h.st.rdr;exact⟨⟨lvs,hr,fun u hu k hk hR=>hnr u hu k hk (.inl hR)⟩,fun k hk=>h.st.res k (.inl hk),h.st.ok,h.st.toks,h.st.long,h.st.fr⟩
 exact h1.put k line n hkv hnv hX h.own h.nr hn
end
section
variable {src:List UInt8}{ts:List Tok}{s:PS}
theorem eB (k:Nat) (s:PS):(aO ts k s).deep=s.deep:=by unfold aO;split<;>rfl
theorem aX (x:List UInt8) (s:PS):(aA ts x s).deep=s.deep:=by
 unfold aA;split
 · rfl
 · exact eB 20 s
theorem dZ (s:PS):(aC ts s).deep=s.deep:=by
 unfold aC;split
 · rfl
 · exact eB 20 s
theorem dF (s:PS):(aW ts s).deep=s.deep+1:=by
 unfold aW;simp only;split
 · rw[eB]
 · rfl
theorem jQ (s:PS):(pGo s).deep=s.deep:=rfl
theorem rD (s:PS):(pUp s).deep=s.deep - 1:=rfl
theorem mX (k line n:Nat) (name:List UInt8) (l:List Nat) (s:PS):(bM k line n name l s).2.deep=s.deep:=rfl
theorem gD:∀(n:Nat) (k:Task) (s:PS) (r:List Nat×PS),run src ts n k s=some r→r.2.deep=s.deep:=by
 intro n;induction n with
 | zero=>intro k s r h;simp[run] at h
 | succ n ih=>
  intro k s r h;cases k<;>simp only[run] at h<;>
   (repeat' split at h)<;>
   (try simp only[mS,bS,Option.some.injEq] at h)<;>
   (try (obtain⟨q1,h1,h⟩:=h))<;>
   (repeat' split at h)<;>
   (try simp only[mS,bS,Option.some.injEq] at h)<;>
   (try (obtain⟨q2,h2,h⟩:=h))<;>
   (repeat' split at h)<;>
   (try simp only[mS,bS,Option.some.injEq] at h)<;>
   (try (obtain⟨q3,h3,h⟩:=h))<;>
   (try subst h)<;>
   (try subst h1)<;>
   (try replace h1:=ih _ _ _ h1)<;>
   (try replace h2:=ih _ _ _ h2)<;>
   (try replace h3:=ih _ _ _ h3)<;>
   (try replace h:=ih _ _ _ h)<;>
   (try simp only[eB,aX,dZ,dF,jQ,rD,mX] at h1)<;>
   (try simp only[eB,aX,dZ,dF,jQ,rD,mX] at h2)<;>
   (try simp only[eB,aX,dZ,dF,jQ,rD,mX] at h3)<;>
   (try simp only[eB,aX,dZ,dF,jQ,rD,mX] at h)<;>
   (try simp only[eB,aX,dZ,dF,jQ,rD,mX])<;>
   (try omega)
def aRm:Task→Prop
 | .args _=>False | .stmts _=>False|_=>True
def oneOf (l:List Nat):Nat:=l.headD 0
theorem aK:∀(n:Nat) (k:Task) (s:PS) (r:List Nat×PS),run src ts n k s=some r→aRm k→r.1=[oneOf r.1]:=by
 intro n;induction n with
 | zero=>intro k s r h;simp[run] at h
 | succ n ih=>
  intro k s r h ho;cases k<;>simp only[aRm] at ho<;>simp only[run] at h<;>
   (repeat' split at h)<;>
   (try simp only[mS,bS,Option.some.injEq] at h)<;>
   (try (obtain⟨q1,h1,h⟩:=h))<;>
   (repeat' split at h)<;>
   (try simp only[mS,bS,Option.some.injEq] at h)<;>
   (try (obtain⟨q2,h2,h⟩:=h))<;>
   (repeat' split at h)<;>
   (try simp only[mS,bS,Option.some.injEq] at h)<;>
   (try (obtain⟨q3,h3,h⟩:=h))<;>
   (try subst h)<;>
   (first|rfl|exact ih _ _ _ h trivial|(have h5:=ih _ _ _ h1 trivial;exact h5))
theorem aU {s t:PS} (h:Ext s t):s.nodes.length≤t.nodes.length:=by
 obtain⟨x,hx⟩:=h.nodes;rw[hx,List.length_append];omega
end
section
variable (src:ByteArray) (tb tc:Nat) (ts:List Tok) (g:Nat)
def Does (n:Nat) (k:Task) (F:FuncId) (args:Array Value):Prop:=
 ∀(R:Nat→Prop) (w0 w:World) (s:PS) (r:List Nat×PS),St src tb tc ts g R w0 w s→run src.data.toList ts n k s=some r→r.2.nodes.length≤1000000 →
  Calls Tryz.prog F args w fun e w'=>e = .returned (.int .i64 (oneOf r.1))∧St src tb tc ts g R w0 w' r.2
structure Good (n:Nat):Prop where
 atom:Does src tb tc ts g n .atom 224 #[.pointer (some ⟨g,0,none⟩)]
 factor:Does src tb tc ts g n .factor 205 #[.pointer (some ⟨g,0,none⟩)]
 chain:∀(lv:Nat) (z:Int),((lv:Nat):Int)=z→lv≤5→Does src tb tc ts g n (.chain lv) 192 #[.pointer (some ⟨g,0,none⟩),.int .i64 z]
 expr:Does src tb tc ts g n (.chain 0) 166 #[.pointer (some ⟨g,0,none⟩)]
 call:Does src tb tc ts g n .call 191 #[.pointer (some ⟨g,0,none⟩)]
 right:Does src tb tc ts g n .right 165 #[.pointer (some ⟨g,0,none⟩)]
 block:Does src tb tc ts g n .block 93 #[.pointer (some ⟨g,0,none⟩)]
 named:∀line:Nat,Does src tb tc ts g n (.named line) 167 #[.pointer (some ⟨g,0,none⟩),.int .i64 line]
 stmt:Does src tb tc ts g n .stmt 138 #[.pointer (some ⟨g,0,none⟩)]
end
section
variable {src:ByteArray}{tb tc:Nat}{ts:List Tok}{g:Nat}{n:Nat}
theorem Does.zero (k:Task) (F:FuncId) (args:Array Value):Does src tb tc ts g 0 k F args:=by
 intro R w0 w s r h hr hn;simp[run] at hr
theorem aIs (h:∀(lv:Nat) (z:Int),((lv:Nat):Int)=z→lv≤5→Does src tb tc ts g n (.chain lv) 192 #[.pointer (some ⟨g,0,none⟩),.int .i64 z]):Does src tb tc ts g n (.chain 0) 166 #[.pointer (some ⟨g,0,none⟩)]:=by
 intro R w0 w s r h1 hr hn;have HC:=hD (h 0 0 rfl (by decide) R w0 w s r h1 hr hn);clear h h1 hr hn;go_enter Tryz.func166,Tryz.ntmps166;go_wp2_with fail
 refine HC.out.mono ?_;rintro e w1 ⟨rfl,h1⟩;have S1:=hD h1;clear h1;go_wp2_with fail
 go_ret;exact⟨rfl,S1.out⟩
theorem zS (ih:∀m,m<n→Good src tb tc ts g m):Does src tb tc ts g n .factor 205 #[.pointer (some ⟨g,0,none⟩)]:=by
 cases n with
 | zero=>exact Does.zero _ _ _
 | succ n=>
  intro R w0 w s r h hr hn;have IH:=hD (ih n (Nat.lt_succ_self n));have S0:=hD h;simp only[run] at hr;by_cases hm:pIs ts [45] s=true
  · rw[if_pos hm] at hr
    simp only[mS] at hr;obtain⟨q,hq,rfl⟩:=hr;have hd:=gD _ _ _ _ hq;rw[show (pGo (aW ts s)).deep=s.deep+1 from dF s] at hd;have hdl:=h.ok.fine (aN hm).1;have HDB:=hD (show (1:Int)≤(q.2.deep:Int)∧(q.2.deep:Int)≤20 by omega);have HD:=hD (show 1≤q.2.deep by omega);have hq1:=aK _ _ _ _ hq trivial;have hn2:q.2.nodes.length+1≤1000000:=by simpa[bM,pUp] using hn
    have HN:=hD (show q.2.nodes.length≤1000000 by omega);have HQ:=hD hq;have HM:=hD hm;have HO:=hD (h.ok.goDown h.toks hm);have H0:=hD (aN hm).1;rw[hq1];obtain⟨b,hb⟩:∃b,pIs ts [33] s=b:=⟨_,rfl⟩;have HB:=hD hb;clear hb;clear h ih hn hd hdl hn2 hq hm hq1;go_enter Tryz.func205,Tryz.ntmps205;go_wp2_with fail
    refine (S0.out.line rfl).mono ?_;rintro e w1 ⟨rfl,h1⟩;have S1:=hD h1;clear h1;go_wp2_with fail
    refine (S1.out.is ⟨#[45]⟩ (b:=true) HM.out).mono ?_;rintro e w2 ⟨rfl,h2⟩;have S2:=hD h2;clear h2;go_wp2_with fail
    refine (S2.out.is ⟨#[33]⟩ (b:=b) HB.out).mono ?_;rintro e w3 ⟨rfl,h3⟩;have S3:=hD h3;clear h3;go_wp2_with fail
    refine (S3.out.down H0.out).mono ?_;rintro e w4 ⟨rfl,h4⟩;have S4:=hD h4;clear h4;obtain⟨hg4,c14,c24,c44,c54,f24,f44⟩:=S4.out.cells;have hi4:=S4.out.i_le;go_wp2_with fail
    have HZ5:=hD (show (w4.setCell ⟨g,2,none⟩ (.int .i64 (((aW ts (s)).i:Int)+1))).heap.size=w4.heap.size by simp);have S5:=hD (S4.out.go HO.out);clear hg4 c14 c24 c44 c54 f24 f44 hi4;generalize w4.setCell ⟨g,2,none⟩ (.int .i64 (((aW ts (s)).i:Int)+1))=w5 at *;refine (IH.out.factor _ _ _ _ _ S5.out HQ.out HN.out).mono ?_;rintro e w6 ⟨rfl,h6⟩;have S6:=hD h6;clear h6;obtain⟨hg6,c16,c26,c46,c56,f26,f46⟩:=S6.out.cells;have hi6:=S6.out.i_le;obtain⟨hl6,hu6⟩:=HDB.out;go_wp2_with fail
    have HZ7:=hD (show (w6.setCell ⟨g,4,none⟩ (.int .i64 (((q.2).deep:Int) - 1))).heap.size=w6.heap.size by simp);have S7:=hD (S6.out.up HD.out);clear hg6 c16 c26 c46 c56 f26 f46 hi6 hl6 hu6;generalize w6.setCell ⟨g,4,none⟩ (.int .i64 (((q.2).deep:Int) - 1))=w7 at *;refine (S7.out.vM (oneOf q.1) HZ7.out 7 _ 0 rfl rfl (name:=[]) rfl HN.out).mono ?_;rintro e w8 ⟨rfl,h8⟩;have S8:=hD h8;clear h8;go_wp2_with fail
    go_ret;exact⟨rfl,S8.out⟩
  · rw[if_neg hm] at hr
    have hb:pIs ts [45] s=false:=by simpa using hm
    clear hm;by_cases hm:pIs ts [33] s=true
    · rw[if_pos hm] at hr
      simp only[mS] at hr;obtain⟨q,hq,rfl⟩:=hr;have hd:=gD _ _ _ _ hq;rw[show (pGo (aW ts s)).deep=s.deep+1 from dF s] at hd;have hdl:=h.ok.fine (aN hm).1;have HDB:=hD (show (1:Int)≤(q.2.deep:Int)∧(q.2.deep:Int)≤20 by omega);have HD:=hD (show 1≤q.2.deep by omega);have hq1:=aK _ _ _ _ hq trivial;have hn2:q.2.nodes.length+1≤1000000:=by simpa[bM,pUp] using hn
      have HN:=hD (show q.2.nodes.length≤1000000 by omega);have HQ:=hD hq;have HM:=hD hm;have HO:=hD (h.ok.goDown h.toks hm);have H0:=hD (aN hm).1;rw[hq1];have HB:=hD hb;clear hb;clear h ih hn hd hdl hn2 hq hm hq1;go_enter Tryz.func205,Tryz.ntmps205;go_wp2_with fail
      refine (S0.out.line rfl).mono ?_;rintro e w1 ⟨rfl,h1⟩;have S1:=hD h1;clear h1;go_wp2_with fail
      refine (S1.out.is ⟨#[45]⟩ (b:=false) HB.out).mono ?_;rintro e w2 ⟨rfl,h2⟩;have S2:=hD h2;clear h2;go_wp2_with fail
      refine (S2.out.is ⟨#[33]⟩ (b:=true) HM.out).mono ?_;rintro e w3 ⟨rfl,h3⟩;have S3:=hD h3;clear h3;go_wp2_with fail
      refine (S3.out.down H0.out).mono ?_;rintro e w4 ⟨rfl,h4⟩;have S4:=hD h4;clear h4;obtain⟨hg4,c14,c24,c44,c54,f24,f44⟩:=S4.out.cells;have hi4:=S4.out.i_le;go_wp2_with fail
      have HZ5:=hD (show (w4.setCell ⟨g,2,none⟩ (.int .i64 (((aW ts (s)).i:Int)+1))).heap.size=w4.heap.size by simp);have S5:=hD (S4.out.go HO.out);clear hg4 c14 c24 c44 c54 f24 f44 hi4;generalize w4.setCell ⟨g,2,none⟩ (.int .i64 (((aW ts (s)).i:Int)+1))=w5 at *;refine (IH.out.factor _ _ _ _ _ S5.out HQ.out HN.out).mono ?_;rintro e w6 ⟨rfl,h6⟩;have S6:=hD h6;clear h6;obtain⟨hg6,c16,c26,c46,c56,f26,f46⟩:=S6.out.cells;have hi6:=S6.out.i_le;obtain⟨hl6,hu6⟩:=HDB.out;go_wp2_with fail
      have HZ7:=hD (show (w6.setCell ⟨g,4,none⟩ (.int .i64 (((q.2).deep:Int) - 1))).heap.size=w6.heap.size by simp);have S7:=hD (S6.out.up HD.out);clear hg6 c16 c26 c46 c56 f26 f46 hi6 hl6 hu6;generalize w6.setCell ⟨g,4,none⟩ (.int .i64 (((q.2).deep:Int) - 1))=w7 at *;refine (S7.out.vM (oneOf q.1) HZ7.out 8 _ 0 rfl rfl (name:=[]) rfl HN.out).mono ?_;rintro e w8 ⟨rfl,h8⟩;have S8:=hD h8;clear h8;go_wp2_with fail
      go_ret;exact⟨rfl,S8.out⟩
    · rw[if_neg hm] at hr
      have HB:=hD hb;have HB2:=hD (show pIs ts [33] s=false by simpa using hm);have HQ:=hD hr;have HN:=hD hn;clear h ih hn hm hb hr;go_enter Tryz.func205,Tryz.ntmps205;go_wp2_with fail
      refine (S0.out.line rfl).mono ?_;rintro e w1 ⟨rfl,h1⟩;have S1:=hD h1;clear h1;go_wp2_with fail
      refine (S1.out.is ⟨#[45]⟩ (b:=false) HB.out).mono ?_;rintro e w2 ⟨rfl,h2⟩;have S2:=hD h2;clear h2;go_wp2_with fail
      refine (S2.out.is ⟨#[33]⟩ (b:=false) HB2.out).mono ?_;rintro e w3 ⟨rfl,h3⟩;have S3:=hD h3;clear h3;go_wp2_with fail
      refine (IH.out.atom _ _ _ _ _ S3.out HQ.out HN.out).mono ?_;rintro e w4 ⟨rfl,h4⟩;have S4:=hD h4;clear h4;go_wp2_with fail
      go_ret;exact⟨rfl,S4.out⟩
end
section
variable {src:ByteArray}{tb tc:Nat}{ts:List Tok}{g:Nat}{n:Nat}
theorem aCx (ih:∀m,m<n→Good src tb tc ts g m):Does src tb tc ts g n .right 165 #[.pointer (some ⟨g,0,none⟩)]:=by
 cases n with
 | zero=>exact Does.zero _ _ _
 | succ n=>
  intro R w0 w s r h hr hn;have IH:=hD (ih n (Nat.lt_succ_self n));have S0:=hD h;simp only[run] at hr;by_cases hm:pIs ts [105,110,112,117,116] s=true
  · rw[if_pos hm] at hr
    simp only[Option.some.injEq] at hr;subst hr;have hn2:s.nodes.length+1≤1000000:=by simpa[bM,pGo] using hn
    have HN:=hD (show s.nodes.length≤1000000 by omega);have HM:=hD hm;have HO:=hD (h.ok.iZ h.toks hm);clear h ih hn hn2 hm;go_enter Tryz.func165,Tryz.ntmps165;go_wp2_with fail
    refine (S0.out.line rfl).mono ?_;rintro e w1 ⟨rfl,h1⟩;have S1:=hD h1;clear h1;go_wp2_with fail
    refine (S1.out.is ⟨#[105,110,112,117,116]⟩ (b:=true) HM.out).mono ?_;rintro e w2 ⟨rfl,h2⟩;have S2:=hD h2;clear h2;obtain⟨hg2,c12,c22,c42,c52,f22,f42⟩:=S2.out.cells;have hi2:=S2.out.i_le;go_wp2_with fail
    have S3:=hD (S2.out.go HO.out);clear hg2 c12 c22 c42 c52 f22 f42 hi2;generalize w2.setCell ⟨g,2,none⟩ (.int .i64 (((s).i:Int)+1))=w3 at *;refine (S3.out.uP 19 _ 0 rfl rfl (name:=[]) rfl HN.out).mono ?_;rintro e w4 ⟨rfl,h4⟩;have S4:=hD h4;clear h4;go_wp2_with fail
    go_ret;exact⟨rfl,S4.out⟩
  · rw[if_neg hm] at hr
    have HA:=hD (show pIs ts [105,110,112,117,116] s=false by simpa using hm);clear hm;by_cases hm:pIs ts [110,101,119] s=true
    · rw[if_pos hm] at hr
      simp only[mS] at hr;obtain⟨q,hq,rfl⟩:=hr;have hq1:=aK _ _ _ _ hq trivial;have hn2:(aA ts [41] q.2).nodes.length+1≤1000000:=by simpa[bM] using hn
      have HN:=hD (show (aA ts [41] q.2).nodes.length≤1000000 by omega);have HN1:=hD (Nat.le_trans (aU ((Ext.refl q.2).must (ts:=ts) [41])) HN.out);have HM:=hD hm;have HO:=hD (h.ok.iZ h.toks hm);have HQ:=hD hq;rw[hq1];clear h ih hn hn2 hm hq hq1;go_enter Tryz.func165,Tryz.ntmps165;go_wp2_with fail
      refine (S0.out.line rfl).mono ?_;rintro e w1 ⟨rfl,h1⟩;have S1:=hD h1;clear h1;go_wp2_with fail
      refine (S1.out.is ⟨#[105,110,112,117,116]⟩ (b:=false) HA.out).mono ?_;rintro e w2 ⟨rfl,h2⟩;have S2:=hD h2;clear h2;go_wp2_with fail
      refine (S2.out.is ⟨#[110,101,119]⟩ (b:=true) HM.out).mono ?_;rintro e w3 ⟨rfl,h3⟩;have S3:=hD h3;clear h3;obtain⟨hg3,c13,c23,c43,c53,f23,f43⟩:=S3.out.cells;have hi3:=S3.out.i_le;go_wp2_with fail
      have S4:=hD (S3.out.go HO.out);clear hg3 c13 c23 c43 c53 f23 f43 hi3;generalize w3.setCell ⟨g,2,none⟩ (.int .i64 (((s).i:Int)+1))=w4 at *;refine (S4.out.must ⟨#[40]⟩).mono ?_;rintro e w5 ⟨rfl,h5⟩;have S5:=hD h5;clear h5;go_wp2_with fail
      refine (IH.out.expr _ _ _ _ _ S5.out HQ.out HN1.out).mono ?_;rintro e w6 ⟨rfl,h6⟩;have S6:=hD h6;clear h6;go_wp2_with fail
      refine (S6.out.must ⟨#[41]⟩).mono ?_;rintro e w7 ⟨rfl,h7⟩;have S7:=hD h7;clear h7;go_wp2_with fail
      refine (S7.out.vM (oneOf q.1) rfl 20 _ 0 rfl rfl (name:=[]) rfl HN.out).mono ?_;rintro e w8 ⟨rfl,h8⟩;have S8:=hD h8;clear h8;go_wp2_with fail
      go_ret;exact⟨rfl,S8.out⟩
    · rw[if_neg hm] at hr
      have HB:=hD (show pIs ts [110,101,119] s=false by simpa using hm);clear hm;have HN:=hD hn;by_cases hm:dU ts s=true
      · rw[if_pos hm] at hr
        have HM:=hD hm;have HQ:=hD hr;clear h ih hn hm hr;go_enter Tryz.func165,Tryz.ntmps165;go_wp2_with fail
        refine (S0.out.line rfl).mono ?_;rintro e w1 ⟨rfl,h1⟩;have S1:=hD h1;clear h1;go_wp2_with fail
        refine (S1.out.is ⟨#[105,110,112,117,116]⟩ (b:=false) HA.out).mono ?_;rintro e w2 ⟨rfl,h2⟩;have S2:=hD h2;clear h2;go_wp2_with fail
        refine (S2.out.is ⟨#[110,101,119]⟩ (b:=false) HB.out).mono ?_;rintro e w3 ⟨rfl,h3⟩;have S3:=hD h3;clear h3;go_wp2_with fail
        refine (S3.out.calls (b:=true) HM.out).mono ?_;rintro e w4 ⟨rfl,h4⟩;have S4:=hD h4;clear h4;go_wp2_with fail
        refine (IH.out.call _ _ _ _ _ S4.out HQ.out HN.out).mono ?_;rintro e w5 ⟨rfl,h5⟩;have S5:=hD h5;clear h5;go_wp2_with fail
        go_ret;exact⟨rfl,S5.out⟩
      · rw[if_neg hm] at hr
        have HM:=hD (show dU ts s=false by simpa using hm);have HQ:=hD hr;clear h ih hn hm hr;go_enter Tryz.func165,Tryz.ntmps165;go_wp2_with fail
        refine (S0.out.line rfl).mono ?_;rintro e w1 ⟨rfl,h1⟩;have S1:=hD h1;clear h1;go_wp2_with fail
        refine (S1.out.is ⟨#[105,110,112,117,116]⟩ (b:=false) HA.out).mono ?_;rintro e w2 ⟨rfl,h2⟩;have S2:=hD h2;clear h2;go_wp2_with fail
        refine (S2.out.is ⟨#[110,101,119]⟩ (b:=false) HB.out).mono ?_;rintro e w3 ⟨rfl,h3⟩;have S3:=hD h3;clear h3;go_wp2_with fail
        refine (S3.out.calls (b:=false) HM.out).mono ?_;rintro e w4 ⟨rfl,h4⟩;have S4:=hD h4;clear h4;go_wp2_with fail
        refine (IH.out.expr _ _ _ _ _ S4.out HQ.out HN.out).mono ?_;rintro e w5 ⟨rfl,h5⟩;have S5:=hD h5;clear h5;go_wp2_with fail
        go_ret;exact⟨rfl,S5.out⟩
end
section
variable {src:ByteArray}{tb tc:Nat}{ts:List Tok}{g:Nat}{n:Nat}
theorem aDy (ih:∀m,m<n→Good src tb tc ts g m) (line:Nat):Does src tb tc ts g n (.named line) 167 #[.pointer (some ⟨g,0,none⟩),.int .i64 line]:=by
 cases n with
 | zero=>exact Does.zero _ _ _
 | succ n=>
  intro R w0 w s r h hr hn;have IH:=hD (ih n (Nat.lt_succ_self n));have S0:=hD h;simp only[run] at hr;by_cases hm:dU ts s=true
  · rw[if_pos hm] at hr
    simp only[mS] at hr;obtain⟨q,hq,rfl⟩:=hr;have hq1:=aK _ _ _ _ hq trivial;have hn2:(aA ts [59] q.2).nodes.length+1≤1000000:=by simpa[bM] using hn
    have HN:=hD (show (aA ts [59] q.2).nodes.length≤1000000 by omega);have HN1:=hD (Nat.le_trans (aU ((Ext.refl q.2).must (ts:=ts) [59])) HN.out);have HM:=hD hm;have HQ:=hD hq;rw[hq1];clear h ih hn hn2 hm hq hq1;go_enter Tryz.func167,Tryz.ntmps167;go_wp2_with fail
    refine (S0.out.calls (b:=true) HM.out).mono ?_;rintro e w1 ⟨rfl,h1⟩;have S1:=hD h1;clear h1;go_wp2_with fail
    refine (IH.out.call _ _ _ _ _ S1.out HQ.out HN1.out).mono ?_;rintro e w2 ⟨rfl,h2⟩;have S2:=hD h2;clear h2;go_wp2_with fail
    refine (S2.out.must ⟨#[59]⟩).mono ?_;rintro e w3 ⟨rfl,h3⟩;have S3:=hD h3;clear h3;go_wp2_with fail
    refine (S3.out.vM (oneOf q.1) rfl 13 _ 0 rfl rfl (name:=[]) rfl HN.out).mono ?_;rintro e w4 ⟨rfl,h4⟩;have S4:=hD h4;clear h4;go_wp2_with fail
    go_ret;exact⟨rfl,S4.out⟩
  · rw[if_neg hm] at hr
    have HM:=hD (show dU ts s=false by simpa using hm);clear hm;by_cases hm:pIs ts [91] (aC ts s)=true
    · rw[if_pos hm] at hr
      simp only[mS,bS] at hr;obtain⟨q,hq,u,hu,rfl⟩:=hr;have hq1:=aK _ _ _ _ hq trivial;have hu1:=aK _ _ _ _ hu trivial;have hd:=gD _ _ _ _ hq;rw[aX,dF,dZ] at hd;have hdl:=(h.ok.named h.toks).fine (aN hm).1;rw[dZ] at hdl;have HDB:=hD (show (1:Int)≤((aA ts [93] q.2).deep:Int)∧((aA ts [93] q.2).deep:Int)≤20 by rw[aX];omega);have HD:=hD (show 1≤(aA ts [93] q.2).deep by rw[aX];omega);have hn2:(aA ts [59] u.2).nodes.length+1≤1000000:=by simpa[bM] using hn
      have HN:=hD (show (aA ts [59] u.2).nodes.length≤1000000 by omega);have HN1:=hD (Nat.le_trans (aU ((Ext.refl u.2).must (ts:=ts) [59])) HN.out);have HN2:=hD (Nat.le_trans (aU (((((Ext.refl q.2).must (ts:=ts) [93]).up).must (ts:=ts) [61]).trans (aI _ _ _ _ hu))) HN1.out);have HB:=hD hm;have H0:=hD (aN hm).1;have HQ:=hD hq;have HU:=hD hu;rw[hq1,hu1];clear h ih hn hn2 hm hq hq1 hu hu1 hd hdl;rw[show [oneOf q.1]++[oneOf u.1]=[oneOf q.1,oneOf u.1] from rfl];go_enter Tryz.func167,Tryz.ntmps167;go_wp2_with fail
      refine (S0.out.calls (b:=false) HM.out).mono ?_;rintro e w1 ⟨rfl,h1⟩;have S1:=hD h1;clear h1;go_wp2_with fail
      refine (S1.out.name rfl).mono ?_;rintro e w2 ⟨rfl,h2⟩;have S2:=hD h2;clear h2;go_wp2_with fail
      refine (S2.out.is ⟨#[91]⟩ (b:=true) HB.out).mono ?_;rintro e w3 ⟨rfl,h3⟩;have S3:=hD h3;clear h3;go_wp2_with fail
      refine (S3.out.down H0.out).mono ?_;rintro e w4 ⟨rfl,h4⟩;have S4:=hD h4;clear h4;go_wp2_with fail
      refine (S4.out.must ⟨#[91]⟩).mono ?_;rintro e w5 ⟨rfl,h5⟩;have S5:=hD h5;clear h5;go_wp2_with fail
      refine (IH.out.expr _ _ _ _ _ S5.out HQ.out HN2.out).mono ?_;rintro e w6 ⟨rfl,h6⟩;have S6:=hD h6;clear h6;go_wp2_with fail
      refine (S6.out.must ⟨#[93]⟩).mono ?_;rintro e w7 ⟨rfl,h7⟩;have S7:=hD h7;clear h7;obtain⟨hg7,c17,c27,c47,c57,f27,f47⟩:=S7.out.cells;have hi7:=S7.out.i_le;obtain⟨hl7,hu7⟩:=HDB.out;go_wp2_with fail
      have S8:=hD (S7.out.up HD.out);clear hg7 c17 c27 c47 c57 f27 f47 hi7 hl7 hu7;generalize w7.setCell ⟨g,4,none⟩ (.int .i64 (((aA ts [93] (q.2)).deep:Int) - 1))=w8 at *;refine (S8.out.must ⟨#[61]⟩).mono ?_;rintro e w9 ⟨rfl,h9⟩;have S9:=hD h9;clear h9;go_wp2_with fail
      refine (IH.out.expr _ _ _ _ _ S9.out HU.out HN1.out).mono ?_;rintro e w10 ⟨rfl,h10⟩;have S10:=hD h10;clear h10;go_wp2_with fail
      refine (S10.out.must ⟨#[59]⟩).mono ?_;rintro e w11 ⟨rfl,h11⟩;have S11:=hD h11;clear h11;go_wp2_with fail
      refine (S11.out.aNd (oneOf q.1) (oneOf u.1) rfl 12 _ 0 rfl rfl (name:=(bK ts s)) rfl HN.out).mono ?_;rintro e w12 ⟨rfl,h12⟩;have S12:=hD h12;clear h12;go_wp2_with fail
      go_ret;exact⟨rfl,S12.out⟩
    · rw[if_neg hm] at hr
      simp only[mS] at hr;obtain⟨q,hq,rfl⟩:=hr;have hq1:=aK _ _ _ _ hq trivial;have hn2:(aA ts [59] q.2).nodes.length+1≤1000000:=by simpa[bM] using hn
      have HN:=hD (show (aA ts [59] q.2).nodes.length≤1000000 by omega);have HN1:=hD (Nat.le_trans (aU ((Ext.refl q.2).must (ts:=ts) [59])) HN.out);have HB:=hD (show pIs ts [91] (aC ts s)=false by simpa using hm);have HQ:=hD hq;rw[hq1];clear h ih hn hn2 hm hq hq1;go_enter Tryz.func167,Tryz.ntmps167;go_wp2_with fail
      refine (S0.out.calls (b:=false) HM.out).mono ?_;rintro e w1 ⟨rfl,h1⟩;have S1:=hD h1;clear h1;go_wp2_with fail
      refine (S1.out.name rfl).mono ?_;rintro e w2 ⟨rfl,h2⟩;have S2:=hD h2;clear h2;go_wp2_with fail
      refine (S2.out.is ⟨#[91]⟩ (b:=false) HB.out).mono ?_;rintro e w3 ⟨rfl,h3⟩;have S3:=hD h3;clear h3;go_wp2_with fail
      refine (S3.out.must ⟨#[61]⟩).mono ?_;rintro e w4 ⟨rfl,h4⟩;have S4:=hD h4;clear h4;go_wp2_with fail
      refine (IH.out.right _ _ _ _ _ S4.out HQ.out HN1.out).mono ?_;rintro e w5 ⟨rfl,h5⟩;have S5:=hD h5;clear h5;go_wp2_with fail
      refine (S5.out.must ⟨#[59]⟩).mono ?_;rintro e w6 ⟨rfl,h6⟩;have S6:=hD h6;clear h6;go_wp2_with fail
      refine (S6.out.vM (oneOf q.1) rfl 11 _ 0 rfl rfl (name:=(bK ts s)) rfl HN.out).mono ?_;rintro e w7 ⟨rfl,h7⟩;have S7:=hD h7;clear h7;go_wp2_with fail
      go_ret;exact⟨rfl,S7.out⟩
end
section
variable {src:ByteArray}{tb tc:Nat}{ts:List Tok}{g:Nat}{n:Nat}
theorem vX {src:List UInt8}{n:Nat}{s:PS}{r:List Nat×PS} (h:run src ts n .stmt s=some r):s.nodes.length+1≤r.2.nodes.length:=by
 have key:∀{t:PS},Ext s t→∀(k line m:Nat) (name:List UInt8) (l:List Nat),s.nodes.length+1≤(bM k line m name l t).2.nodes.length:=fun h k line m name l=>by
  have:=aU h;simp[bM];omega
 have named:∀{n line:Nat} {r:List Nat×PS},run src ts n (.named line) s=some r→s.nodes.length+1≤r.2.nodes.length:=by
  intro n line r h;cases n with
  | zero=>simp[run] at h
  | succ n=>
    simp only[run] at h
    (repeat' split at h)<;>
    (try simp only[mS,bS] at h)<;>
    (try (obtain⟨q1,h1,h⟩:=h))<;>
    (try (obtain⟨q2,h2,h⟩:=h))<;>
    (try subst h)<;>
    (refine key ?_ _ _ _ _ _)<;>
    (repeat (first
      | exact Ext.refl _
      | apply Ext.up
      | apply Ext.must
      | (refine Ext.trans ?_ (aI _ _ _ _ (by assumption)))
      | apply Ext.named
      | apply Ext.go
      | apply Ext.down
      | dsimp only))
 cases n with
 | zero=>simp[run] at h
 | succ n=>
  simp only[run] at h
  (repeat' split at h)<;>
    (try simp only[mS,bS,Option.some.injEq] at h)<;>
    (first|exact named h|skip)<;>
    (try (obtain⟨q1,h1,h⟩:=h))<;>
    (try (obtain⟨q2,h2,h⟩:=h))<;>
    (repeat' split at h)<;>
    (try simp only[mS,bS,Option.some.injEq] at h)<;>
    (try (obtain⟨q3,h3,h⟩:=h))<;>
    (try subst h)<;>
    (refine key ?_ _ _ _ _ _)<;>
    (repeat (first
      | exact Ext.refl _
      | apply Ext.up
      | apply Ext.must
      | (refine Ext.trans ?_ (aI _ _ _ _ (by assumption)))
      | apply Ext.named
      | apply Ext.go
      | apply Ext.down
      | dsimp only))
theorem aLt (ih:Good src tb tc ts g n){R:Nat→Prop}{w0 w:World}{s:PS}{r:List Nat×PS} (h:St src tb tc ts g R w0 w s) (hw:bH ts s=[108,101,116]) (hr:((run src.data.toList ts n .right (aA ts [61] (aC ts (pGo s)))).map fun r=>bM 10 (aS src.data.toList ts s) 0 (bK ts (pGo s)) r.1 (aA ts [59] r.2))=some r) (hn:r.2.nodes.length≤1000000):
  Calls Tryz.prog 138 #[.pointer (some ⟨g,0,none⟩)] w fun e w'=>e = .returned (.int .i64 (oneOf r.1))∧St src tb tc ts g R w0 w' r.2:=by
 have IH:=hD ih;have S0:=hD h;have HW:=hD (show bs (bH ts s)=⟨#[108,101,116]⟩ by rw[hw];rfl);have HO:=hD (h.ok.fA h.toks hw (by decide));simp only[mS] at hr;obtain⟨q,hq,rfl⟩:=hr;have hq1:=aK _ _ _ _ hq trivial;have hn2:(aA ts [59] q.2).nodes.length+1≤1000000:=by simpa[bM] using hn
 have HN:=hD (show (aA ts [59] q.2).nodes.length≤1000000 by omega);have HN1:=hD (Nat.le_trans (aU ((Ext.refl q.2).must (ts:=ts) [59])) HN.out);have HQ:=hD hq;rw[hq1];clear h ih hn hn2 hq hq1 hw;go_enter Tryz.func138,Tryz.ntmps138;go_wp2_with fail
 refine (S0.out.line rfl).mono ?_;rintro e w1 ⟨rfl,h1⟩;have S1:=hD h1;clear h1;go_wp2_with fail
 refine (S1.out.word HW.out).mono ?_;rintro e w2 ⟨rfl,h2⟩;have S2:=hD h2;clear h2;obtain⟨hg2,c12,c22,c42,c52,f22,f42⟩:=S2.out.cells;have hi2:=S2.out.i_le;go_wp2_with fail
 have S3:=hD (S2.out.go HO.out);clear hg2 c12 c22 c42 c52 f22 f42 hi2;generalize w2.setCell ⟨g,2,none⟩ (.int .i64 (((s).i:Int)+1))=w3 at *;refine (S3.out.name rfl).mono ?_;rintro e w4 ⟨rfl,h4⟩;have S4:=hD h4;clear h4;go_wp2_with fail
 refine (S4.out.must ⟨#[61]⟩).mono ?_;rintro e w5 ⟨rfl,h5⟩;have S5:=hD h5;clear h5;go_wp2_with fail
 refine (IH.out.right _ _ _ _ _ S5.out HQ.out HN1.out).mono ?_;rintro e w6 ⟨rfl,h6⟩;have S6:=hD h6;clear h6;go_wp2_with fail
 refine (S6.out.must ⟨#[59]⟩).mono ?_;rintro e w7 ⟨rfl,h7⟩;have S7:=hD h7;clear h7;go_wp2_with fail
 refine (S7.out.vM (oneOf q.1) rfl 10 _ 0 rfl rfl (name:=(bK ts (pGo s))) rfl HN.out).mono ?_;rintro e w8 ⟨rfl,h8⟩;have S8:=hD h8;clear h8;go_wp2_with fail
 go_ret;exact⟨rfl,S8.out⟩
theorem aDv (ih:Good src tb tc ts g n){R:Nat→Prop}{w0 w:World}{s:PS}{r:List Nat×PS} (h:St src tb tc ts g R w0 w s) (hw:bH ts s=[112,114,105,110,116]) (hr:((run src.data.toList ts n (.chain 0) (pGo s)).map fun r=>bM 14 (aS src.data.toList ts s) 0 [] r.1 (aA ts [59] r.2))=some r) (hn:r.2.nodes.length≤1000000):
  Calls Tryz.prog 138 #[.pointer (some ⟨g,0,none⟩)] w fun e w'=>e = .returned (.int .i64 (oneOf r.1))∧St src tb tc ts g R w0 w' r.2:=by
 have IH:=hD ih;have S0:=hD h;have HW:=hD (show bs (bH ts s)=⟨#[112,114,105,110,116]⟩ by rw[hw];rfl);have HO:=hD (h.ok.fA h.toks hw (by decide));simp only[mS] at hr;obtain⟨q,hq,rfl⟩:=hr;have hq1:=aK _ _ _ _ hq trivial;have hn2:(aA ts [59] q.2).nodes.length+1≤1000000:=by simpa[bM] using hn
 have HN:=hD (show (aA ts [59] q.2).nodes.length≤1000000 by omega);have HN1:=hD (Nat.le_trans (aU ((Ext.refl q.2).must (ts:=ts) [59])) HN.out);have HQ:=hD hq;rw[hq1];clear h ih hn hn2 hq hq1 hw;go_enter Tryz.func138,Tryz.ntmps138;go_wp2_with fail
 refine (S0.out.line rfl).mono ?_;rintro e w1 ⟨rfl,h1⟩;have S1:=hD h1;clear h1;go_wp2_with fail
 refine (S1.out.word HW.out).mono ?_;rintro e w2 ⟨rfl,h2⟩;have S2:=hD h2;clear h2;obtain⟨hg2,c12,c22,c42,c52,f22,f42⟩:=S2.out.cells;have hi2:=S2.out.i_le;go_wp2_with fail
 have S3:=hD (S2.out.go HO.out);clear hg2 c12 c22 c42 c52 f22 f42 hi2;generalize w2.setCell ⟨g,2,none⟩ (.int .i64 (((s).i:Int)+1))=w3 at *;refine (IH.out.expr _ _ _ _ _ S3.out HQ.out HN1.out).mono ?_;rintro e w4 ⟨rfl,h4⟩;have S4:=hD h4;clear h4;go_wp2_with fail
 refine (S4.out.must ⟨#[59]⟩).mono ?_;rintro e w5 ⟨rfl,h5⟩;have S5:=hD h5;clear h5;go_wp2_with fail
 refine (S5.out.vM (oneOf q.1) rfl 14 _ 0 rfl rfl (name:=[]) rfl HN.out).mono ?_;rintro e w6 ⟨rfl,h6⟩;have S6:=hD h6;clear h6;go_wp2_with fail
 go_ret;exact⟨rfl,S6.out⟩
theorem aCg (ih:Good src tb tc ts g n){R:Nat→Prop}{w0 w:World}{s:PS}{r:List Nat×PS} (h:St src tb tc ts g R w0 w s) (hw:bH ts s=[119,104,105,108,101]) (hr:((run src.data.toList ts n (.chain 0) (pGo s)).bind fun r=>(run src.data.toList ts n .block r.2).map fun b=>bM 16 (aS src.data.toList ts s) 0 [] (r.1++b.1) b.2)=some r) (hn:r.2.nodes.length≤1000000):
  Calls Tryz.prog 138 #[.pointer (some ⟨g,0,none⟩)] w fun e w'=>e = .returned (.int .i64 (oneOf r.1))∧St src tb tc ts g R w0 w' r.2:=by
 have IH:=hD ih;have S0:=hD h;have HW:=hD (show bs (bH ts s)=⟨#[119,104,105,108,101]⟩ by rw[hw];rfl);have HO:=hD (h.ok.fA h.toks hw (by decide));simp only[mS,bS] at hr;obtain⟨q,hq,u,hu,rfl⟩:=hr;have hq1:=aK _ _ _ _ hq trivial;have hu1:=aK _ _ _ _ hu trivial;have hn2:u.2.nodes.length+1≤1000000:=by simpa[bM] using hn
 have HN:=hD (show u.2.nodes.length≤1000000 by omega);have HN1:=hD (Nat.le_trans (aU (aI _ _ _ _ hu)) HN.out);have HQ:=hD hq;have HU:=hD hu;rw[hq1,hu1];clear h ih hn hn2 hq hq1 hu hu1 hw;rw[show [oneOf q.1]++[oneOf u.1]=[oneOf q.1,oneOf u.1] from rfl];go_enter Tryz.func138,Tryz.ntmps138;go_wp2_with fail
 refine (S0.out.line rfl).mono ?_;rintro e w1 ⟨rfl,h1⟩;have S1:=hD h1;clear h1;go_wp2_with fail
 refine (S1.out.word HW.out).mono ?_;rintro e w2 ⟨rfl,h2⟩;have S2:=hD h2;clear h2;obtain⟨hg2,c12,c22,c42,c52,f22,f42⟩:=S2.out.cells;have hi2:=S2.out.i_le;go_wp2_with fail
 have S3:=hD (S2.out.go HO.out);clear hg2 c12 c22 c42 c52 f22 f42 hi2;generalize w2.setCell ⟨g,2,none⟩ (.int .i64 (((s).i:Int)+1))=w3 at *;refine (IH.out.expr _ _ _ _ _ S3.out HQ.out HN1.out).mono ?_;rintro e w4 ⟨rfl,h4⟩;have S4:=hD h4;clear h4;go_wp2_with fail
 refine (IH.out.block _ _ _ _ _ S4.out HU.out HN.out).mono ?_;rintro e w5 ⟨rfl,h5⟩;have S5:=hD h5;clear h5;go_wp2_with fail
 refine (S5.out.aNd (oneOf q.1) (oneOf u.1) rfl 16 _ 0 rfl rfl (name:=[]) rfl HN.out).mono ?_;rintro e w6 ⟨rfl,h6⟩;have S6:=hD h6;clear h6;go_wp2_with fail
 go_ret;exact⟨rfl,S6.out⟩
theorem aOe (ih:Good src tb tc ts g n){R:Nat→Prop}{w0 w:World}{s:PS}{r:List Nat×PS} (h:St src tb tc ts g R w0 w s) (hw:bH ts s=[105,102]) (hr:((run src.data.toList ts n (.chain 0) (pGo s)).bind fun r=>(run src.data.toList ts n .block r.2).bind fun b=>
    if pIs ts [101,108,115,101] b.2 then (run src.data.toList ts n .block (pGo b.2)).map fun c=>bM 15 (aS src.data.toList ts s) 0 [] (r.1++b.1++c.1) c.2
    else some (bM 15 (aS src.data.toList ts s) 0 [] (r.1++b.1) b.2))=some r) (hn:r.2.nodes.length≤1000000):
   Calls Tryz.prog 138 #[.pointer (some ⟨g,0,none⟩)] w fun e w'=>e = .returned (.int .i64 (oneOf r.1))∧St src tb tc ts g R w0 w' r.2:=by
 have IH:=hD ih;have S0:=hD h;have HW:=hD (show bs (bH ts s)=⟨#[105,102]⟩ by rw[hw];rfl);have HO:=hD (h.ok.fA h.toks hw (by decide));simp only[bS] at hr;obtain⟨q,hq,u,hu,hr⟩:=hr;have hq1:=aK _ _ _ _ hq trivial;have hu1:=aK _ _ _ _ hu trivial;have hgo:=h.ok.fA h.toks hw (by decide);have hok:=gV h.toks _ _ _ _ hu (gV h.toks _ _ _ _ hq hgo);rw[hq1,hu1] at hr;rw[show [oneOf q.1]++[oneOf u.1]=[oneOf q.1,oneOf u.1] from rfl] at hr;split at hr
 · rename_i hm
   simp only[mS] at hr;obtain⟨c,hc,rfl⟩:=hr;have hc1:=aK _ _ _ _ hc trivial;have hn2:c.2.nodes.length+1≤1000000:=by simpa[bM] using hn
   have HN:=hD (show c.2.nodes.length≤1000000 by omega);have HN1:=hD (Nat.le_trans (aU (((Ext.refl u.2).go).trans (aI _ _ _ _ hc))) HN.out);have HN2:=hD (Nat.le_trans (aU (aI _ _ _ _ hu)) HN1.out);have HQ:=hD hq;have HU:=hD hu;have HC:=hD hc;have HM:=hD hm;have HP:=hD (hok.iZ h.toks hm);rw[hc1];rw[show [oneOf q.1,oneOf u.1]++[oneOf c.1]=[oneOf q.1,oneOf u.1,oneOf c.1] from rfl];clear h ih hn hn2 hq hq1 hu hu1 hw hc hc1 hm hok hgo;go_enter Tryz.func138,Tryz.ntmps138;go_wp2_with fail
   refine (S0.out.line rfl).mono ?_;rintro e w1 ⟨rfl,h1⟩;have S1:=hD h1;clear h1;go_wp2_with fail
   refine (S1.out.word HW.out).mono ?_;rintro e w2 ⟨rfl,h2⟩;have S2:=hD h2;clear h2;obtain⟨hg2,c12,c22,c42,c52,f22,f42⟩:=S2.out.cells;have hi2:=S2.out.i_le;go_wp2_with fail
   have HZ3:=hD (show (w2.setCell ⟨g,2,none⟩ (.int .i64 (((s).i:Int)+1))).heap.size=w2.heap.size by simp);have S3:=hD (S2.out.go HO.out);clear hg2 c12 c22 c42 c52 f22 f42 hi2;generalize w2.setCell ⟨g,2,none⟩ (.int .i64 (((s).i:Int)+1))=w3 at *;refine (IH.out.expr _ _ _ _ _ S3.out HQ.out HN2.out).mono ?_;rintro e w4 ⟨rfl,h4⟩;have S4:=hD h4;clear h4;go_wp2_with fail
   refine (IH.out.block _ _ _ _ _ S4.out HU.out HN1.out).mono ?_;rintro e w5 ⟨rfl,h5⟩;have S5:=hD h5;clear h5;go_wp2_with fail
   have S6:=hD (S5.out.aQk (oneOf q.1) (oneOf u.1) rfl);refine (S6.out.step (S6.out.here.is ⟨#[101,108,115,101]⟩ (b:=true) HM.out)).mono ?_;rintro e w7 ⟨rfl,h7⟩;have S7:=hD h7;clear h7;obtain⟨hg7,c17,c27,c47,c57,f27,f47⟩:=S7.out.st.cells;have hi7:=S7.out.st.i_le;go_wp2_with fail
   have S8:=hD (S7.out.go HP.out);clear hg7 c17 c27 c47 c57 f27 f47 hi7;generalize w7.setCell ⟨g,2,none⟩ (.int .i64 (((u.2).i:Int)+1))=w8 at *;refine (S8.out.step (IH.out.block _ _ _ _ _ S8.out.here HC.out HN.out)).mono ?_;rintro e w9 ⟨rfl,h9⟩;have S9:=hD h9;clear h9;go_wp2_with (at_builtin;go_loud (refine aL (m:=1) (news:=[.int .i64 (oneOf c.1:Nat)]) rfl _ _ rfl gW rfl rfl (S9.out.own.alloc _) (Rd.fC (n:=1) (cs:=[.int .i64 (oneOf c.1:Nat)]) (Blk.new _ _ _) rfl (by decide)) (by simp[Value.oneCell']) (by simp[maxLen]) (by simp[maxLen]) ?_);intro A10 c10 w10 ho10 hf10 hv10;have S10:=hD (S9.out.app (gF ho10) hf10 hv10);clear ho10 hf10 hv10)
   refine (S10.out.put 15 _ 0 rfl rfl (name:=[]) rfl HN.out).mono ?_;rintro e w11 ⟨rfl,h11⟩;have S11:=hD h11;clear h11;go_wp2_with fail
   go_ret;exact⟨rfl,S11.out⟩
 · rename_i hm
   simp only[Option.some.injEq] at hr;subst hr;have hn2:u.2.nodes.length+1≤1000000:=by simpa[bM] using hn
   have HN:=hD (show u.2.nodes.length≤1000000 by omega);have HN2:=hD (Nat.le_trans (aU (aI _ _ _ _ hu)) HN.out);have HQ:=hD hq;have HU:=hD hu;have HM:=hD (show pIs ts [101,108,115,101] u.2=false by simpa using hm);clear h ih hn hn2 hq hq1 hu hu1 hw hm hok hgo;go_enter Tryz.func138,Tryz.ntmps138;go_wp2_with fail
   refine (S0.out.line rfl).mono ?_;rintro e w1 ⟨rfl,h1⟩;have S1:=hD h1;clear h1;go_wp2_with fail
   refine (S1.out.word HW.out).mono ?_;rintro e w2 ⟨rfl,h2⟩;have S2:=hD h2;clear h2;obtain⟨hg2,c12,c22,c42,c52,f22,f42⟩:=S2.out.cells;have hi2:=S2.out.i_le;go_wp2_with fail
   have HZ3:=hD (show (w2.setCell ⟨g,2,none⟩ (.int .i64 (((s).i:Int)+1))).heap.size=w2.heap.size by simp);have S3:=hD (S2.out.go HO.out);clear hg2 c12 c22 c42 c52 f22 f42 hi2;generalize w2.setCell ⟨g,2,none⟩ (.int .i64 (((s).i:Int)+1))=w3 at *;refine (IH.out.expr _ _ _ _ _ S3.out HQ.out HN2.out).mono ?_;rintro e w4 ⟨rfl,h4⟩;have S4:=hD h4;clear h4;go_wp2_with fail
   refine (IH.out.block _ _ _ _ _ S4.out HU.out HN.out).mono ?_;rintro e w5 ⟨rfl,h5⟩;have S5:=hD h5;clear h5;go_wp2_with fail
   have S6:=hD (S5.out.aQk (oneOf q.1) (oneOf u.1) rfl);refine (S6.out.step (S6.out.here.is ⟨#[101,108,115,101]⟩ (b:=false) HM.out)).mono ?_;rintro e w7 ⟨rfl,h7⟩;have S7:=hD h7;clear h7;go_wp2_with fail
   refine (S7.out.put 15 _ 0 rfl rfl (name:=[]) rfl HN.out).mono ?_;rintro e w8 ⟨rfl,h8⟩;have S8:=hD h8;clear h8;go_wp2_with fail
   go_ret;exact⟨rfl,S8.out⟩
theorem yN (ih:Good src tb tc ts g n){R:Nat→Prop}{w0 w:World}{s:PS}{r:List Nat×PS} (h:St src tb tc ts g R w0 w s) (hw:bH ts s=[114,101,116,117,114,110]) (hr:(if pIs ts [59] (pGo s) then some (bM 17 (aS src.data.toList ts s) 0 [] [] (aA ts [59] (pGo s)))
    else (run src.data.toList ts n (.chain 0) (pGo s)).map fun r=>bM 17 (aS src.data.toList ts s) 0 [] r.1 (aA ts [59] r.2))=some r) (hn:r.2.nodes.length≤1000000):
   Calls Tryz.prog 138 #[.pointer (some ⟨g,0,none⟩)] w fun e w'=>e = .returned (.int .i64 (oneOf r.1))∧St src tb tc ts g R w0 w' r.2:=by
 have IH:=hD ih;have S0:=hD h;have HW:=hD (show bs (bH ts s)=⟨#[114,101,116,117,114,110]⟩ by rw[hw];rfl);have HO:=hD (h.ok.fA h.toks hw (by decide));split at hr
 · rename_i hm
   simp only[Option.some.injEq] at hr;subst hr;have hn2:(aA ts [59] (pGo s)).nodes.length+1≤1000000:=by simpa[bM] using hn
   have HN:=hD (show (aA ts [59] (pGo s)).nodes.length≤1000000 by omega);have HM:=hD hm;clear h ih hn hn2 hw hm;go_enter Tryz.func138,Tryz.ntmps138;go_wp2_with fail
   refine (S0.out.line rfl).mono ?_;rintro e w1 ⟨rfl,h1⟩;have S1:=hD h1;clear h1;go_wp2_with fail
   refine (S1.out.word HW.out).mono ?_;rintro e w2 ⟨rfl,h2⟩;have S2:=hD h2;clear h2;obtain⟨hg2,c12,c22,c42,c52,f22,f42⟩:=S2.out.cells;have hi2:=S2.out.i_le;go_wp2_with fail
   have HZ3:=hD (show (w2.setCell ⟨g,2,none⟩ (.int .i64 (((s).i:Int)+1))).heap.size=w2.heap.size by simp);have S3:=hD (S2.out.go HO.out);clear hg2 c12 c22 c42 c52 f22 f42 hi2;generalize w2.setCell ⟨g,2,none⟩ (.int .i64 (((s).i:Int)+1))=w3 at *;have S4:=hD (S3.out.row0 (.cells #[] 3) (some ⟨w2.heap.size,0,none⟩));refine (S4.out.step (S4.out.here.is ⟨#[59]⟩ (b:=true) HM.out)).mono ?_;rintro e w5 ⟨rfl,h5⟩;have S5:=hD h5;clear h5;go_wp2_with fail
   refine (S5.out.step (S5.out.here.must ⟨#[59]⟩)).mono ?_;rintro e w6 ⟨rfl,h6⟩;have S6:=hD h6;clear h6;go_wp2_with fail
   refine (S6.out.put 17 _ 0 rfl rfl (name:=[]) rfl HN.out).mono ?_;rintro e w7 ⟨rfl,h7⟩;have S7:=hD h7;clear h7;go_wp2_with fail
   go_ret;exact⟨rfl,S7.out⟩
 · rename_i hm
   simp only[mS] at hr;obtain⟨q,hq,rfl⟩:=hr;have hq1:=aK _ _ _ _ hq trivial;have hn2:(aA ts [59] q.2).nodes.length+1≤1000000:=by simpa[bM] using hn
   have HN:=hD (show (aA ts [59] q.2).nodes.length≤1000000 by omega);have HN1:=hD (Nat.le_trans (aU ((Ext.refl q.2).must (ts:=ts) [59])) HN.out);have HQ:=hD hq;have HM:=hD (show pIs ts [59] (pGo s)=false by simpa using hm);rw[hq1];clear h ih hn hn2 hq hq1 hw hm;go_enter Tryz.func138,Tryz.ntmps138;go_wp2_with fail
   refine (S0.out.line rfl).mono ?_;rintro e w1 ⟨rfl,h1⟩;have S1:=hD h1;clear h1;go_wp2_with fail
   refine (S1.out.word HW.out).mono ?_;rintro e w2 ⟨rfl,h2⟩;have S2:=hD h2;clear h2;obtain⟨hg2,c12,c22,c42,c52,f22,f42⟩:=S2.out.cells;have hi2:=S2.out.i_le;go_wp2_with fail
   have HZ3:=hD (show (w2.setCell ⟨g,2,none⟩ (.int .i64 (((s).i:Int)+1))).heap.size=w2.heap.size by simp);have S3:=hD (S2.out.go HO.out);clear hg2 c12 c22 c42 c52 f22 f42 hi2;generalize w2.setCell ⟨g,2,none⟩ (.int .i64 (((s).i:Int)+1))=w3 at *;have S4:=hD (S3.out.row0 (.cells #[] 3) (some ⟨w2.heap.size,0,none⟩));refine (S4.out.step (S4.out.here.is ⟨#[59]⟩ (b:=false) HM.out)).mono ?_;rintro e w5 ⟨rfl,h5⟩;have S5:=hD h5;clear h5;go_wp2_with fail
   refine (S5.out.step (IH.out.expr _ _ _ _ _ S5.out.here HQ.out HN1.out)).mono ?_;rintro e w6 ⟨rfl,h6⟩;have S6:=hD h6;clear h6;go_wp2_with (at_builtin;go_loud (refine aL (m:=1) (news:=[.int .i64 (oneOf q.1:Nat)]) rfl _ _ rfl gW rfl rfl (S6.out.own.alloc _) (Rd.fC (n:=1) (cs:=[.int .i64 (oneOf q.1:Nat)]) (Blk.new _ _ _) rfl (by decide)) (by simp[Value.oneCell']) (by simp[maxLen]) (by simp[maxLen]) ?_);intro A7 c7 w7 ho7 hf7 hv7;have S7:=hD (S6.out.app (gF ho7) hf7 hv7);clear ho7 hf7 hv7)
   refine (S7.out.step (S7.out.here.must ⟨#[59]⟩)).mono ?_;rintro e w8 ⟨rfl,h8⟩;have S8:=hD h8;clear h8;go_wp2_with fail
   refine (S8.out.put 17 _ 0 rfl rfl (name:=[]) rfl HN.out).mono ?_;rintro e w9 ⟨rfl,h9⟩;have S9:=hD h9;clear h9;go_wp2_with fail
   go_ret;exact⟨rfl,S9.out⟩
theorem aFi (ih:∀m,m<n→Good src tb tc ts g m):Does src tb tc ts g n .stmt 138 #[.pointer (some ⟨g,0,none⟩)]:=by
 cases n with
 | zero=>exact Does.zero _ _ _
 | succ n=>
  intro R w0 w s r h hr hn;have ih0:=ih n (Nat.lt_succ_self n);have IH:=hD (ih n (Nat.lt_succ_self n));have S0:=hD h;simp only[run] at hr;by_cases hwlet:bH ts s=[108,101,116]
  · rw[if_pos hwlet] at hr;exact aLt ih0 h hwlet hr hn
  · rw[if_neg hwlet] at hr
    by_cases hwprint:bH ts s=[112,114,105,110,116]
    · rw[if_pos hwprint] at hr;exact aDv ih0 h hwprint hr hn
    · rw[if_neg hwprint] at hr
      by_cases hwwhile:bH ts s=[119,104,105,108,101]
      · rw[if_pos hwwhile] at hr;exact aCg ih0 h hwwhile hr hn
      · rw[if_neg hwwhile] at hr
        by_cases hwif:bH ts s=[105,102]
        · rw[if_pos hwif] at hr;exact aOe ih0 h hwif hr hn
        · rw[if_neg hwif] at hr
          by_cases hwreturn:bH ts s=[114,101,116,117,114,110]
          · rw[if_pos hwreturn] at hr;exact yN ih0 h hwreturn hr hn
          · rw[if_neg hwreturn] at hr
            have HN:=hD hn;have HQ:=hD hr;have hX:(bs (bH ts s)).toList=bH ts s:=by rw[ByteArray.toList_eq];rfl
            have b0:((bs (bH ts s)).toList==[108,101,116])=false:=by rw[hX];exact bN.2 hwlet
            have b1:((bs (bH ts s)).toList==[112,114,105,110,116])=false:=by rw[hX];exact bN.2 hwprint
            have b2:((bs (bH ts s)).toList==[119,104,105,108,101])=false:=by rw[hX];exact bN.2 hwwhile
            have b3:((bs (bH ts s)).toList==[105,102])=false:=by rw[hX];exact bN.2 hwif
            have b4:((bs (bH ts s)).toList==[114,101,116,117,114,110])=false:=by rw[hX];exact bN.2 hwreturn
            obtain⟨X,hXX⟩:∃X,bs (bH ts s)=X:=⟨_,rfl⟩;rw[hXX] at b0 b1 b2 b3 b4;have HW:=hD hXX;clear h ih ih0 hn hr hX hXX hwlet hwprint hwwhile hwif hwreturn;go_enter Tryz.func138,Tryz.ntmps138;go_wp2_with fail
            refine (S0.out.line rfl).mono ?_;rintro e w1 ⟨rfl,h1⟩;have S1:=hD h1;clear h1;go_wp2_with fail
            refine (S1.out.word HW.out).mono ?_;rintro e w2 ⟨rfl,h2⟩;have S2:=hD h2;clear h2;go_wp2_with fail
            refine (IH.out.named _ _ _ _ _ _ S2.out HQ.out HN.out).mono ?_;rintro e w3 ⟨rfl,h3⟩;have S3:=hD h3;clear h3;go_wp2_with fail
            go_ret;exact⟨rfl,S3.out⟩
end
section
variable {src:ByteArray}{tb tc:Nat}{ts:List Tok}{g:Nat}{n:Nat}
theorem aEp (ih:∀m,m<n→Good src tb tc ts g m) (lv:Nat) (z:Int) (hz:((lv:Nat):Int)=z) (hlv:lv≤5):Does src tb tc ts g n (.chain lv) 192 #[.pointer (some ⟨g,0,none⟩),.int .i64 z]:=by
 subst hz;cases n with
 | zero=>exact Does.zero _ _ _
 | succ n=>
  intro R w0 w s r h hr hn;have IH:=hD (ih n (Nat.lt_succ_self n));have S0:=hD h;simp only[run] at hr;by_cases h5:lv=5
  · subst h5
    rw[if_pos rfl] at hr;have HQ:=hD hr;have HN:=hD hn;clear h ih hn hr;go_enter Tryz.func192,Tryz.ntmps192;go_wp2_with fail
    refine (IH.out.factor _ _ _ _ _ S0.out HQ.out HN.out).mono ?_;rintro e w1 ⟨rfl,h1⟩;have S1:=hD h1;clear h1;go_wp2_with fail
    go_ret;exact⟨rfl,S1.out⟩
  · rw[if_neg h5] at hr
    have lv4:lv≤4:=by omega
    have l0:((lv:Int)==5)=false:=bN.2 (by omega);have l1:(lv:Int)≤4:=by omega
    simp only[bS] at hr;obtain⟨q,hq,hm⟩:=hr;have HN:=hD hn;have HN1:=hD (Nat.le_trans (aU (aI _ _ _ _ hm)) hn);have HQ:=hD hq;have HM:=hD hm;have HL:=hD lv4;have HI:=hD ih;clear h ih hn hq hm hlv h5 lv4;obtain⟨line,hline⟩:∃line,aS src.data.toList ts s=line:=⟨_,rfl⟩;rw[hline] at HM;have HLN:=hD hline;clear hline;go_enter Tryz.func192,Tryz.ntmps192;go_wp2_with fail
    refine (S0.out.line HLN.out).mono ?_;rintro e w1 ⟨rfl,h1⟩;have S1:=hD h1;clear h1;go_wp2_with fail
    refine (IH.out.chain (lv+1) _ rfl (by have:=HL.out;omega) _ _ _ _ _ S1.out HQ.out HN1.out).mono ?_;rintro e w2 ⟨rfl,h2⟩;have S2:=hD h2;clear h2;go_wp2_with fail
    go_loopg [6] n (fun k x wr=>∃(xv:Nat) (s':PS),x = .int .i64 (xv:Nat)∧Hid (k≤n)∧Hid (St src tb tc ts g R w0 wr s')∧Hid (run src.data.toList ts k (.more lv line xv) s'=some r))
    case atStart=>exact⟨oneOf q.1,q.2,rfl,hD (Nat.le_refl n),S2,HM⟩
    case round=>
     obtain⟨xv,s',rfl,HK,S3,HR⟩:=hrel;clear S0 S1 S2 HQ HM HN1 IH;have hr:=HR.out;cases gk with
     | zero=>simp[run] at hr
     | succ k=>
      simp only[run] at hr;have IH:=hD (HI.out k (by have:=HK.out;omega));obtain⟨X,hX⟩:∃X,bs (eG ts lv s')=X:=⟨_,rfl⟩;have HX:=hD hX;by_cases hp:eG ts lv s'=[]
      · rw[if_pos hp] at hr
        simp only[Option.some.injEq] at hr;subst hr;obtain rfl:X=⟨#[]⟩:=by rw[←hX,hp];rfl
        clear hX hp HR;go_wp2_with fail
        refine (S3.out.next lv HL.out HX.out).mono ?_;rintro e w4 ⟨rfl,h4⟩;have S4:=hD h4;clear h4;go_wp2_with fail
        go_ret;exact⟨rfl,S4.out⟩
      · rw[if_neg hp] at hr
        simp only[bS] at hr;obtain⟨u,hu,hr⟩:=hr;have hu1:=aK _ _ _ _ hu trivial;have b1:(X.toList==[])=false:=by rw[←hX,ByteArray.toList_eq];exact bN.2 hp
        have b2:X.toList.isEmpty=false:=by rw[←hX,ByteArray.toList_eq];exact List.isEmpty_eq_false_iff.2 hp
        have HO:=hD (S3.out.ok.lK S3.out.toks hp);have HU:=hD hu;clear hX hu HR hp;by_cases h2:lv=2
        · subst h2
          rw[if_pos rfl] at hr;simp only[Option.some.injEq] at hr;subst hr
          have HN2 := hD (show u.2.nodes.length ≤ 1000000 by have : u.2.nodes.length + 1 ≤ 1000000 := by simpa [bM] using HN.out
                                                             omega)
          clear hu1 l0 l1;go_wp2_with fail
          refine (S3.out.next _ HL.out HX.out).mono ?_;rintro e w4 ⟨rfl,h4⟩;have S4:=hD h4;clear h4;obtain⟨hg4,c14,c24,c44,c54,f24,f44⟩:=S4.out.cells;have hi4:=S4.out.i_le;go_wp2_with fail
          have HZ5:=hD (show (w4.setCell ⟨g,2,none⟩ (.int .i64 (((s').i:Int)+1))).heap.size=w4.heap.size by simp);have S5:=hD (S4.out.go HO.out);clear hg4 c14 c24 c44 c54 f24 f44 hi4;generalize w4.setCell ⟨g,2,none⟩ (.int .i64 (((s').i:Int)+1))=w5 at *;refine (IH.out.chain 3 _ rfl (by decide) _ _ _ _ _ S5.out HU.out HN2.out).mono ?_;rintro e w6 ⟨rfl,h6⟩;have S6:=hD h6;clear h6;go_wp2_with fail
          refine (S6.out.aNd xv (oneOf u.1) rfl 9 _ 0 rfl rfl (name:=(eG ts 2 s')) HX.out HN2.out).mono ?_;rintro e w7 ⟨rfl,h7⟩;have S7:=hD h7;clear h7;go_wp2_with fail
          go_ret;exact⟨rfl,S7.out⟩
        · rw[if_neg h2] at hr
          have l2:((lv:Int)==2)=false:=bN.2 (by omega);have hpe:=aI _ _ _ _ hr
          have HN2 := hD (show u.2.nodes.length ≤ 1000000 by have h7 := aU hpe
                                                             have h8 := HN.out
                                                             have : u.2.nodes.length + 1 ≤ r.2.nodes.length := by simpa [bM] using h7
                                                             omega)
          have HR2:=hD hr;clear hr hpe h2 hu1;go_wp2_with fail
          refine (S3.out.next lv HL.out HX.out).mono ?_;rintro e w4 ⟨rfl,h4⟩;have S4:=hD h4;clear h4;obtain⟨hg4,c14,c24,c44,c54,f24,f44⟩:=S4.out.cells;have hi4:=S4.out.i_le;go_wp2_with fail
          have HZ5:=hD (show (w4.setCell ⟨g,2,none⟩ (.int .i64 (((s').i:Int)+1))).heap.size=w4.heap.size by simp);have S5:=hD (S4.out.go HO.out);clear hg4 c14 c24 c44 c54 f24 f44 hi4;generalize w4.setCell ⟨g,2,none⟩ (.int .i64 (((s').i:Int)+1))=w5 at *;refine (IH.out.chain (lv+1) _ rfl (by have:=HL.out;omega) _ _ _ _ _ S5.out HU.out HN2.out).mono ?_;rintro e w6 ⟨rfl,h6⟩;have S6:=hD h6;clear h6;go_wp2_with fail
          refine (S6.out.aNd xv (oneOf u.1) rfl 9 _ 0 rfl rfl (name:=(eG ts lv s')) HX.out HN2.out).mono ?_;rintro e w7 ⟨rfl,h7⟩;have S7:=hD h7;clear h7;go_wp2_with fail
          go_roundg k
          case measure=>omega
          case rel=>exact⟨u.2.nodes.length,(bM 9 line 0 (eG ts lv s') [xv,oneOf u.1] u.2).2,rfl,hD (by have:=HK.out;omega),S7,HR2⟩
end
end Go.Proofs.YtlbjicjinnnboaaGreatDoor
