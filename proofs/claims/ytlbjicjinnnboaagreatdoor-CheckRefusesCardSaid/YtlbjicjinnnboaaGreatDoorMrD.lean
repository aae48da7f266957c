/- MrD: PCall, PAtom. -/
import Derived.Test.YtlbjicjinnnboaaGreatDoorUShelf
import Derived.Test.YtlbjicjinnnboaaGreatDoorMrC
import Derived.Lib.AtoiAll
set_option maxHeartbeats 8000000
set_option maxRecDepth 100000
set_option linter.unusedVariables false
set_option linter.unusedSimpArgs false
/- The parser's functions: call, block. Printed by wip/tools/mkright.py. -/
namespace Go.Proofs.YtlbjicjinnnboaaGreatDoor
open Go.RowKit Go.Proofs.Tryz
section
variable {src:ByteArray}{tb tc:Nat}{ts:List Tok}{g:Nat}{n:Nat}
def aBn (src:List UInt8) (ts:List Tok) (k:Nat) (l:List Nat) (s:PS) (q:List Nat×PS):Bool->Prop
 | true=>run src ts k (.args l) s=some q
 | false=>q=(l,s)
theorem aIs (ih:∀m,m<n->Good src tb tc ts g m):Does src tb tc ts g n .call 191 #[(g,())]:=by
 cases n with
 | zero=>exact Does.zero _ _ _
 | succ n=>
  intro R w0 w s r h hr hn;have IH:=hD (ih n (Nat.lt_succ_self n));have S0:=hD h;simp only[run] at hr;simp only[mS] at hr;obtain⟨q,hq,rfl⟩:=hr;obtain⟨s2,hs2⟩:∃s2,aA ts [40] (aF ts s)=s2:=⟨_,rfl⟩;rw[hs2] at hq;have hn2:(aA ts [41] q.2).nodes.length+1≤1000000:=by simpa[bY] using hn
  have HN:=hD (show (aA ts [41] q.2).nodes.length≤1000000 by omega);have HN1:=hD (Nat.le_trans (aW ((Ext.refl q.2).must (ts:=ts) [41])) HN);have HI:=hD ih;have HS2:=hD hs2;obtain⟨line,hline⟩:∃line,aR src.data.toList ts s=line:=⟨_,rfl⟩;have HLN:=hD hline;obtain⟨NM,hname⟩:∃NM,bs (dH ts s)=NM:=⟨_,rfl⟩;have HNM:=hD hname;rw[hline];clear h ih hn hn2 hs2 hline hname;by_cases he1:pIs ts [41] s2=true
  case' pos=>
   rw[if_neg (by rw[he1];simp)] at hq
   simp only[Option.some.injEq] at hq;have HA:Hd (aBn src.data.toList ts n [] s2 q false):=hq.symm;have HE:=hD he1;clear he1 hq;go_enter func191,ntmps191;go_wp2_with fail
   refine stepM (S0.o.line HLN) λw1 S1=>?_;go_wp2_with fail
   refine stepM (S1.o.name HNM) λw2 S2=>?_;go_wp2_with fail
   refine stepM (S2.o.must ⟨#[40]⟩) λw3 S3=>?_;have S4:=hD (show St src tb tc ts g R w0 w3 s2 by have h4:=S3.o;rw[<-HS2.o];exact h4);clear S3;go_wp2_with fail
   have S5:=hD (S4.o.row0 (.cells #[] 3) (some (w3.heap.size,())));refine stepM (S5.o.step (S5.o.here.is ⟨#[41]⟩ HE)) λw6 S6=>?_;clear S0 S1 S2 S4 S5;obtain⟨hg6,c16,c26,c46,c56,f26,f46⟩:=S6.o.st.cells;go_wp2
   clear hg6 c16 c26 c46 c56 f26 f46
  case' neg=>
   have he2:pIs ts [41] s2=false:=by simpa using he1
   have HE:=hD he2;by_cases h0:s2.e=0
   case' pos=>
    rw[if_pos ⟨he2,h0⟩] at hq
    have HA:Hd (aBn src.data.toList ts n [] s2 q true):=hq;have he:((s2.e:Int)==0)=true:=by rw[h0];rfl
   case' neg=>
    rw[if_neg (by rintro⟨_,h⟩;exact h0 h)] at hq
    simp only[Option.some.injEq] at hq;have HA:Hd (aBn src.data.toList ts n [] s2 q false):=hq.symm;have he:((s2.e:Int)==0)=false:=bN.2 (by omega)
   all_goals
    clear he1 he2 h0 hq;go_enter func191,ntmps191;go_wp2_with fail
    refine stepM (S0.o.line HLN) λw1 S1=>?_;go_wp2_with fail
    refine stepM (S1.o.name HNM) λw2 S2=>?_;go_wp2_with fail
    refine stepM (S2.o.must ⟨#[40]⟩) λw3 S3=>?_;have S4:=hD (show St src tb tc ts g R w0 w3 s2 by have h4:=S3.o;rw[<-HS2.o];exact h4);clear S3;go_wp2_with fail
    have S5:=hD (S4.o.row0 (.cells #[] 3) (some (w3.heap.size,())));refine stepM (S5.o.step (S5.o.here.is ⟨#[41]⟩ HE)) λw6 S6=>?_;clear S0 S1 S2 S4 S5;obtain⟨hg6,c16,c26,c46,c56,f26,f46⟩:=S6.o.st.cells;go_wp2
    clear hg6 c16 c26 c46 c56 f26 f46 he
  all_goals
   go_loopg [5,7] n (λk v more wr=>∃(l:List Nat) (s':PS) (b:Bool),more = .bool b∧Hd (k≤n)∧Hd (StR src tb tc ts g R w0 wr s' v l)∧Hd (aBn src.data.toList ts k l s' q b)∧Hd (b=true->l.length≤s'.i))
   case atStart=>exact⟨[],s2,_,rfl,hD (Nat.le_refl n),S6,HA,hD (λ_=>Nat.zero_le _)⟩
   case round=>
     obtain⟨l,s',b,rfl,HK,S3,HR,HB⟩:=hrel;clear S6 HA HE;cases b with
     | false=>
      have hr:q=(l,s'):=HR.o;subst hr;clear HR HB;have S3:Hd (StR src tb tc ts g R w0 wr s' _ l):=S3;go_wp2_with fail
      refine stepM (S3.o.step (S3.o.here.must ⟨#[41]⟩)) λw4 S4=>?_;go_wp2_with fail
      refine stepM (S4.o.put 21 _ 0 rfl rfl (name:=(dH ts s)) HNM HN) λw5 S5=>?_;go_wp2
      go_ret;exact⟨rfl,S5⟩
     | true=>
      have hr:run src.data.toList ts gk (.args l) s'=some q:=HR.o;cases gk with
      | zero=>simp[run] at hr
      | succ k=>
       simp only[run,bS] at hr;obtain⟨u,hu,hr⟩:=hr;have IH:=hD (HI k (by have:=HK.o;omega));have hu1:=aK _ _ _ _ hu trivial;rw[hu1] at hr;have hok:=fJ S3.o.st.toks _ _ _ _ hu S3.o.st.ok;have hle:=(aI _ _ _ _ hu).i;have hb:=HB.o rfl;have hri:=S3.o.st.i_le;have HU:=hD hu;have HB2:=hD (show l.length≤1000 by omega);have HLE:=hD (show l.length≤u.2.i by omega);clear hu hu1 hle hb hri HB HR;by_cases hm:pIs ts [44] u.2=true
       . rw[if_pos hm] at hr
         have HN2:=hD (Nat.le_trans (aW (((Ext.refl u.2).go).trans (aI _ _ _ _ hr))) HN1);have HM:=hD hm;have HO:=hD (hok.kE S3.o.st.toks hm);have HR2:=hD hr;clear hr hm hok;go_wp2_with fail
         refine stepM (S3.o.step (IH.o.expr _ _ _ _ _ S3.o.here HU HN2)) λw4 S4=>?_;go_wp2_with (at_builtin;go_loud (refine aN (m:=1) (news:=[oneOf u.1]) rfl _ _ rfl iG rfl rfl (S4.o.own.alloc _) (Rd.gG (n:=1) (cs:=[oneOf u.1]) (Blk.new _ _ _) rfl (by decide)) (by simp[Value.oneCell']) (by have h9:=HB2.o;first|omega|(unfold maxLen;omega)) (by have h9:=HB2.o;first|omega|(unfold maxLen;omega)) ?_);intro A5 c5 w5 ho5 hf5 hv5;have S5:=hD (S4.o.app (kM ho5) hf5 hv5);clear ho5 hf5 hv5)
         refine stepM (S5.o.step (S5.o.here.is ⟨#[44]⟩ HM)) λw6 S6=>?_;obtain⟨hg6,c16,c26,c46,c56,f26,f46⟩:=S6.o.st.cells;have hi6:=S6.o.st.i_le;go_wp2_with fail
         have HZ7:=hD (show (w6.setCell (g,U2) (((u.2).i:Int)+1:Int)).heap.size=w6.heap.size by simp);have S7:=hD (S6.o.go HO);clear hg6 c16 c26 c46 c56 f26 f46 hi6;generalize w6.setCell (g,U2) (((u.2).i:Int)+1:Int)=w7 at *;go_roundg k
         case measure=>omega
         case rel=>exact⟨l++[oneOf u.1],pGo u.2,true,rfl,hD (by have:=HK.o;omega),S7,HR2,hD (λ_=>by have h9:=HLE.o;rw[List.length_append];show l.length+1≤u.2.i+1;omega)⟩
       . rw[if_neg hm] at hr
         simp only[Option.some.injEq] at hr;have HN2:=hD (show u.2.nodes.length≤1000000 by rw[<-hr] at HN1;exact HN1);have HM:=hD (show pIs ts [44] u.2=false by simpa using hm);have HR2:=hD hr.symm;clear hr hm hok;go_wp2_with fail
         refine stepM (S3.o.step (IH.o.expr _ _ _ _ _ S3.o.here HU HN2)) λw4 S4=>?_;go_wp2_with (at_builtin;go_loud (refine aN (m:=1) (news:=[oneOf u.1]) rfl _ _ rfl iG rfl rfl (S4.o.own.alloc _) (Rd.gG (n:=1) (cs:=[oneOf u.1]) (Blk.new _ _ _) rfl (by decide)) (by simp[Value.oneCell']) (by have h9:=HB2.o;first|omega|(unfold maxLen;omega)) (by have h9:=HB2.o;first|omega|(unfold maxLen;omega)) ?_);intro A5 c5 w5 ho5 hf5 hv5;have S5:=hD (S4.o.app (kM ho5) hf5 hv5);clear ho5 hf5 hv5)
         refine stepM (S5.o.step (S5.o.here.is ⟨#[44]⟩ HM)) λw6 S6=>?_;go_wp2
         go_roundg k
         case measure=>omega
         case rel=>exact⟨l++[oneOf u.1],u.2,false,rfl,hD (by have:=HK.o;omega),S6,HR2,hD (λh=>by cases h)⟩
theorem aEp (ih:∀m,m<n->Good src tb tc ts g m):Does src tb tc ts g n .block 93 #[(g,())]:=by
 cases n with
 | zero=>exact Does.zero _ _ _
 | succ n=>
  intro R w0 w s r h hr hn;have IH:=hD (ih n (Nat.lt_succ_self n));have S0:=hD h;simp only[run] at hr;by_cases hm:pIs ts [123] s=true
  case neg=>
   rw[if_neg hm] at hr;simp only[Option.some.injEq] at hr;subst hr;have HM:=hD (show pIs ts [123] s=false by simpa using hm);clear h ih hn hm;go_enter func93,ntmps93;go_wp2_with fail
   refine stepM (S0.o.line rfl) λw1 S1=>?_;go_wp2_with fail
   refine stepM (S1.o.is ⟨#[123]⟩ HM) λw2 S2=>?_;go_wp2_with fail
   refine stepM (S2.o.fails 20 (by decide) (by decide)) λw3 S3=>?_;go_wp2
   go_ret;exact⟨rfl,S3⟩
  case pos=>
   rw[if_pos hm] at hr;simp only[mS] at hr;obtain⟨q,hq,rfl⟩:=hr;obtain⟨s2,hs2⟩:∃s2,aA ts [123] (aU ts s)=s2:=⟨_,rfl⟩;rw[hs2] at hq;have hd:=iA _ _ _ _ hq;rw[<-hs2,aX,dU] at hd;have hdl:=h.ok.fine (aL hm).1;have HDB:=hD (show (1:Int)≤((aA ts [125] q.2).deep:Int)∧((aA ts [125] q.2).deep:Int)≤20 by rw[aX];omega);have HD:=hD (show 1≤(aA ts [125] q.2).deep by rw[aX];omega);have hn2:(aA ts [125] q.2).nodes.length+1≤1000000:=by simpa[bY,pUp] using hn
   have HN:=hD (show (aA ts [125] q.2).nodes.length≤1000000 by omega);have HN1:=hD (Nat.le_trans (aW ((Ext.refl q.2).must (ts:=ts) [125])) HN);have HI:=hD ih;have HS2:=hD hs2;obtain⟨line,hline⟩:∃line,aR src.data.toList ts s=line:=⟨_,rfl⟩;have HLN:=hD hline;have HM:=hD hm;have H0:=hD (aL hm).1;have HA:=hD hq;rw[hline];clear h ih hn hn2 hs2 hline hm hd hdl hq;go_enter func93,ntmps93;go_wp2_with fail
   refine stepM (S0.o.line HLN) λw1 S1=>?_;go_wp2_with fail
   refine stepM (S1.o.is ⟨#[123]⟩ HM) λw2 S2=>?_;go_wp2_with fail
   refine stepM (S2.o.down H0) λw3 S3=>?_;go_wp2_with fail
   refine stepM (S3.o.must ⟨#[123]⟩) λw4 S4=>?_;have S5:=hD (show St src tb tc ts g R w0 w4 s2 by have h4:=S4.o;rw[<-HS2.o];exact h4);clear S0 S1 S2 S3 S4;go_wp2_with fail
   have S6:=hD (S5.o.row0 (.cells #[] 3) (some (w4.heap.size,())));go_loopg [5] n (λk v wr=>∃(l:List Nat) (s':PS),Hd (k≤n)∧Hd (StR src tb tc ts g R w0 wr s' v l)∧Hd (run src.data.toList ts k (.stmts l) s'=some q)∧Hd (l.length≤s'.nodes.length))
   case atStart=>exact⟨[],s2,hD (Nat.le_refl n),S6,HA,hD (Nat.zero_le _)⟩
   case round=>
    obtain⟨l,s',HK,S3,HR,HB⟩:=hrel;clear S5 S6 HA;have hr:=HR.o;cases gk with
    | zero=>simp[run] at hr
    | succ k=>
     simp only[run] at hr;by_cases h0:s'.e=0
     case neg=>
      rw[if_pos h0] at hr;simp only[Option.some.injEq] at hr;subst hr;have he:((s'.e:Int)==0)=false:=bN.2 (by omega);clear h0 HR HB;obtain⟨hg3,c13,c23,c43,c53,f23,f43⟩:=S3.o.st.cells;go_wp2_with fail
      clear hg3 c13 c23 c43 c53 f23 f43 he;refine stepM (S3.o.step (S3.o.here.must ⟨#[125]⟩)) λw4 S4=>?_;obtain⟨hg4,c14,c24,c44,c54,f24,f44⟩:=S4.o.st.cells;have hi4:=S4.o.st.i_le;obtain⟨hl4,hu4⟩:=HDB.o;go_wp2_with fail
      have S5:=hD (S4.o.up HD);clear hg4 c14 c24 c44 c54 f24 f44 hi4 hl4 hu4;generalize w4.setCell (g,U4) (((aA ts [125] (s')).deep:Int) - 1:Int)=w5 at *;refine stepM (S5.o.put 18 _ 0 rfl rfl (name:=[]) rfl HN) λw6 S6=>?_;go_wp2
      go_ret;exact⟨rfl,S6⟩
     case pos=>
      rw[if_neg (by omega)] at hr;have he:((s'.e:Int)==0)=true:=by rw[h0];rfl
      obtain⟨hg3,c13,c23,c43,c53,f23,f43⟩:=S3.o.st.cells;by_cases hm:pIs ts [125] s'=true
      . rw[if_pos hm] at hr
        simp only[Option.some.injEq] at hr;subst hr;have HM2:=hD hm;clear h0 HR HB hm;go_wp2_with fail
        clear hg3 c13 c23 c43 c53 f23 f43 he;refine stepM (S3.o.step (S3.o.here.is ⟨#[125]⟩ HM2)) λw4 S4=>?_;go_wp2_with fail
        refine stepM (S4.o.step (S4.o.here.must ⟨#[125]⟩)) λw5 S5=>?_;obtain⟨hg5,c15,c25,c45,c55,f25,f45⟩:=S5.o.st.cells;have hi5:=S5.o.st.i_le;obtain⟨hl5,hu5⟩:=HDB.o;go_wp2_with fail
        have S6:=hD (S5.o.up HD);clear hg5 c15 c25 c45 c55 f25 f45 hi5 hl5 hu5;generalize w5.setCell (g,U4) (((aA ts [125] (s')).deep:Int) - 1:Int)=w6 at *;refine stepM (S6.o.put 18 _ 0 rfl rfl (name:=[]) rfl HN) λw7 S7=>?_;go_wp2
        go_ret;exact⟨rfl,S7⟩
      . rw[if_neg hm] at hr
        simp only[bS] at hr;obtain⟨u,hu,hr⟩:=hr;have IH:=hD (HI k (by have:=HK.o;omega));have hu1:=aK _ _ _ _ hu trivial;have hp:=wB hu;rw[hu1] at hr;have HN2:=hD (Nat.le_trans (aW (aI _ _ _ _ hr)) HN1);have HB2:=hD (show l.length≤1000000 by have:=HB.o;have:=HN2.o;omega);have HB3:=hD (show l.length+1≤u.2.nodes.length by have:=HB.o;omega);have HU:=hD hu;have HR2:=hD hr;have HM2:=hD (show pIs ts [125] s'=false by simpa using hm);clear h0 HR HB hm hu hu1 hp hr;go_wp2_with fail
        clear hg3 c13 c23 c43 c53 f23 f43 he;refine stepM (S3.o.step (S3.o.here.is ⟨#[125]⟩ HM2)) λw4 S4=>?_;go_wp2_with fail
        refine stepM (S4.o.step (IH.o.stmt _ _ _ _ _ S4.o.here HU HN2)) λw5 S5=>?_;go_wp2_with (at_builtin;go_loud (refine aN (m:=1) (news:=[oneOf u.1]) rfl _ _ rfl iG rfl rfl (S5.o.own.alloc _) (Rd.gG (n:=1) (cs:=[oneOf u.1]) (Blk.new _ _ _) rfl (by decide)) (by simp[Value.oneCell']) (by have h9:=HB2.o;first|omega|(unfold maxLen;omega)) (by have h9:=HB2.o;first|omega|(unfold maxLen;omega)) ?_);intro A6 c6 w6 ho6 hf6 hv6;have S6:=hD (S5.o.app (kM ho6) hf6 hv6);clear ho6 hf6 hv6)
        go_roundg k
        case measure=>omega
        case rel=>exact⟨l++[oneOf u.1],u.2,hD (by have:=HK.o;omega),S6,HR2,hD (by have h9:=HB3.o;rw[List.length_append];exact h9)⟩
end
section
variable {src:ByteArray}{tb tc:Nat}{ts:List Tok}{g:Nat}{n:Nat}
theorem Fr.bytes {w w':World} (e:TypeId) (h:w'=w∨∃t,w'=Lib.bytesWorld w e t):Fr nob w w':=by
 rcases h with rfl|⟨t,rfl⟩
 . exact Fr.refl _ _
 . have hb:=Lib.bytesWorld_below w e t
   exact⟨hb.os,hb.tape,hb.output,hb.size,λk hk _=>hb.block k hk⟩
theorem vV:∀(l:List UInt8) (a:Nat),dP l->aS a l≤9223372036854775807->Lib.parseUint10 a l = .ok (aS a l)
 | [],a,_,_=>rfl
 | c :: r,a,hd,hv=>by
  have hc:=hd c List.mem_cons_self;rw[eG] at hv ⊢;have hge:=oP (a*10+(c.toNat - 48)) r;unfold Lib.parseUint10;rw[if_pos hc,if_neg (by omega),if_neg (by omega)];exact vV r _ (λx hx=>hd x (List.mem_cons_of_mem _ hx)) hv
theorem aIz {l:List UInt8} (h0:l≠[]) (hd:dP l) (hv:aS 0 l≤9223372036854775807):Lib.atoiAll l = .ok (aS 0 l:Nat):=by
 cases l with
 | nil=>exact absurd rfl h0
 | cons c r=>
  have hc:=hd c List.mem_cons_self;have hm:Lib.parseMag (c :: r) = .ok (aS 0 (c :: r)):=by
   unfold Lib.parseMag;rw[if_neg (by simp)];exact vV _ _ hd hv
  unfold Lib.atoiAll;have h45:¬c.toNat=45:=by omega
  have h43:¬c.toNat=43:=by omega
  simp only[h43,h45,or_self,if_false];rw[hm];dsimp only;rw[if_neg (by omega),if_neg (by simp)]
theorem aIy (ih:∀m,m<n->Good src tb tc ts g m):Does src tb tc ts g n .atom 224 #[(g,())]:=by
 cases n with
 | zero=>exact Does.zero _ _ _
 | succ n=>
  intro R w0 w s r h hr hn;have IH:=hD (ih n (Nat.lt_succ_self n));have S0:=hD h;simp only[run] at hr;obtain⟨tk,htk⟩:∃tk,(bF ts s).kind=tk:=⟨_,rfl⟩;obtain⟨tt,htt⟩:∃tt,(bF ts s).text=tt:=⟨_,rfl⟩;obtain⟨tp,htp⟩:∃tp,(bF ts s).place=tp:=⟨_,rfl⟩;obtain⟨bt,hbt⟩:∃bt,bs tt=bt:=⟨_,rfl⟩;have HK:=hD htk;have HT:=hD htt;have HP:=hD htp;have HBT:=hD hbt;rw[htk,htt] at hr;have hmem:bF ts s∈ts:=by
    unfold bF;rw[List.getD,gE h.ok.room];exact List.getElem_mem _
  have HMEM:=hD hmem;clear htk htt htp hbt hmem;by_cases he0:s.e=0
  . rw[if_neg (by omega)] at hr
    have he:((s.e:Int)==0)=true:=by rw[he0];rfl
    have H0:=hD he0;by_cases k1:tk=1
    . rw[if_pos k1] at hr
      simp only[Option.some.injEq] at hr;subst hr;obtain⟨z0,z1,z2⟩:=h.toks.nums _ HMEM (by rw[HK.o,k1]);rw[HT.o] at z0 z1 z2;have HQ:=hD (aIz z0 z1 z2);have hsz:bt.size≤9223372036854775806:=by
        have h9:=h.toks.short _ HMEM.o;rw[HT.o] at h9;rw[<-HBT.o]
        show tt.toArray.size≤_
        rw[List.size_toArray];omega
      have HSZ:=hD hsz;have HO:=hD (h.ok.gM h.toks HK (by omega));have hn2:s.nodes.length+1≤1000000:=by simpa[bY,pGo] using hn
      have HN:=hD (show s.nodes.length≤1000000 by omega);have e1:((tk:Int)==1)=true:=by rw[k1];rfl
      clear k1 he0 z0 z1 z2 hsz hn2;clear h ih hn;go_enter func224,ntmps224;go_wp2_with fail
      refine stepM (S0.o.line rfl) λw1 S1=>?_;obtain⟨hg1,c11,c21,c41,c51,f21,f41⟩:=S1.o.cells;obtain⟨hr1,x0,x1,x2⟩:=S1.o.tok;rw[HK.o] at x0;rw[HT.o,HBT.o] at x1;rw[HP.o] at x2;have n1:=World.new_ne w1 (g,U1) c11;have n2:=World.new_ne w1 (tb,s.i*3) x0;go_wp2_with fail
      go_region_held3 (λwx=>wx.cell? (g,1)=(tb,ts.length,tc)∧wx.cell? (g,2)=s.i∧wx.cell? (tb,s.i*3)=tk∧wx.cell? (tb,s.i*3+1)=bt∧wx.cell? (tb,s.i*3+2)=tp) (go_keep) (first|fail)
      have Z2:=hD (S1.o.no (((fR w1).alloc (.cells #[tk,bt,tp] 115)).drew));have BT:Hd (Blk (w1.alloc (.cells #[tk,bt,tp] 115)).drew w1.heap.size 115 #[tk,bt,tp]):=Blk.new w1 _ _;clear hr1 x0 x1 x2 n1 n2 c11 c21 c41 c51 f21 f41 S1 S0;generalize (w1.alloc (.cells #[tk,bt,tp] 115)).drew=w2 at *;have hgB:g≠w1.heap.size:=Nat.ne_of_lt hg1;clear hg1;generalize w1.heap.size=B at *;have HGB:=hD hgB.symm;clear hgB;have S2:=hD Z2.o.here;obtain⟨hg2,c12,c22,c42,c52,f22,f42⟩:=S2.o.cells;have hi2:=S2.o.i_le;have BT2:=S2.o.fr.blk BT HGB (by decide);have d02:=BT2.cell 0;have d12:=BT2.cell 1;simp at d02 d12
      clear BT2;go_upto_region 7 with (fail);have S3:=hD (S2.o.go HO);clear hg2 c12 c22 c42 c52 f22 f42 hi2 he e1 d02 d12;generalize w2.setCell (g,U2) ((s.i:Int)+1:Int)=w3 at *;have BT3:=S3.o.fr.blk BT HGB (by decide);have d03:=BT3.cell 0;have d13:=BT3.cell 1;simp at d03 d13
      clear BT3;go_wp2_with (go_at_call 232;go_must (refine stepM (strconv_Atoi_ok _ HSZ _ (by rw[<-HBT.o];exact HQ) _) λw4 hw=>?_;have F4:=hD (Fr.bytes _ hw);have S4:=hD (S3.o.no F4);clear hw))
      refine stepM (S4.o.uW 1 _ (aMq tt) rfl rfl (name:=[]) rfl HN) λw5 S5=>?_;go_wp2
      go_ret;exact⟨rfl,Z2.o.back S5⟩
    . rw[if_neg k1] at hr
      have e1:((tk:Int)==1)=false:=bN.2 (by omega);by_cases k2:tk=2
      . rw[if_pos k2] at hr
        simp only[Option.some.injEq] at hr;subst hr;have HO:=hD (h.ok.gM h.toks HK (by omega));have hn2:s.nodes.length+1≤1000000:=by simpa[bY,pGo] using hn
        have HN:=hD (show s.nodes.length≤1000000 by omega);have e2:((tk:Int)==2)=true:=by rw[k2];rfl
        clear k1 k2 he0 hn2;clear h ih hn;go_enter func224,ntmps224;go_wp2_with fail
        refine stepM (S0.o.line rfl) λw1 S1=>?_;obtain⟨hg1,c11,c21,c41,c51,f21,f41⟩:=S1.o.cells;obtain⟨hr1,x0,x1,x2⟩:=S1.o.tok;rw[HK.o] at x0;rw[HT.o,HBT.o] at x1;rw[HP.o] at x2;have n1:=World.new_ne w1 (g,U1) c11;have n2:=World.new_ne w1 (tb,s.i*3) x0;go_wp2_with fail
        go_region_held3 (λwx=>wx.cell? (g,1)=(tb,ts.length,tc)∧wx.cell? (g,2)=s.i∧wx.cell? (tb,s.i*3)=tk∧wx.cell? (tb,s.i*3+1)=bt∧wx.cell? (tb,s.i*3+2)=tp) (go_keep) (first|fail)
        have Z2:=hD (S1.o.no (((fR w1).alloc (.cells #[tk,bt,tp] 115)).drew));have BT:Hd (Blk (w1.alloc (.cells #[tk,bt,tp] 115)).drew w1.heap.size 115 #[tk,bt,tp]):=Blk.new w1 _ _;clear hr1 x0 x1 x2 n1 n2 c11 c21 c41 c51 f21 f41 S1 S0;generalize (w1.alloc (.cells #[tk,bt,tp] 115)).drew=w2 at *;have hgB:g≠w1.heap.size:=Nat.ne_of_lt hg1;clear hg1;generalize w1.heap.size=B at *;have HGB:=hD hgB.symm;clear hgB;have S2:=hD Z2.o.here;obtain⟨hg2,c12,c22,c42,c52,f22,f42⟩:=S2.o.cells;have hi2:=S2.o.i_le;have BT2:=S2.o.fr.blk BT HGB (by decide);have d02:=BT2.cell 0;have d12:=BT2.cell 1;simp at d02 d12
        clear BT2;go_upto_region 11 with (fail);have S3:=hD (S2.o.go HO);clear hg2 c12 c22 c42 c52 f22 f42 hi2 he e1 e2 d02 d12;generalize w2.setCell (g,U2) ((s.i:Int)+1:Int)=w3 at *;have BT3:=S3.o.fr.blk BT HGB (by decide);have d03:=BT3.cell 0;have d13:=BT3.cell 1;simp at d03 d13
        clear BT3;go_wp2_with fail
        refine stepM (S3.o.uW 3 _ 0 rfl rfl (name:=tt) HBT HN) λw4 S4=>?_;clear d03 d13;go_wp2
        go_ret;exact⟨rfl,Z2.o.back S4⟩
      . rw[if_neg k2] at hr
        have e2:((tk:Int)==2)=false:=bN.2 (by omega);by_cases k3:tk=3
        . rw[if_pos k3] at hr
          have HO:=hD (h.ok.gM h.toks HK (by omega));have e3:((tk:Int)==3)=true:=by rw[k3];rfl
          clear k1 k2 k3 he0;by_cases hm:pIs ts [91] (pGo s)=true
          . rw[if_pos hm] at hr
            simp only[mS] at hr;obtain⟨q,hq,rfl⟩:=hr;have hq1:=aK _ _ _ _ hq trivial;have hd:=iA _ _ _ _ hq;rw[aX,dU,kR] at hd;have hdl:=h.ok.fine H0.o;have HDB:=hD (show (1:Int)≤((aA ts [93] q.2).deep:Int)∧((aA ts [93] q.2).deep:Int)≤20 by rw[aX];omega);have HD:=hD (show 1≤(aA ts [93] q.2).deep by rw[aX];omega);have hn2:(aA ts [93] q.2).nodes.length+1≤1000000:=by simpa[bY,pUp] using hn
            have HN:=hD (show (aA ts [93] q.2).nodes.length≤1000000 by omega);have HN1:=hD (Nat.le_trans (aW ((Ext.refl q.2).must (ts:=ts) [93])) HN);have HM:=hD hm;have HQ:=hD hq;rw[hq1];clear hq hq1 hd hdl hn2 hm;clear h ih hn;go_enter func224,ntmps224;go_wp2_with fail
            refine stepM (S0.o.line rfl) λw1 S1=>?_;obtain⟨hg1,c11,c21,c41,c51,f21,f41⟩:=S1.o.cells;obtain⟨hr1,x0,x1,x2⟩:=S1.o.tok;rw[HK.o] at x0;rw[HT.o,HBT.o] at x1;rw[HP.o] at x2;have n1:=World.new_ne w1 (g,U1) c11;have n2:=World.new_ne w1 (tb,s.i*3) x0;go_wp2_with fail
            go_region_held3 (λwx=>wx.cell? (g,1)=(tb,ts.length,tc)∧wx.cell? (g,2)=s.i∧wx.cell? (tb,s.i*3)=tk∧wx.cell? (tb,s.i*3+1)=bt∧wx.cell? (tb,s.i*3+2)=tp) (go_keep) (first|fail)
            have Z2:=hD (S1.o.no (((fR w1).alloc (.cells #[tk,bt,tp] 115)).drew));have BT:Hd (Blk (w1.alloc (.cells #[tk,bt,tp] 115)).drew w1.heap.size 115 #[tk,bt,tp]):=Blk.new w1 _ _;clear hr1 x0 x1 x2 n1 n2 c11 c21 c41 c51 f21 f41 S1 S0;generalize (w1.alloc (.cells #[tk,bt,tp] 115)).drew=w2 at *;have hgB:g≠w1.heap.size:=Nat.ne_of_lt hg1;clear hg1;generalize w1.heap.size=B at *;have HGB:=hD hgB.symm;clear hgB;have S2:=hD Z2.o.here;obtain⟨hg2,c12,c22,c42,c52,f22,f42⟩:=S2.o.cells;have hi2:=S2.o.i_le;have BT2:=S2.o.fr.blk BT HGB (by decide);have d02:=BT2.cell 0;have d12:=BT2.cell 1;simp at d02 d12
            clear BT2;go_wp2_with fail
            have S3:=hD (S2.o.go HO);clear hg2 c12 c22 c42 c52 f22 f42 hi2 he e1 e2 e3 d02 d12;generalize w2.setCell (g,U2) ((s.i:Int)+1:Int)=w3 at *;refine stepM (S3.o.is ⟨#[91]⟩ HM) λw4 S4=>?_;go_wp2_with fail
            refine stepM (S4.o.down H0) λw5 S5=>?_;go_wp2_with fail
            refine stepM (S5.o.must ⟨#[91]⟩) λw6 S6=>?_;go_wp2_with fail
            refine stepM (IH.o.expr _ _ _ _ _ S6 HQ HN1) λw7 S7=>?_;go_wp2_with fail
            refine stepM (S7.o.must ⟨#[93]⟩) λw8 S8=>?_;obtain⟨hg8,c18,c28,c48,c58,f28,f48⟩:=S8.o.cells;have hi8:=S8.o.i_le;obtain⟨hl8,hu8⟩:=HDB.o;go_upto_region 22 with (fail);have S9:=hD (S8.o.up HD);clear hg8 c18 c28 c48 c58 f28 f48 hi8 hl8 hu8;generalize w8.setCell (g,U4) (((aA ts [93] (q.2)).deep:Int) - 1:Int)=w9 at *;have BT9:=S9.o.fr.blk BT HGB (by decide);have d09:=BT9.cell 0;have d19:=BT9.cell 1;simp at d09 d19
            clear BT9;go_wp2_with fail
            refine stepM (S9.o.vS (oneOf q.1) rfl 5 _ 0 rfl rfl (name:=tt) HBT HN) λw10 S10=>?_;clear d09 d19;go_wp2
            go_ret;exact⟨rfl,Z2.o.back S10⟩
          . rw[if_neg hm] at hr
            simp only[Option.some.injEq] at hr;subst hr;have hn2:s.nodes.length+1≤1000000:=by simpa[bY,pGo] using hn
            have HN:=hD (show s.nodes.length≤1000000 by omega);have HM:=hD (show pIs ts [91] (pGo s)=false by simpa using hm);clear hn2 hm;clear h ih hn;go_enter func224,ntmps224;go_wp2_with fail
            refine stepM (S0.o.line rfl) λw1 S1=>?_;obtain⟨hg1,c11,c21,c41,c51,f21,f41⟩:=S1.o.cells;obtain⟨hr1,x0,x1,x2⟩:=S1.o.tok;rw[HK.o] at x0;rw[HT.o,HBT.o] at x1;rw[HP.o] at x2;have n1:=World.new_ne w1 (g,U1) c11;have n2:=World.new_ne w1 (tb,s.i*3) x0;go_wp2_with fail
            go_region_held3 (λwx=>wx.cell? (g,1)=(tb,ts.length,tc)∧wx.cell? (g,2)=s.i∧wx.cell? (tb,s.i*3)=tk∧wx.cell? (tb,s.i*3+1)=bt∧wx.cell? (tb,s.i*3+2)=tp) (go_keep) (first|fail)
            have Z2:=hD (S1.o.no (((fR w1).alloc (.cells #[tk,bt,tp] 115)).drew));have BT:Hd (Blk (w1.alloc (.cells #[tk,bt,tp] 115)).drew w1.heap.size 115 #[tk,bt,tp]):=Blk.new w1 _ _;clear hr1 x0 x1 x2 n1 n2 c11 c21 c41 c51 f21 f41 S1 S0;generalize (w1.alloc (.cells #[tk,bt,tp] 115)).drew=w2 at *;have hgB:g≠w1.heap.size:=Nat.ne_of_lt hg1;clear hg1;generalize w1.heap.size=B at *;have HGB:=hD hgB.symm;clear hgB;have S2:=hD Z2.o.here;obtain⟨hg2,c12,c22,c42,c52,f22,f42⟩:=S2.o.cells;have hi2:=S2.o.i_le;have BT2:=S2.o.fr.blk BT HGB (by decide);have d02:=BT2.cell 0;have d12:=BT2.cell 1;simp at d02 d12
            clear BT2;go_wp2_with fail
            have S3:=hD (S2.o.go HO);clear hg2 c12 c22 c42 c52 f22 f42 hi2 he e1 e2 e3 d02 d12;generalize w2.setCell (g,U2) ((s.i:Int)+1:Int)=w3 at *;refine stepM (S3.o.is ⟨#[91]⟩ HM) λw4 S4=>?_;have BT4:=S4.o.fr.blk BT HGB (by decide);have d04:=BT4.cell 0;have d14:=BT4.cell 1;simp at d04 d14
            clear BT4;go_wp2_with fail
            refine stepM (S4.o.uW 4 _ 0 rfl rfl (name:=tt) HBT HN) λw5 S5=>?_;clear d04 d14;go_wp2
            go_ret;exact⟨rfl,Z2.o.back S5⟩
        . rw[if_neg k3] at hr
          have e3:((tk:Int)==3)=false:=bN.2 (by omega);clear k1 k2 k3 he0;by_cases ht:pIs ts [116,114,117,101] s=true
          . rw[if_pos ht] at hr
            simp only[Option.some.injEq] at hr;subst hr;have HO:=hD (h.ok.kE h.toks ht);have hn2:s.nodes.length+1≤1000000:=by simpa[bY,pGo] using hn
            have HN:=hD (show s.nodes.length≤1000000 by omega);have HM:=hD ht;obtain⟨b,hb⟩:∃b,pIs ts [102,97,108,115,101] s=b:=⟨_,rfl⟩;have HB:=hD hb;clear ht hn2 hb;clear h ih hn;go_enter func224,ntmps224;go_wp2_with fail
            refine stepM (S0.o.line rfl) λw1 S1=>?_;obtain⟨hg1,c11,c21,c41,c51,f21,f41⟩:=S1.o.cells;obtain⟨hr1,x0,x1,x2⟩:=S1.o.tok;rw[HK.o] at x0;rw[HT.o,HBT.o] at x1;rw[HP.o] at x2;have n1:=World.new_ne w1 (g,U1) c11;have n2:=World.new_ne w1 (tb,s.i*3) x0;go_wp2_with fail
            go_region_held3 (λwx=>wx.cell? (g,1)=(tb,ts.length,tc)∧wx.cell? (g,2)=s.i∧wx.cell? (tb,s.i*3)=tk∧wx.cell? (tb,s.i*3+1)=bt∧wx.cell? (tb,s.i*3+2)=tp) (go_keep) (first|fail)
            have Z2:=hD (S1.o.no (((fR w1).alloc (.cells #[tk,bt,tp] 115)).drew));have BT:Hd (Blk (w1.alloc (.cells #[tk,bt,tp] 115)).drew w1.heap.size 115 #[tk,bt,tp]):=Blk.new w1 _ _;clear hr1 x0 x1 x2 n1 n2 c11 c21 c41 c51 f21 f41 S1 S0;generalize (w1.alloc (.cells #[tk,bt,tp] 115)).drew=w2 at *;have hgB:g≠w1.heap.size:=Nat.ne_of_lt hg1;clear hg1;generalize w1.heap.size=B at *;have HGB:=hD hgB.symm;clear hgB;have S2:=hD Z2.o.here;obtain⟨hg2,c12,c22,c42,c52,f22,f42⟩:=S2.o.cells;have hi2:=S2.o.i_le;have BT2:=S2.o.fr.blk BT HGB (by decide);have d02:=BT2.cell 0;have d12:=BT2.cell 1;simp at d02 d12
            clear BT2;go_wp2_with fail
            clear hg2 c12 c22 c42 c52 f22 f42 hi2 he e1 e2 e3 d02 d12;refine stepM (S2.o.is ⟨#[116,114,117,101]⟩ HM) λw3 S3=>?_;go_wp2_with fail
            refine stepM (S3.o.is ⟨#[102,97,108,115,101]⟩ (b:=b) HB) λw4 S4=>?_;obtain⟨hg4,c14,c24,c44,c54,f24,f44⟩:=S4.o.cells;have hi4:=S4.o.i_le;go_wp2_with fail
            have HZ5:=hD (show (w4.setCell (g,U2) (((s).i:Int)+1:Int)).heap.size=w4.heap.size by simp);have S5:=hD (S4.o.go HO);clear hg4 c14 c24 c44 c54 f24 f44 hi4;generalize w4.setCell (g,U2) (((s).i:Int)+1:Int)=w5 at *;refine stepM (S5.o.uW 2 _ 1 rfl rfl (name:=[]) rfl HN) λw6 S6=>?_;go_wp2
            go_ret;exact⟨rfl,Z2.o.back S6⟩
          . rw[if_neg ht] at hr
            have HT1:=hD (show pIs ts [116,114,117,101] s=false by simpa using ht);clear ht;by_cases ht:pIs ts [102,97,108,115,101] s=true
            . rw[if_pos ht] at hr
              simp only[Option.some.injEq] at hr;subst hr;have HO:=hD (h.ok.kE h.toks ht);have hn2:s.nodes.length+1≤1000000:=by simpa[bY,pGo] using hn
              have HN:=hD (show s.nodes.length≤1000000 by omega);have HM:=hD ht;clear ht hn2;clear h ih hn;go_enter func224,ntmps224;go_wp2_with fail
              refine stepM (S0.o.line rfl) λw1 S1=>?_;obtain⟨hg1,c11,c21,c41,c51,f21,f41⟩:=S1.o.cells;obtain⟨hr1,x0,x1,x2⟩:=S1.o.tok;rw[HK.o] at x0;rw[HT.o,HBT.o] at x1;rw[HP.o] at x2;have n1:=World.new_ne w1 (g,U1) c11;have n2:=World.new_ne w1 (tb,s.i*3) x0;go_wp2_with fail
              go_region_held3 (λwx=>wx.cell? (g,1)=(tb,ts.length,tc)∧wx.cell? (g,2)=s.i∧wx.cell? (tb,s.i*3)=tk∧wx.cell? (tb,s.i*3+1)=bt∧wx.cell? (tb,s.i*3+2)=tp) (go_keep) (first|fail)
              have Z2:=hD (S1.o.no (((fR w1).alloc (.cells #[tk,bt,tp] 115)).drew));have BT:Hd (Blk (w1.alloc (.cells #[tk,bt,tp] 115)).drew w1.heap.size 115 #[tk,bt,tp]):=Blk.new w1 _ _;clear hr1 x0 x1 x2 n1 n2 c11 c21 c41 c51 f21 f41 S1 S0;generalize (w1.alloc (.cells #[tk,bt,tp] 115)).drew=w2 at *;have hgB:g≠w1.heap.size:=Nat.ne_of_lt hg1;clear hg1;generalize w1.heap.size=B at *;have HGB:=hD hgB.symm;clear hgB;have S2:=hD Z2.o.here;obtain⟨hg2,c12,c22,c42,c52,f22,f42⟩:=S2.o.cells;have hi2:=S2.o.i_le;have BT2:=S2.o.fr.blk BT HGB (by decide);have d02:=BT2.cell 0;have d12:=BT2.cell 1;simp at d02 d12
              clear BT2;go_wp2_with fail
              clear hg2 c12 c22 c42 c52 f22 f42 hi2 he e1 e2 e3 d02 d12;refine stepM (S2.o.is ⟨#[116,114,117,101]⟩ HT1) λw3 S3=>?_;go_wp2_with fail
              refine stepM (S3.o.is ⟨#[102,97,108,115,101]⟩ HM) λw4 S4=>?_;obtain⟨hg4,c14,c24,c44,c54,f24,f44⟩:=S4.o.cells;have hi4:=S4.o.i_le;go_wp2_with fail
              have HZ5:=hD (show (w4.setCell (g,U2) (((s).i:Int)+1:Int)).heap.size=w4.heap.size by simp);have S5:=hD (S4.o.go HO);clear hg4 c14 c24 c44 c54 f24 f44 hi4;generalize w4.setCell (g,U2) (((s).i:Int)+1:Int)=w5 at *;refine stepM (S5.o.uW 2 _ 0 rfl rfl (name:=[]) rfl HN) λw6 S6=>?_;go_wp2
              go_ret;exact⟨rfl,Z2.o.back S6⟩
            . rw[if_neg ht] at hr
              have HF1:=hD (show pIs ts [102,97,108,115,101] s=false by simpa using ht);clear ht;by_cases ht:pIs ts [108,101,110] s=true
              . rw[if_pos ht] at hr
                have HL:=hD ht;have HO:=hD (h.ok.kE h.toks ht);clear ht;by_cases hm:pIs ts [40] (pGo s)=true
                . rw[if_pos hm] at hr
                  simp only[mS] at hr;obtain⟨q,hq,rfl⟩:=hr;have hq1:=aK _ _ _ _ hq trivial;have hd:=iA _ _ _ _ hq;rw[aX,dU,kR] at hd;have hdl:=h.ok.fine H0.o;have HDB:=hD (show (1:Int)≤((aA ts [41] q.2).deep:Int)∧((aA ts [41] q.2).deep:Int)≤20 by rw[aX];omega);have HD:=hD (show 1≤(aA ts [41] q.2).deep by rw[aX];omega);have hn2:(aA ts [41] q.2).nodes.length+1≤1000000:=by simpa[bY,pUp] using hn
                  have HN:=hD (show (aA ts [41] q.2).nodes.length≤1000000 by omega);have HN1:=hD (Nat.le_trans (aW ((Ext.refl q.2).must (ts:=ts) [41])) HN);have HM:=hD hm;have HQ:=hD hq;rw[hq1];clear hq hq1 hd hdl hn2 hm;clear h ih hn;go_enter func224,ntmps224;go_wp2_with fail
                  refine stepM (S0.o.line rfl) λw1 S1=>?_;obtain⟨hg1,c11,c21,c41,c51,f21,f41⟩:=S1.o.cells;obtain⟨hr1,x0,x1,x2⟩:=S1.o.tok;rw[HK.o] at x0;rw[HT.o,HBT.o] at x1;rw[HP.o] at x2;have n1:=World.new_ne w1 (g,U1) c11;have n2:=World.new_ne w1 (tb,s.i*3) x0;go_wp2_with fail
                  go_region_held3 (λwx=>wx.cell? (g,1)=(tb,ts.length,tc)∧wx.cell? (g,2)=s.i∧wx.cell? (tb,s.i*3)=tk∧wx.cell? (tb,s.i*3+1)=bt∧wx.cell? (tb,s.i*3+2)=tp) (go_keep) (first|fail)
                  have Z2:=hD (S1.o.no (((fR w1).alloc (.cells #[tk,bt,tp] 115)).drew));have BT:Hd (Blk (w1.alloc (.cells #[tk,bt,tp] 115)).drew w1.heap.size 115 #[tk,bt,tp]):=Blk.new w1 _ _;clear hr1 x0 x1 x2 n1 n2 c11 c21 c41 c51 f21 f41 S1 S0;generalize (w1.alloc (.cells #[tk,bt,tp] 115)).drew=w2 at *;have hgB:g≠w1.heap.size:=Nat.ne_of_lt hg1;clear hg1;generalize w1.heap.size=B at *;have HGB:=hD hgB.symm;clear hgB;have S2:=hD Z2.o.here;obtain⟨hg2,c12,c22,c42,c52,f22,f42⟩:=S2.o.cells;have hi2:=S2.o.i_le;have BT2:=S2.o.fr.blk BT HGB (by decide);have d02:=BT2.cell 0;have d12:=BT2.cell 1;simp at d02 d12
                  clear BT2;go_wp2_with fail
                  clear hg2 c12 c22 c42 c52 f22 f42 hi2 he e1 e2 e3 d02 d12;refine stepM (S2.o.is ⟨#[116,114,117,101]⟩ HT1) λw3 S3=>?_;go_wp2_with fail
                  refine stepM (S3.o.is ⟨#[102,97,108,115,101]⟩ HF1) λw4 S4=>?_;go_wp2_with fail
                  refine stepM (S4.o.is ⟨#[108,101,110]⟩ HL) λw5 S5=>?_;obtain⟨hg5,c15,c25,c45,c55,f25,f45⟩:=S5.o.cells;have hi5:=S5.o.i_le;go_wp2_with fail
                  have HZ6:=hD (show (w5.setCell (g,U2) (((s).i:Int)+1:Int)).heap.size=w5.heap.size by simp);have S6:=hD (S5.o.go HO);clear hg5 c15 c25 c45 c55 f25 f45 hi5;generalize w5.setCell (g,U2) (((s).i:Int)+1:Int)=w6 at *;refine stepM (S6.o.is ⟨#[40]⟩ HM) λw7 S7=>?_;go_wp2_with fail
                  refine stepM (S7.o.down H0) λw8 S8=>?_;go_wp2_with fail
                  refine stepM (S8.o.must ⟨#[40]⟩) λw9 S9=>?_;go_wp2_with fail
                  refine stepM (IH.o.expr _ _ _ _ _ S9 HQ HN1) λw10 S10=>?_;go_wp2_with fail
                  refine stepM (S10.o.must ⟨#[41]⟩) λw11 S11=>?_;obtain⟨hg11,c111,c211,c411,c511,f211,f411⟩:=S11.o.cells;have hi11:=S11.o.i_le;obtain⟨hl11,hu11⟩:=HDB.o;go_wp2_with fail
                  have HZ12:=hD (show (w11.setCell (g,U4) (((aA ts [41] (q.2)).deep:Int) - 1:Int)).heap.size=w11.heap.size by simp);have S12:=hD (S11.o.up HD);clear hg11 c111 c211 c411 c511 f211 f411 hi11 hl11 hu11;generalize w11.setCell (g,U4) (((aA ts [41] (q.2)).deep:Int) - 1:Int)=w12 at *;refine stepM (S12.o.vS (oneOf q.1) HZ12 6 _ 0 rfl rfl (name:=[]) rfl HN) λw13 S13=>?_;go_wp2
                  go_ret;exact⟨rfl,Z2.o.back S13⟩
                . rw[if_neg hm] at hr
                  simp only[Option.some.injEq] at hr;subst hr;have HM:=hD (show pIs ts [40] (pGo s)=false by simpa using hm);clear hm;clear h ih hn;go_enter func224,ntmps224;go_wp2_with fail
                  refine stepM (S0.o.line rfl) λw1 S1=>?_;obtain⟨hg1,c11,c21,c41,c51,f21,f41⟩:=S1.o.cells;obtain⟨hr1,x0,x1,x2⟩:=S1.o.tok;rw[HK.o] at x0;rw[HT.o,HBT.o] at x1;rw[HP.o] at x2;have n1:=World.new_ne w1 (g,U1) c11;have n2:=World.new_ne w1 (tb,s.i*3) x0;go_wp2_with fail
                  go_region_held3 (λwx=>wx.cell? (g,1)=(tb,ts.length,tc)∧wx.cell? (g,2)=s.i∧wx.cell? (tb,s.i*3)=tk∧wx.cell? (tb,s.i*3+1)=bt∧wx.cell? (tb,s.i*3+2)=tp) (go_keep) (first|fail)
                  have Z2:=hD (S1.o.no (((fR w1).alloc (.cells #[tk,bt,tp] 115)).drew));have BT:Hd (Blk (w1.alloc (.cells #[tk,bt,tp] 115)).drew w1.heap.size 115 #[tk,bt,tp]):=Blk.new w1 _ _;clear hr1 x0 x1 x2 n1 n2 c11 c21 c41 c51 f21 f41 S1 S0;generalize (w1.alloc (.cells #[tk,bt,tp] 115)).drew=w2 at *;have hgB:g≠w1.heap.size:=Nat.ne_of_lt hg1;clear hg1;generalize w1.heap.size=B at *;have HGB:=hD hgB.symm;clear hgB;have S2:=hD Z2.o.here;obtain⟨hg2,c12,c22,c42,c52,f22,f42⟩:=S2.o.cells;have hi2:=S2.o.i_le;have BT2:=S2.o.fr.blk BT HGB (by decide);have d02:=BT2.cell 0;have d12:=BT2.cell 1;simp at d02 d12
                  clear BT2;go_wp2_with fail
                  clear hg2 c12 c22 c42 c52 f22 f42 hi2 he e1 e2 e3 d02 d12;refine stepM (S2.o.is ⟨#[116,114,117,101]⟩ HT1) λw3 S3=>?_;go_wp2_with fail
                  refine stepM (S3.o.is ⟨#[102,97,108,115,101]⟩ HF1) λw4 S4=>?_;go_wp2_with fail
                  refine stepM (S4.o.is ⟨#[108,101,110]⟩ HL) λw5 S5=>?_;obtain⟨hg5,c15,c25,c45,c55,f25,f45⟩:=S5.o.cells;have hi5:=S5.o.i_le;go_wp2_with fail
                  have HZ6:=hD (show (w5.setCell (g,U2) (((s).i:Int)+1:Int)).heap.size=w5.heap.size by simp);have S6:=hD (S5.o.go HO);clear hg5 c15 c25 c45 c55 f25 f45 hi5;generalize w5.setCell (g,U2) (((s).i:Int)+1:Int)=w6 at *;refine stepM (S6.o.is ⟨#[40]⟩ HM) λw7 S7=>?_;go_wp2_with fail
                  refine stepM (S7.o.fails 20 (by decide) (by decide)) λw8 S8=>?_;go_wp2
                  go_ret;exact⟨rfl,Z2.o.back S8⟩
              . rw[if_neg ht] at hr
                have HL:=hD (show pIs ts [108,101,110] s=false by simpa using ht);clear ht;by_cases hm:pIs ts [40] s=true
                . rw[if_pos hm] at hr
                  simp only[mS] at hr;obtain⟨q,hq,rfl⟩:=hr;have hd:=iA _ _ _ _ hq;rw[aX,dU] at hd;have hdl:=h.ok.fine H0.o;have HDB:=hD (show (1:Int)≤((aA ts [41] q.2).deep:Int)∧((aA ts [41] q.2).deep:Int)≤20 by rw[aX];omega);have HD:=hD (show 1≤(aA ts [41] q.2).deep by rw[aX];omega);have HN:=hD (show (aA ts [41] q.2).nodes.length≤1000000 by simpa[pUp] using hn);have HN1:=hD (Nat.le_trans (aW ((Ext.refl q.2).must (ts:=ts) [41])) HN);have HM:=hD hm;have HQ:=hD hq;clear hq hd hdl hm;clear h ih hn;go_enter func224,ntmps224;go_wp2_with fail
                  refine stepM (S0.o.line rfl) λw1 S1=>?_;obtain⟨hg1,c11,c21,c41,c51,f21,f41⟩:=S1.o.cells;obtain⟨hr1,x0,x1,x2⟩:=S1.o.tok;rw[HK.o] at x0;rw[HT.o,HBT.o] at x1;rw[HP.o] at x2;have n1:=World.new_ne w1 (g,U1) c11;have n2:=World.new_ne w1 (tb,s.i*3) x0;go_wp2_with fail
                  go_region_held3 (λwx=>wx.cell? (g,1)=(tb,ts.length,tc)∧wx.cell? (g,2)=s.i∧wx.cell? (tb,s.i*3)=tk∧wx.cell? (tb,s.i*3+1)=bt∧wx.cell? (tb,s.i*3+2)=tp) (go_keep) (first|fail)
                  have Z2:=hD (S1.o.no (((fR w1).alloc (.cells #[tk,bt,tp] 115)).drew));have BT:Hd (Blk (w1.alloc (.cells #[tk,bt,tp] 115)).drew w1.heap.size 115 #[tk,bt,tp]):=Blk.new w1 _ _;clear hr1 x0 x1 x2 n1 n2 c11 c21 c41 c51 f21 f41 S1 S0;generalize (w1.alloc (.cells #[tk,bt,tp] 115)).drew=w2 at *;have hgB:g≠w1.heap.size:=Nat.ne_of_lt hg1;clear hg1;generalize w1.heap.size=B at *;have HGB:=hD hgB.symm;clear hgB;have S2:=hD Z2.o.here;obtain⟨hg2,c12,c22,c42,c52,f22,f42⟩:=S2.o.cells;have hi2:=S2.o.i_le;have BT2:=S2.o.fr.blk BT HGB (by decide);have d02:=BT2.cell 0;have d12:=BT2.cell 1;simp at d02 d12
                  clear BT2;go_wp2_with fail
                  clear hg2 c12 c22 c42 c52 f22 f42 hi2 he e1 e2 e3 d02 d12;refine stepM (S2.o.is ⟨#[116,114,117,101]⟩ HT1) λw3 S3=>?_;go_wp2_with fail
                  refine stepM (S3.o.is ⟨#[102,97,108,115,101]⟩ HF1) λw4 S4=>?_;go_wp2_with fail
                  refine stepM (S4.o.is ⟨#[108,101,110]⟩ HL) λw5 S5=>?_;go_wp2_with fail
                  refine stepM (S5.o.is ⟨#[40]⟩ HM) λw6 S6=>?_;go_wp2_with fail
                  refine stepM (S6.o.down H0) λw7 S7=>?_;go_wp2_with fail
                  refine stepM (S7.o.must ⟨#[40]⟩) λw8 S8=>?_;go_wp2_with fail
                  refine stepM (IH.o.expr _ _ _ _ _ S8 HQ HN1) λw9 S9=>?_;go_wp2_with fail
                  refine stepM (S9.o.must ⟨#[41]⟩) λw10 S10=>?_;obtain⟨hg10,c110,c210,c410,c510,f210,f410⟩:=S10.o.cells;have hi10:=S10.o.i_le;obtain⟨hl10,hu10⟩:=HDB.o;go_wp2_with fail
                  have S11:=hD (S10.o.up HD);clear hg10 c110 c210 c410 c510 f210 f410 hi10 hl10 hu10;generalize w10.setCell (g,U4) (((aA ts [41] (q.2)).deep:Int) - 1:Int)=w11 at *;go_ret;exact⟨rfl,Z2.o.back S11⟩
                . rw[if_neg hm] at hr
                  simp only[Option.some.injEq] at hr;subst hr;have HM:=hD (show pIs ts [40] s=false by simpa using hm);clear hm;clear h ih hn;go_enter func224,ntmps224;go_wp2_with fail
                  refine stepM (S0.o.line rfl) λw1 S1=>?_;obtain⟨hg1,c11,c21,c41,c51,f21,f41⟩:=S1.o.cells;obtain⟨hr1,x0,x1,x2⟩:=S1.o.tok;rw[HK.o] at x0;rw[HT.o,HBT.o] at x1;rw[HP.o] at x2;have n1:=World.new_ne w1 (g,U1) c11;have n2:=World.new_ne w1 (tb,s.i*3) x0;go_wp2_with fail
                  go_region_held3 (λwx=>wx.cell? (g,1)=(tb,ts.length,tc)∧wx.cell? (g,2)=s.i∧wx.cell? (tb,s.i*3)=tk∧wx.cell? (tb,s.i*3+1)=bt∧wx.cell? (tb,s.i*3+2)=tp) (go_keep) (first|fail)
                  have Z2:=hD (S1.o.no (((fR w1).alloc (.cells #[tk,bt,tp] 115)).drew));have BT:Hd (Blk (w1.alloc (.cells #[tk,bt,tp] 115)).drew w1.heap.size 115 #[tk,bt,tp]):=Blk.new w1 _ _;clear hr1 x0 x1 x2 n1 n2 c11 c21 c41 c51 f21 f41 S1 S0;generalize (w1.alloc (.cells #[tk,bt,tp] 115)).drew=w2 at *;have hgB:g≠w1.heap.size:=Nat.ne_of_lt hg1;clear hg1;generalize w1.heap.size=B at *;have HGB:=hD hgB.symm;clear hgB;have S2:=hD Z2.o.here;obtain⟨hg2,c12,c22,c42,c52,f22,f42⟩:=S2.o.cells;have hi2:=S2.o.i_le;have BT2:=S2.o.fr.blk BT HGB (by decide);have d02:=BT2.cell 0;have d12:=BT2.cell 1;simp at d02 d12
                  clear BT2;go_wp2_with fail
                  clear hg2 c12 c22 c42 c52 f22 f42 hi2 he e1 e2 e3 d02 d12;refine stepM (S2.o.is ⟨#[116,114,117,101]⟩ HT1) λw3 S3=>?_;go_wp2_with fail
                  refine stepM (S3.o.is ⟨#[102,97,108,115,101]⟩ HF1) λw4 S4=>?_;go_wp2_with fail
                  refine stepM (S4.o.is ⟨#[108,101,110]⟩ HL) λw5 S5=>?_;go_wp2_with fail
                  refine stepM (S5.o.is ⟨#[40]⟩ HM) λw6 S6=>?_;go_wp2_with fail
                  refine stepM (S6.o.fails 20 (by decide) (by decide)) λw7 S7=>?_;go_wp2
                  go_ret;exact⟨rfl,Z2.o.back S7⟩
  . rw[if_pos he0] at hr
    simp only[Option.some.injEq] at hr;subst hr;have he:((s.e:Int)==0)=false:=bN.2 (by omega);clear he0;clear h ih hn;go_enter func224,ntmps224;go_wp2_with fail
    refine stepM (S0.o.line rfl) λw1 S1=>?_;obtain⟨hg1,c11,c21,c41,c51,f21,f41⟩:=S1.o.cells;obtain⟨hr1,x0,x1,x2⟩:=S1.o.tok;rw[HK.o] at x0;rw[HT.o,HBT.o] at x1;rw[HP.o] at x2;have n1:=World.new_ne w1 (g,U1) c11;have n2:=World.new_ne w1 (tb,s.i*3) x0;go_wp2_with fail
    go_region_held3 (λwx=>wx.cell? (g,1)=(tb,ts.length,tc)∧wx.cell? (g,2)=s.i∧wx.cell? (tb,s.i*3)=tk∧wx.cell? (tb,s.i*3+1)=bt∧wx.cell? (tb,s.i*3+2)=tp) (go_keep) (first|fail)
    have Z2:=hD (S1.o.no (((fR w1).alloc (.cells #[tk,bt,tp] 115)).drew));have BT:Hd (Blk (w1.alloc (.cells #[tk,bt,tp] 115)).drew w1.heap.size 115 #[tk,bt,tp]):=Blk.new w1 _ _;clear hr1 x0 x1 x2 n1 n2 c11 c21 c41 c51 f21 f41 S1 S0;generalize (w1.alloc (.cells #[tk,bt,tp] 115)).drew=w2 at *;have hgB:g≠w1.heap.size:=Nat.ne_of_lt hg1;clear hg1;generalize w1.heap.size=B at *;have HGB:=hD hgB.symm;clear hgB;have S2:=hD Z2.o.here;obtain⟨hg2,c12,c22,c42,c52,f22,f42⟩:=S2.o.cells;have hi2:=S2.o.i_le;go_wp2
    go_ret;exact⟨rfl,Z2.o.back S2⟩
theorem aLr:∀n,Good src tb tc ts g n:=by
 intro n;induction n using Nat.strongRecOn with
 | _ n ih=>
  have hc:=λ(lv:Nat) (z:Int) (hz:((lv:Nat):Int)=z) (hl:lv≤5)=>aEk ih lv z hz hl
  exact⟨aIy ih,zO ih,hc,aIg hc,aIs ih,aCi ih,aEp ih,λline=>aDi ih line,aFd ih⟩
end
end Go.Proofs.YtlbjicjinnnboaaGreatDoor
