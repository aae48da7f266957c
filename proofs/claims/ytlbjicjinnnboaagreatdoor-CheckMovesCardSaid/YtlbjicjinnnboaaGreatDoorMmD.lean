/- MmD: PCall, PAtom. -/
import Derived.Test.YtlbjicjinnnboaaGreatDoorUShelf
import Derived.Test.YtlbjicjinnnboaaGreatDoorMmC
import Derived.Lib.AtoiAll
set_option maxHeartbeats 8000000
set_option maxRecDepth 100000
set_option linter.unusedVariables false
set_option linter.unusedSimpArgs false
/- The parser's functions: call, block. Printed by wip/tools/mkright.py. -/
namespace Go.Proofs.YtlbjicjinnnboaaGreatDoor
open Go.RowKit
section
variable {src:ByteArray}{tb tc:Nat}{ts:List Tok}{g:Nat}{n:Nat}
def uD (src:List UInt8) (ts:List Tok) (k:Nat) (l:List Nat) (s:PS) (q:List Nat×PS):Bool→Prop
 | true=>run src ts k (.args l) s=some q
 | false=>q=(l,s)
theorem aIz (ih:∀m,m<n→Good src tb tc ts g m):Does src tb tc ts g n .call 191 #[.pointer (some ⟨g,0,none⟩)]:=by
 cases n with
 | zero=>exact Does.zero _ _ _
 | succ n=>
  intro R w0 w s r h hr hn;have IH:=hD (ih n (Nat.lt_succ_self n));have S0:=hD h;simp only[run] at hr;simp only[mS] at hr;obtain⟨q,hq,rfl⟩:=hr;obtain⟨s2,hs2⟩:∃s2,aA ts [40] (aC ts s)=s2:=⟨_,rfl⟩;rw[hs2] at hq;have hn2:(aA ts [41] q.2).nodes.length+1≤1000000:=by simpa[bM] using hn
  have HN:=hD (show (aA ts [41] q.2).nodes.length≤1000000 by omega);have HN1:=hD (Nat.le_trans (aU ((Ext.refl q.2).must (ts:=ts) [41])) HN.out);have HI:=hD ih;have HS2:=hD hs2;obtain⟨line,hline⟩:∃line,aS src.data.toList ts s=line:=⟨_,rfl⟩;have HLN:=hD hline;obtain⟨NM,hname⟩:∃NM,bs (bK ts s)=NM:=⟨_,rfl⟩;have HNM:=hD hname;rw[hline];clear h ih hn hn2 hs2 hline hname;by_cases he1:pIs ts [41] s2=true
  · rw[if_neg (by rw[he1];simp)] at hq
    simp only[Option.some.injEq] at hq;have HA:=hD (show uD src.data.toList ts n [] s2 q false from hq.symm);have HE:=hD he1;clear he1 hq;go_enter Tryz.func191,Tryz.ntmps191;go_wp2_with fail
    refine (S0.out.line HLN.out).mono ?_;rintro e w1 ⟨rfl,h1⟩;have S1:=hD h1;clear h1;go_wp2_with fail
    refine (S1.out.name HNM.out).mono ?_;rintro e w2 ⟨rfl,h2⟩;have S2:=hD h2;clear h2;go_wp2_with fail
    refine (S2.out.must ⟨#[40]⟩).mono ?_;rintro e w3 ⟨rfl,h3⟩;have S3:=hD h3;clear h3;have S4:=hD (show St src tb tc ts g R w0 w3 s2 by have h4:=S3.out;rw[←HS2.out];exact h4);clear S3;go_wp2_with fail
    have S5:=hD (S4.out.row0 (.cells #[] 3) (some ⟨w3.heap.size,0,none⟩));refine (S5.out.step (S5.out.here.is ⟨#[41]⟩ (b:=true) HE.out)).mono ?_;rintro e w6 ⟨rfl,h6⟩;have S6:=hD h6;clear h6 S0 S1 S2 S4 S5;obtain⟨hg6,c16,c26,c46,c56,f26,f46⟩:=S6.out.st.cells;go_wp2_with fail
    clear hg6 c16 c26 c46 c56 f26 f46;go_loopg [5,7] n (fun k v more wr=>∃(l:List Nat) (s':PS) (b:Bool),more = .bool b∧Hid (k≤n)∧Hid (StR src tb tc ts g R w0 wr s' v l)∧Hid (uD src.data.toList ts k l s' q b)∧Hid (b=true→l.length≤s'.i))
    case atStart=>exact⟨[],s2,_,rfl,hD (Nat.le_refl n),S6,HA,hD (fun _=>Nat.zero_le _)⟩
    case round=>
      obtain⟨l,s',b,rfl,HK,S3,HR,HB⟩:=hrel;clear S6 HA HE;cases b with
      | false=>
       have hr:q=(l,s'):=HR.out;subst hr;clear HR HB;have S3:Hid (StR src tb tc ts g R w0 wr s' _ l):=S3;go_wp2_with fail
       refine (S3.out.step (S3.out.here.must ⟨#[41]⟩)).mono ?_;rintro e w4 ⟨rfl,h4⟩;have S4:=hD h4;clear h4;go_wp2_with fail
       refine (S4.out.put 21 _ 0 rfl rfl (name:=(bK ts s)) HNM.out HN.out).mono ?_;rintro e w5 ⟨rfl,h5⟩;have S5:=hD h5;clear h5;go_wp2_with fail
       go_ret;exact⟨rfl,S5.out⟩
      | true=>
       have hr:run src.data.toList ts gk (.args l) s'=some q:=HR.out;cases gk with
       | zero=>simp[run] at hr
       | succ k=>
        simp only[run,bS] at hr;obtain⟨u,hu,hr⟩:=hr;have IH:=hD (HI.out k (by have:=HK.out;omega));have hu1:=aK _ _ _ _ hu trivial;rw[hu1] at hr;have hok:=gV S3.out.st.toks _ _ _ _ hu S3.out.st.ok;have hle:=(aI _ _ _ _ hu).i;have hb:=HB.out rfl;have hri:=S3.out.st.i_le;have HU:=hD hu;have HB2:=hD (show l.length≤1000 by omega);have HLE:=hD (show l.length≤u.2.i by omega);clear hu hu1 hle hb hri HB HR;by_cases hm:pIs ts [44] u.2=true
        · rw[if_pos hm] at hr
          have HN2:=hD (Nat.le_trans (aU (((Ext.refl u.2).go).trans (aI _ _ _ _ hr))) HN1.out);have HM:=hD hm;have HO:=hD (hok.iZ S3.out.st.toks hm);have HR2:=hD hr;clear hr hm hok;go_wp2_with fail
          refine (S3.out.step (IH.out.expr _ _ _ _ _ S3.out.here HU.out HN2.out)).mono ?_;rintro e w4 ⟨rfl,h4⟩;have S4:=hD h4;clear h4;go_wp2_with (at_builtin;go_loud (refine aL (m:=1) (news:=[.int .i64 (oneOf u.1:Nat)]) rfl _ _ rfl gW rfl rfl (S4.out.own.alloc _) (Rd.fC (n:=1) (cs:=[.int .i64 (oneOf u.1:Nat)]) (Blk.new _ _ _) rfl (by decide)) (by simp[Value.oneCell']) (by have h9:=HB2.out;first|omega|(unfold maxLen;omega)) (by have h9:=HB2.out;first|omega|(unfold maxLen;omega)) ?_);intro A5 c5 w5 ho5 hf5 hv5;have S5:=hD (S4.out.app (gF ho5) hf5 hv5);clear ho5 hf5 hv5)
          refine (S5.out.step (S5.out.here.is ⟨#[44]⟩ (b:=true) HM.out)).mono ?_;rintro e w6 ⟨rfl,h6⟩;have S6:=hD h6;clear h6;obtain⟨hg6,c16,c26,c46,c56,f26,f46⟩:=S6.out.st.cells;have hi6:=S6.out.st.i_le;go_wp2_with fail
          have HZ7:=hD (show (w6.setCell ⟨g,2,none⟩ (.int .i64 (((u.2).i:Int)+1))).heap.size=w6.heap.size by simp);have S7:=hD (S6.out.go HO.out);clear hg6 c16 c26 c46 c56 f26 f46 hi6;generalize w6.setCell ⟨g,2,none⟩ (.int .i64 (((u.2).i:Int)+1))=w7 at *;go_roundg k
          case measure=>omega
          case rel=>exact⟨l++[oneOf u.1],pGo u.2,true,rfl,hD (by have:=HK.out;omega),S7,HR2,hD (fun _=>by have h9:=HLE.out;rw[List.length_append];show l.length+1≤u.2.i+1;omega)⟩
        · rw[if_neg hm] at hr
          simp only[Option.some.injEq] at hr;have HN2:=hD (show u.2.nodes.length≤1000000 by rw[←hr] at HN1;exact HN1.out);have HM:=hD (show pIs ts [44] u.2=false by simpa using hm);have HR2:=hD hr.symm;clear hr hm hok;go_wp2_with fail
          refine (S3.out.step (IH.out.expr _ _ _ _ _ S3.out.here HU.out HN2.out)).mono ?_;rintro e w4 ⟨rfl,h4⟩;have S4:=hD h4;clear h4;go_wp2_with (at_builtin;go_loud (refine aL (m:=1) (news:=[.int .i64 (oneOf u.1:Nat)]) rfl _ _ rfl gW rfl rfl (S4.out.own.alloc _) (Rd.fC (n:=1) (cs:=[.int .i64 (oneOf u.1:Nat)]) (Blk.new _ _ _) rfl (by decide)) (by simp[Value.oneCell']) (by have h9:=HB2.out;first|omega|(unfold maxLen;omega)) (by have h9:=HB2.out;first|omega|(unfold maxLen;omega)) ?_);intro A5 c5 w5 ho5 hf5 hv5;have S5:=hD (S4.out.app (gF ho5) hf5 hv5);clear ho5 hf5 hv5)
          refine (S5.out.step (S5.out.here.is ⟨#[44]⟩ (b:=false) HM.out)).mono ?_;rintro e w6 ⟨rfl,h6⟩;have S6:=hD h6;clear h6;go_wp2_with fail
          go_roundg k
          case measure=>omega
          case rel=>exact⟨l++[oneOf u.1],u.2,false,rfl,hD (by have:=HK.out;omega),S6,HR2,hD (fun h=>by cases h)⟩
  · have he2:pIs ts [41] s2=false:=by simpa using he1
    have HE:=hD he2;by_cases h0:s2.e=0
    · rw[if_pos ⟨he2,h0⟩] at hq
      have HA:=hD (show uD src.data.toList ts n [] s2 q true from hq);have he:((s2.e:Int)==0)=true:=by rw[h0];rfl
      clear he1 he2 h0 hq;go_enter Tryz.func191,Tryz.ntmps191;go_wp2_with fail
      refine (S0.out.line HLN.out).mono ?_;rintro e w1 ⟨rfl,h1⟩;have S1:=hD h1;clear h1;go_wp2_with fail
      refine (S1.out.name HNM.out).mono ?_;rintro e w2 ⟨rfl,h2⟩;have S2:=hD h2;clear h2;go_wp2_with fail
      refine (S2.out.must ⟨#[40]⟩).mono ?_;rintro e w3 ⟨rfl,h3⟩;have S3:=hD h3;clear h3;have S4:=hD (show St src tb tc ts g R w0 w3 s2 by have h4:=S3.out;rw[←HS2.out];exact h4);clear S3;go_wp2_with fail
      have S5:=hD (S4.out.row0 (.cells #[] 3) (some ⟨w3.heap.size,0,none⟩));refine (S5.out.step (S5.out.here.is ⟨#[41]⟩ (b:=false) HE.out)).mono ?_;rintro e w6 ⟨rfl,h6⟩;have S6:=hD h6;clear h6 S0 S1 S2 S4 S5;obtain⟨hg6,c16,c26,c46,c56,f26,f46⟩:=S6.out.st.cells;go_wp2_with fail
      clear hg6 c16 c26 c46 c56 f26 f46 he;go_loopg [5,7] n (fun k v more wr=>∃(l:List Nat) (s':PS) (b:Bool),more = .bool b∧Hid (k≤n)∧Hid (StR src tb tc ts g R w0 wr s' v l)∧Hid (uD src.data.toList ts k l s' q b)∧Hid (b=true→l.length≤s'.i))
      case atStart=>exact⟨[],s2,_,rfl,hD (Nat.le_refl n),S6,HA,hD (fun _=>Nat.zero_le _)⟩
      case round=>
       obtain⟨l,s',b,rfl,HK,S3,HR,HB⟩:=hrel;clear S6 HA HE;cases b with
       | false=>
        have hr:q=(l,s'):=HR.out;subst hr;clear HR HB;have S3:Hid (StR src tb tc ts g R w0 wr s' _ l):=S3;go_wp2_with fail
        refine (S3.out.step (S3.out.here.must ⟨#[41]⟩)).mono ?_;rintro e w4 ⟨rfl,h4⟩;have S4:=hD h4;clear h4;go_wp2_with fail
        refine (S4.out.put 21 _ 0 rfl rfl (name:=(bK ts s)) HNM.out HN.out).mono ?_;rintro e w5 ⟨rfl,h5⟩;have S5:=hD h5;clear h5;go_wp2_with fail
        go_ret;exact⟨rfl,S5.out⟩
       | true=>
        have hr:run src.data.toList ts gk (.args l) s'=some q:=HR.out;cases gk with
        | zero=>simp[run] at hr
        | succ k=>
          simp only[run,bS] at hr;obtain⟨u,hu,hr⟩:=hr;have IH:=hD (HI.out k (by have:=HK.out;omega));have hu1:=aK _ _ _ _ hu trivial;rw[hu1] at hr;have hok:=gV S3.out.st.toks _ _ _ _ hu S3.out.st.ok;have hle:=(aI _ _ _ _ hu).i;have hb:=HB.out rfl;have hri:=S3.out.st.i_le;have HU:=hD hu;have HB2:=hD (show l.length≤1000 by omega);have HLE:=hD (show l.length≤u.2.i by omega);clear hu hu1 hle hb hri HB HR;by_cases hm:pIs ts [44] u.2=true
          · rw[if_pos hm] at hr
            have HN2:=hD (Nat.le_trans (aU (((Ext.refl u.2).go).trans (aI _ _ _ _ hr))) HN1.out);have HM:=hD hm;have HO:=hD (hok.iZ S3.out.st.toks hm);have HR2:=hD hr;clear hr hm hok;go_wp2_with fail
            refine (S3.out.step (IH.out.expr _ _ _ _ _ S3.out.here HU.out HN2.out)).mono ?_;rintro e w4 ⟨rfl,h4⟩;have S4:=hD h4;clear h4;go_wp2_with (at_builtin;go_loud (refine aL (m:=1) (news:=[.int .i64 (oneOf u.1:Nat)]) rfl _ _ rfl gW rfl rfl (S4.out.own.alloc _) (Rd.fC (n:=1) (cs:=[.int .i64 (oneOf u.1:Nat)]) (Blk.new _ _ _) rfl (by decide)) (by simp[Value.oneCell']) (by have h9:=HB2.out;first|omega|(unfold maxLen;omega)) (by have h9:=HB2.out;first|omega|(unfold maxLen;omega)) ?_);intro A5 c5 w5 ho5 hf5 hv5;have S5:=hD (S4.out.app (gF ho5) hf5 hv5);clear ho5 hf5 hv5)
            refine (S5.out.step (S5.out.here.is ⟨#[44]⟩ (b:=true) HM.out)).mono ?_;rintro e w6 ⟨rfl,h6⟩;have S6:=hD h6;clear h6;obtain⟨hg6,c16,c26,c46,c56,f26,f46⟩:=S6.out.st.cells;have hi6:=S6.out.st.i_le;go_wp2_with fail
            have HZ7:=hD (show (w6.setCell ⟨g,2,none⟩ (.int .i64 (((u.2).i:Int)+1))).heap.size=w6.heap.size by simp);have S7:=hD (S6.out.go HO.out);clear hg6 c16 c26 c46 c56 f26 f46 hi6;generalize w6.setCell ⟨g,2,none⟩ (.int .i64 (((u.2).i:Int)+1))=w7 at *;go_roundg k
            case measure=>omega
            case rel=>exact⟨l++[oneOf u.1],pGo u.2,true,rfl,hD (by have:=HK.out;omega),S7,HR2,hD (fun _=>by have h9:=HLE.out;rw[List.length_append];show l.length+1≤u.2.i+1;omega)⟩
          · rw[if_neg hm] at hr
            simp only[Option.some.injEq] at hr;have HN2:=hD (show u.2.nodes.length≤1000000 by rw[←hr] at HN1;exact HN1.out);have HM:=hD (show pIs ts [44] u.2=false by simpa using hm);have HR2:=hD hr.symm;clear hr hm hok;go_wp2_with fail
            refine (S3.out.step (IH.out.expr _ _ _ _ _ S3.out.here HU.out HN2.out)).mono ?_;rintro e w4 ⟨rfl,h4⟩;have S4:=hD h4;clear h4;go_wp2_with (at_builtin;go_loud (refine aL (m:=1) (news:=[.int .i64 (oneOf u.1:Nat)]) rfl _ _ rfl gW rfl rfl (S4.out.own.alloc _) (Rd.fC (n:=1) (cs:=[.int .i64 (oneOf u.1:Nat)]) (Blk.new _ _ _) rfl (by decide)) (by simp[Value.oneCell']) (by have h9:=HB2.out;first|omega|(unfold maxLen;omega)) (by have h9:=HB2.out;first|omega|(unfold maxLen;omega)) ?_);intro A5 c5 w5 ho5 hf5 hv5;have S5:=hD (S4.out.app (gF ho5) hf5 hv5);clear ho5 hf5 hv5)
            refine (S5.out.step (S5.out.here.is ⟨#[44]⟩ (b:=false) HM.out)).mono ?_;rintro e w6 ⟨rfl,h6⟩;have S6:=hD h6;clear h6;go_wp2_with fail
            go_roundg k
            case measure=>omega
            case rel=>exact⟨l++[oneOf u.1],u.2,false,rfl,hD (by have:=HK.out;omega),S6,HR2,hD (fun h=>by cases h)⟩
    · rw[if_neg (by rintro⟨_,h⟩;exact h0 h)] at hq
      simp only[Option.some.injEq] at hq;have HA:=hD (show uD src.data.toList ts n [] s2 q false from hq.symm);have he:((s2.e:Int)==0)=false:=bN.2 (by omega);clear he1 he2 h0 hq;go_enter Tryz.func191,Tryz.ntmps191;go_wp2_with fail
      refine (S0.out.line HLN.out).mono ?_;rintro e w1 ⟨rfl,h1⟩;have S1:=hD h1;clear h1;go_wp2_with fail
      refine (S1.out.name HNM.out).mono ?_;rintro e w2 ⟨rfl,h2⟩;have S2:=hD h2;clear h2;go_wp2_with fail
      refine (S2.out.must ⟨#[40]⟩).mono ?_;rintro e w3 ⟨rfl,h3⟩;have S3:=hD h3;clear h3;have S4:=hD (show St src tb tc ts g R w0 w3 s2 by have h4:=S3.out;rw[←HS2.out];exact h4);clear S3;go_wp2_with fail
      have S5:=hD (S4.out.row0 (.cells #[] 3) (some ⟨w3.heap.size,0,none⟩));refine (S5.out.step (S5.out.here.is ⟨#[41]⟩ (b:=false) HE.out)).mono ?_;rintro e w6 ⟨rfl,h6⟩;have S6:=hD h6;clear h6 S0 S1 S2 S4 S5;obtain⟨hg6,c16,c26,c46,c56,f26,f46⟩:=S6.out.st.cells;go_wp2_with fail
      clear hg6 c16 c26 c46 c56 f26 f46 he;go_loopg [5,7] n (fun k v more wr=>∃(l:List Nat) (s':PS) (b:Bool),more = .bool b∧Hid (k≤n)∧Hid (StR src tb tc ts g R w0 wr s' v l)∧Hid (uD src.data.toList ts k l s' q b)∧Hid (b=true→l.length≤s'.i))
      case atStart=>exact⟨[],s2,_,rfl,hD (Nat.le_refl n),S6,HA,hD (fun _=>Nat.zero_le _)⟩
      case round=>
       obtain⟨l,s',b,rfl,HK,S3,HR,HB⟩:=hrel;clear S6 HA HE;cases b with
       | false=>
        have hr:q=(l,s'):=HR.out;subst hr;clear HR HB;have S3:Hid (StR src tb tc ts g R w0 wr s' _ l):=S3;go_wp2_with fail
        refine (S3.out.step (S3.out.here.must ⟨#[41]⟩)).mono ?_;rintro e w4 ⟨rfl,h4⟩;have S4:=hD h4;clear h4;go_wp2_with fail
        refine (S4.out.put 21 _ 0 rfl rfl (name:=(bK ts s)) HNM.out HN.out).mono ?_;rintro e w5 ⟨rfl,h5⟩;have S5:=hD h5;clear h5;go_wp2_with fail
        go_ret;exact⟨rfl,S5.out⟩
       | true=>
        have hr:run src.data.toList ts gk (.args l) s'=some q:=HR.out;cases gk with
        | zero=>simp[run] at hr
        | succ k=>
          simp only[run,bS] at hr;obtain⟨u,hu,hr⟩:=hr;have IH:=hD (HI.out k (by have:=HK.out;omega));have hu1:=aK _ _ _ _ hu trivial;rw[hu1] at hr;have hok:=gV S3.out.st.toks _ _ _ _ hu S3.out.st.ok;have hle:=(aI _ _ _ _ hu).i;have hb:=HB.out rfl;have hri:=S3.out.st.i_le;have HU:=hD hu;have HB2:=hD (show l.length≤1000 by omega);have HLE:=hD (show l.length≤u.2.i by omega);clear hu hu1 hle hb hri HB HR;by_cases hm:pIs ts [44] u.2=true
          · rw[if_pos hm] at hr
            have HN2:=hD (Nat.le_trans (aU (((Ext.refl u.2).go).trans (aI _ _ _ _ hr))) HN1.out);have HM:=hD hm;have HO:=hD (hok.iZ S3.out.st.toks hm);have HR2:=hD hr;clear hr hm hok;go_wp2_with fail
            refine (S3.out.step (IH.out.expr _ _ _ _ _ S3.out.here HU.out HN2.out)).mono ?_;rintro e w4 ⟨rfl,h4⟩;have S4:=hD h4;clear h4;go_wp2_with (at_builtin;go_loud (refine aL (m:=1) (news:=[.int .i64 (oneOf u.1:Nat)]) rfl _ _ rfl gW rfl rfl (S4.out.own.alloc _) (Rd.fC (n:=1) (cs:=[.int .i64 (oneOf u.1:Nat)]) (Blk.new _ _ _) rfl (by decide)) (by simp[Value.oneCell']) (by have h9:=HB2.out;first|omega|(unfold maxLen;omega)) (by have h9:=HB2.out;first|omega|(unfold maxLen;omega)) ?_);intro A5 c5 w5 ho5 hf5 hv5;have S5:=hD (S4.out.app (gF ho5) hf5 hv5);clear ho5 hf5 hv5)
            refine (S5.out.step (S5.out.here.is ⟨#[44]⟩ (b:=true) HM.out)).mono ?_;rintro e w6 ⟨rfl,h6⟩;have S6:=hD h6;clear h6;obtain⟨hg6,c16,c26,c46,c56,f26,f46⟩:=S6.out.st.cells;have hi6:=S6.out.st.i_le;go_wp2_with fail
            have HZ7:=hD (show (w6.setCell ⟨g,2,none⟩ (.int .i64 (((u.2).i:Int)+1))).heap.size=w6.heap.size by simp);have S7:=hD (S6.out.go HO.out);clear hg6 c16 c26 c46 c56 f26 f46 hi6;generalize w6.setCell ⟨g,2,none⟩ (.int .i64 (((u.2).i:Int)+1))=w7 at *;go_roundg k
            case measure=>omega
            case rel=>exact⟨l++[oneOf u.1],pGo u.2,true,rfl,hD (by have:=HK.out;omega),S7,HR2,hD (fun _=>by have h9:=HLE.out;rw[List.length_append];show l.length+1≤u.2.i+1;omega)⟩
          · rw[if_neg hm] at hr
            simp only[Option.some.injEq] at hr;have HN2:=hD (show u.2.nodes.length≤1000000 by rw[←hr] at HN1;exact HN1.out);have HM:=hD (show pIs ts [44] u.2=false by simpa using hm);have HR2:=hD hr.symm;clear hr hm hok;go_wp2_with fail
            refine (S3.out.step (IH.out.expr _ _ _ _ _ S3.out.here HU.out HN2.out)).mono ?_;rintro e w4 ⟨rfl,h4⟩;have S4:=hD h4;clear h4;go_wp2_with (at_builtin;go_loud (refine aL (m:=1) (news:=[.int .i64 (oneOf u.1:Nat)]) rfl _ _ rfl gW rfl rfl (S4.out.own.alloc _) (Rd.fC (n:=1) (cs:=[.int .i64 (oneOf u.1:Nat)]) (Blk.new _ _ _) rfl (by decide)) (by simp[Value.oneCell']) (by have h9:=HB2.out;first|omega|(unfold maxLen;omega)) (by have h9:=HB2.out;first|omega|(unfold maxLen;omega)) ?_);intro A5 c5 w5 ho5 hf5 hv5;have S5:=hD (S4.out.app (gF ho5) hf5 hv5);clear ho5 hf5 hv5)
            refine (S5.out.step (S5.out.here.is ⟨#[44]⟩ (b:=false) HM.out)).mono ?_;rintro e w6 ⟨rfl,h6⟩;have S6:=hD h6;clear h6;go_wp2_with fail
            go_roundg k
            case measure=>omega
            case rel=>exact⟨l++[oneOf u.1],u.2,false,rfl,hD (by have:=HK.out;omega),S6,HR2,hD (fun h=>by cases h)⟩
theorem aEs (ih:∀m,m<n→Good src tb tc ts g m):Does src tb tc ts g n .block 93 #[.pointer (some ⟨g,0,none⟩)]:=by
 cases n with
 | zero=>exact Does.zero _ _ _
 | succ n=>
  intro R w0 w s r h hr hn;have IH:=hD (ih n (Nat.lt_succ_self n));have S0:=hD h;simp only[run] at hr;by_cases hm:pIs ts [123] s=true
  case neg=>
   rw[if_neg hm] at hr;simp only[Option.some.injEq] at hr;subst hr;have HM:=hD (show pIs ts [123] s=false by simpa using hm);clear h ih hn hm;go_enter Tryz.func93,Tryz.ntmps93;go_wp2_with fail
   refine (S0.out.line rfl).mono ?_;rintro e w1 ⟨rfl,h1⟩;have S1:=hD h1;clear h1;go_wp2_with fail
   refine (S1.out.is ⟨#[123]⟩ (b:=false) HM.out).mono ?_;rintro e w2 ⟨rfl,h2⟩;have S2:=hD h2;clear h2;go_wp2_with fail
   refine (S2.out.fails 20 (by decide) (by decide)).mono ?_;rintro e w3 ⟨rfl,h3⟩;have S3:=hD h3;clear h3;go_wp2_with fail
   go_ret;exact⟨rfl,S3.out⟩
  case pos=>
   rw[if_pos hm] at hr;simp only[mS] at hr;obtain⟨q,hq,rfl⟩:=hr;obtain⟨s2,hs2⟩:∃s2,aA ts [123] (aW ts s)=s2:=⟨_,rfl⟩;rw[hs2] at hq;have hd:=gD _ _ _ _ hq;rw[←hs2,aX,dF] at hd;have hdl:=h.ok.fine (aN hm).1;have HDB:=hD (show (1:Int)≤((aA ts [125] q.2).deep:Int)∧((aA ts [125] q.2).deep:Int)≤20 by rw[aX];omega);have HD:=hD (show 1≤(aA ts [125] q.2).deep by rw[aX];omega);have hn2:(aA ts [125] q.2).nodes.length+1≤1000000:=by simpa[bM,pUp] using hn
   have HN:=hD (show (aA ts [125] q.2).nodes.length≤1000000 by omega);have HN1:=hD (Nat.le_trans (aU ((Ext.refl q.2).must (ts:=ts) [125])) HN.out);have HI:=hD ih;have HS2:=hD hs2;obtain⟨line,hline⟩:∃line,aS src.data.toList ts s=line:=⟨_,rfl⟩;have HLN:=hD hline;have HM:=hD hm;have H0:=hD (aN hm).1;have HA:=hD hq;rw[hline];clear h ih hn hn2 hs2 hline hm hd hdl hq;go_enter Tryz.func93,Tryz.ntmps93;go_wp2_with fail
   refine (S0.out.line HLN.out).mono ?_;rintro e w1 ⟨rfl,h1⟩;have S1:=hD h1;clear h1;go_wp2_with fail
   refine (S1.out.is ⟨#[123]⟩ (b:=true) HM.out).mono ?_;rintro e w2 ⟨rfl,h2⟩;have S2:=hD h2;clear h2;go_wp2_with fail
   refine (S2.out.down H0.out).mono ?_;rintro e w3 ⟨rfl,h3⟩;have S3:=hD h3;clear h3;go_wp2_with fail
   refine (S3.out.must ⟨#[123]⟩).mono ?_;rintro e w4 ⟨rfl,h4⟩;have S4:=hD h4;clear h4;have S5:=hD (show St src tb tc ts g R w0 w4 s2 by have h4:=S4.out;rw[←HS2.out];exact h4);clear S0 S1 S2 S3 S4;go_wp2_with fail
   have S6:=hD (S5.out.row0 (.cells #[] 3) (some ⟨w4.heap.size,0,none⟩));go_loopg [5] n (fun k v wr=>∃(l:List Nat) (s':PS),Hid (k≤n)∧Hid (StR src tb tc ts g R w0 wr s' v l)∧Hid (run src.data.toList ts k (.stmts l) s'=some q)∧Hid (l.length≤s'.nodes.length))
   case atStart=>exact⟨[],s2,hD (Nat.le_refl n),S6,HA,hD (Nat.zero_le _)⟩
   case round=>
    obtain⟨l,s',HK,S3,HR,HB⟩:=hrel;clear S5 S6 HA;have hr:=HR.out;cases gk with
    | zero=>simp[run] at hr
    | succ k=>
     simp only[run] at hr;by_cases h0:s'.e=0
     case neg=>
      rw[if_pos h0] at hr;simp only[Option.some.injEq] at hr;subst hr;have he:((s'.e:Int)==0)=false:=bN.2 (by omega);clear h0 HR HB;obtain⟨hg3,c13,c23,c43,c53,f23,f43⟩:=S3.out.st.cells;go_wp2_with fail
      clear hg3 c13 c23 c43 c53 f23 f43 he;refine (S3.out.step (S3.out.here.must ⟨#[125]⟩)).mono ?_;rintro e w4 ⟨rfl,h4⟩;have S4:=hD h4;clear h4;obtain⟨hg4,c14,c24,c44,c54,f24,f44⟩:=S4.out.st.cells;have hi4:=S4.out.st.i_le;obtain⟨hl4,hu4⟩:=HDB.out;go_wp2_with fail
      have S5:=hD (S4.out.up HD.out);clear hg4 c14 c24 c44 c54 f24 f44 hi4 hl4 hu4;generalize w4.setCell ⟨g,4,none⟩ (.int .i64 (((aA ts [125] (s')).deep:Int) - 1))=w5 at *;refine (S5.out.put 18 _ 0 rfl rfl (name:=[]) rfl HN.out).mono ?_;rintro e w6 ⟨rfl,h6⟩;have S6:=hD h6;clear h6;go_wp2_with fail
      go_ret;exact⟨rfl,S6.out⟩
     case pos=>
      rw[if_neg (by omega)] at hr;have he:((s'.e:Int)==0)=true:=by rw[h0];rfl
      obtain⟨hg3,c13,c23,c43,c53,f23,f43⟩:=S3.out.st.cells;by_cases hm:pIs ts [125] s'=true
      · rw[if_pos hm] at hr
        simp only[Option.some.injEq] at hr;subst hr;have HM2:=hD hm;clear h0 HR HB hm;go_wp2_with fail
        clear hg3 c13 c23 c43 c53 f23 f43 he;refine (S3.out.step (S3.out.here.is ⟨#[125]⟩ (b:=true) HM2.out)).mono ?_;rintro e w4 ⟨rfl,h4⟩;have S4:=hD h4;clear h4;go_wp2_with fail
        refine (S4.out.step (S4.out.here.must ⟨#[125]⟩)).mono ?_;rintro e w5 ⟨rfl,h5⟩;have S5:=hD h5;clear h5;obtain⟨hg5,c15,c25,c45,c55,f25,f45⟩:=S5.out.st.cells;have hi5:=S5.out.st.i_le;obtain⟨hl5,hu5⟩:=HDB.out;go_wp2_with fail
        have S6:=hD (S5.out.up HD.out);clear hg5 c15 c25 c45 c55 f25 f45 hi5 hl5 hu5;generalize w5.setCell ⟨g,4,none⟩ (.int .i64 (((aA ts [125] (s')).deep:Int) - 1))=w6 at *;refine (S6.out.put 18 _ 0 rfl rfl (name:=[]) rfl HN.out).mono ?_;rintro e w7 ⟨rfl,h7⟩;have S7:=hD h7;clear h7;go_wp2_with fail
        go_ret;exact⟨rfl,S7.out⟩
      · rw[if_neg hm] at hr
        simp only[bS] at hr;obtain⟨u,hu,hr⟩:=hr;have IH:=hD (HI.out k (by have:=HK.out;omega));have hu1:=aK _ _ _ _ hu trivial;have hp:=vX hu;rw[hu1] at hr;have HN2:=hD (Nat.le_trans (aU (aI _ _ _ _ hr)) HN1.out);have HB2:=hD (show l.length≤1000000 by have:=HB.out;have:=HN2.out;omega);have HB3:=hD (show l.length+1≤u.2.nodes.length by have:=HB.out;omega);have HU:=hD hu;have HR2:=hD hr;have HM2:=hD (show pIs ts [125] s'=false by simpa using hm);clear h0 HR HB hm hu hu1 hp hr;go_wp2_with fail
        clear hg3 c13 c23 c43 c53 f23 f43 he;refine (S3.out.step (S3.out.here.is ⟨#[125]⟩ (b:=false) HM2.out)).mono ?_;rintro e w4 ⟨rfl,h4⟩;have S4:=hD h4;clear h4;go_wp2_with fail
        refine (S4.out.step (IH.out.stmt _ _ _ _ _ S4.out.here HU.out HN2.out)).mono ?_;rintro e w5 ⟨rfl,h5⟩;have S5:=hD h5;clear h5;go_wp2_with (at_builtin;go_loud (refine aL (m:=1) (news:=[.int .i64 (oneOf u.1:Nat)]) rfl _ _ rfl gW rfl rfl (S5.out.own.alloc _) (Rd.fC (n:=1) (cs:=[.int .i64 (oneOf u.1:Nat)]) (Blk.new _ _ _) rfl (by decide)) (by simp[Value.oneCell']) (by have h9:=HB2.out;first|omega|(unfold maxLen;omega)) (by have h9:=HB2.out;first|omega|(unfold maxLen;omega)) ?_);intro A6 c6 w6 ho6 hf6 hv6;have S6:=hD (S5.out.app (gF ho6) hf6 hv6);clear ho6 hf6 hv6)
        go_roundg k
        case measure=>omega
        case rel=>exact⟨l++[oneOf u.1],u.2,hD (by have:=HK.out;omega),S6,HR2,hD (by have h9:=HB3.out;rw[List.length_append];exact h9)⟩
end
section
variable {src:ByteArray}{tb tc:Nat}{ts:List Tok}{g:Nat}{n:Nat}
theorem Fr.bytes {w w':World} (e:TypeId) (h:w'=w∨∃t,w'=Lib.bytesWorld w e t):Fr nob w w':=by
 rcases h with rfl|⟨t,rfl⟩
 · exact Fr.refl _ _
 · have hb:=Lib.bytesWorld_below w e t
   exact⟨hb.os,hb.tape,hb.output,hb.size,fun k hk _=>hb.block k hk⟩
theorem vQ:∀(l:List UInt8) (a:Nat),cZ l→aP a l≤9223372036854775807→Lib.parseUint10 a l = .ok (aP a l)
 | [],a,_,_=>rfl
 | c :: r,a,hd,hv=>by
  have hc:=hd c List.mem_cons_self;rw[dS] at hv ⊢;have hge:=oK (a*10+(c.toNat - 48)) r;unfold Lib.parseUint10;rw[if_pos hc,if_neg (by omega),if_neg (by omega)];exact vQ r _ (fun x hx=>hd x (List.mem_cons_of_mem _ hx)) hv
theorem aJh {l:List UInt8} (h0:l≠[]) (hd:cZ l) (hv:aP 0 l≤9223372036854775807):Lib.atoiAll l = .ok (aP 0 l:Nat):=by
 cases l with
 | nil=>exact absurd rfl h0
 | cons c r=>
  have hc:=hd c List.mem_cons_self;have hm:Lib.parseMag (c :: r) = .ok (aP 0 (c :: r)):=by
   unfold Lib.parseMag;rw[if_neg (by simp)];exact vQ _ _ hd hv
  unfold Lib.atoiAll;have h45:¬c.toNat=45:=by omega
  have h43:¬c.toNat=43:=by omega
  simp only[h43,h45,or_self,if_false];rw[hm];dsimp only;rw[if_neg (by omega),if_neg (by simp)]
theorem aJg (ih:∀m,m<n→Good src tb tc ts g m):Does src tb tc ts g n .atom 224 #[.pointer (some ⟨g,0,none⟩)]:=by
 cases n with
 | zero=>exact Does.zero _ _ _
 | succ n=>
  intro R w0 w s r h hr hn;have IH:=hD (ih n (Nat.lt_succ_self n));have S0:=hD h;simp only[run] at hr;obtain⟨tk,htk⟩:∃tk,(bE ts s).kind=tk:=⟨_,rfl⟩;obtain⟨tt,htt⟩:∃tt,(bE ts s).text=tt:=⟨_,rfl⟩;obtain⟨tp,htp⟩:∃tp,(bE ts s).place=tp:=⟨_,rfl⟩;obtain⟨bt,hbt⟩:∃bt,bs tt=bt:=⟨_,rfl⟩;have HK:=hD htk;have HT:=hD htt;have HP:=hD htp;have HBT:=hD hbt;rw[htk,htt] at hr;have hmem:bE ts s∈ts:=by
    unfold bE;rw[List.getD,gE h.ok.room];exact List.getElem_mem _
  have HMEM:=hD hmem;clear htk htt htp hbt hmem;by_cases he0:s.e=0
  · rw[if_neg (by omega)] at hr
    have he:((s.e:Int)==0)=true:=by rw[he0];rfl
    have H0:=hD he0;by_cases k1:tk=1
    · rw[if_pos k1] at hr
      simp only[Option.some.injEq] at hr;subst hr;obtain⟨z0,z1,z2⟩:=h.toks.nums _ HMEM.out (by rw[HK.out,k1]);rw[HT.out] at z0 z1 z2;have HQ:=hD (aJh z0 z1 z2);have hsz:bt.size≤9223372036854775806:=by
        have h9:=h.toks.short _ HMEM.out;rw[HT.out] at h9;rw[←HBT.out]
        show tt.toArray.size≤_
        rw[List.size_toArray];omega
      have HSZ:=hD hsz;have HO:=hD (h.ok.fU h.toks HK.out (by omega));have hn2:s.nodes.length+1≤1000000:=by simpa[bM,pGo] using hn
      have HN:=hD (show s.nodes.length≤1000000 by omega);have e1:((tk:Int)==1)=true:=by rw[k1];rfl
      clear k1 he0 z0 z1 z2 hsz hn2;clear h ih hn;go_enter Tryz.func224,Tryz.ntmps224;go_wp2_with fail
      refine (S0.out.line rfl).mono ?_;rintro e w1 ⟨rfl,h1⟩;have S1:=hD h1;clear h1;obtain⟨hg1,c11,c21,c41,c51,f21,f41⟩:=S1.out.cells;obtain⟨hr1,x0,x1,x2⟩:=S1.out.tok;rw[HK.out] at x0;rw[HT.out,HBT.out] at x1;rw[HP.out] at x2;have n1:=World.new_ne w1 ⟨g,1,none⟩ c11;have n2:=World.new_ne w1 ⟨tb,s.i*3,none⟩ x0;go_wp2_with fail
      go_region_held3 (fun wx=>wx.cell? ⟨g,1,none⟩=some (.slice (some ⟨tb,0,none⟩) ts.length tc)∧wx.cell? ⟨g,2,none⟩=some (.int .i64 s.i)∧wx.cell? ⟨tb,s.i*3,none⟩=some (.int .i64 tk)∧wx.cell? ⟨tb,s.i*3+1,none⟩=some (.string bt)∧wx.cell? ⟨tb,s.i*3+2,none⟩=some (.int .i64 tp)) (go_keep) (first|fail)
      have Z2:=hD (S1.out.no (((fR w1).alloc (.cells #[.int .i64 tk,.string bt,.int .i64 tp] 115)).drew));have BT:=hD (show Blk (w1.alloc (.cells #[.int .i64 tk,.string bt,.int .i64 tp] 115)).drew w1.heap.size 115 #[.int .i64 tk,.string bt,.int .i64 tp] from Blk.new w1 _ _);clear hr1 x0 x1 x2 n1 n2 c11 c21 c41 c51 f21 f41 S1 S0;generalize (w1.alloc (.cells #[.int .i64 tk,.string bt,.int .i64 tp] 115)).drew=w2 at *;have hgB:g≠w1.heap.size:=Nat.ne_of_lt hg1;clear hg1;generalize w1.heap.size=B at *;have HGB:=hD hgB.symm;clear hgB;have S2:=hD Z2.out.here;obtain⟨hg2,c12,c22,c42,c52,f22,f42⟩:=S2.out.cells;have hi2:=S2.out.i_le;have BT2:=S2.out.fr.blk BT.out HGB.out (by decide);have d02:=BT2.cell 0;have d12:=BT2.cell 1;simp at d02 d12
      clear BT2;go_upto_region 7 with (fail);have S3:=hD (S2.out.go HO.out);clear hg2 c12 c22 c42 c52 f22 f42 hi2 he e1 d02 d12;generalize w2.setCell ⟨g,2,none⟩ (.int .i64 ((s.i:Int)+1))=w3 at *;have BT3:=S3.out.fr.blk BT.out HGB.out (by decide);have d03:=BT3.cell 0;have d13:=BT3.cell 1;simp at d03 d13
      clear BT3;go_wp2_with (go_at_call 232;go_must (refine (Tryz.strconv_Atoi_ok _ HSZ.out _ (by rw[←HBT.out];exact HQ.out) _).mono ?_;rintro e w4 ⟨rfl,hw⟩;have F4:=hD (Fr.bytes _ hw);have S4:=hD (S3.out.no F4.out);clear hw))
      refine (S4.out.uP 1 _ (aMs tt) rfl rfl (name:=[]) rfl HN.out).mono ?_;rintro e w5 ⟨rfl,h5⟩;have S5:=hD h5;clear h5;go_wp2_with fail
      go_ret;exact⟨rfl,Z2.out.back S5.out⟩
    · rw[if_neg k1] at hr
      have e1:((tk:Int)==1)=false:=bN.2 (by omega);by_cases k2:tk=2
      · rw[if_pos k2] at hr
        simp only[Option.some.injEq] at hr;subst hr;have HO:=hD (h.ok.fU h.toks HK.out (by omega));have hn2:s.nodes.length+1≤1000000:=by simpa[bM,pGo] using hn
        have HN:=hD (show s.nodes.length≤1000000 by omega);have e2:((tk:Int)==2)=true:=by rw[k2];rfl
        clear k1 k2 he0 hn2;clear h ih hn;go_enter Tryz.func224,Tryz.ntmps224;go_wp2_with fail
        refine (S0.out.line rfl).mono ?_;rintro e w1 ⟨rfl,h1⟩;have S1:=hD h1;clear h1;obtain⟨hg1,c11,c21,c41,c51,f21,f41⟩:=S1.out.cells;obtain⟨hr1,x0,x1,x2⟩:=S1.out.tok;rw[HK.out] at x0;rw[HT.out,HBT.out] at x1;rw[HP.out] at x2;have n1:=World.new_ne w1 ⟨g,1,none⟩ c11;have n2:=World.new_ne w1 ⟨tb,s.i*3,none⟩ x0;go_wp2_with fail
        go_region_held3 (fun wx=>wx.cell? ⟨g,1,none⟩=some (.slice (some ⟨tb,0,none⟩) ts.length tc)∧wx.cell? ⟨g,2,none⟩=some (.int .i64 s.i)∧wx.cell? ⟨tb,s.i*3,none⟩=some (.int .i64 tk)∧wx.cell? ⟨tb,s.i*3+1,none⟩=some (.string bt)∧wx.cell? ⟨tb,s.i*3+2,none⟩=some (.int .i64 tp)) (go_keep) (first|fail)
        have Z2:=hD (S1.out.no (((fR w1).alloc (.cells #[.int .i64 tk,.string bt,.int .i64 tp] 115)).drew));have BT:=hD (show Blk (w1.alloc (.cells #[.int .i64 tk,.string bt,.int .i64 tp] 115)).drew w1.heap.size 115 #[.int .i64 tk,.string bt,.int .i64 tp] from Blk.new w1 _ _);clear hr1 x0 x1 x2 n1 n2 c11 c21 c41 c51 f21 f41 S1 S0;generalize (w1.alloc (.cells #[.int .i64 tk,.string bt,.int .i64 tp] 115)).drew=w2 at *;have hgB:g≠w1.heap.size:=Nat.ne_of_lt hg1;clear hg1;generalize w1.heap.size=B at *;have HGB:=hD hgB.symm;clear hgB;have S2:=hD Z2.out.here;obtain⟨hg2,c12,c22,c42,c52,f22,f42⟩:=S2.out.cells;have hi2:=S2.out.i_le;have BT2:=S2.out.fr.blk BT.out HGB.out (by decide);have d02:=BT2.cell 0;have d12:=BT2.cell 1;simp at d02 d12
        clear BT2;go_upto_region 11 with (fail);have S3:=hD (S2.out.go HO.out);clear hg2 c12 c22 c42 c52 f22 f42 hi2 he e1 e2 d02 d12;generalize w2.setCell ⟨g,2,none⟩ (.int .i64 ((s.i:Int)+1))=w3 at *;have BT3:=S3.out.fr.blk BT.out HGB.out (by decide);have d03:=BT3.cell 0;have d13:=BT3.cell 1;simp at d03 d13
        clear BT3;go_wp2_with fail
        refine (S3.out.uP 3 _ 0 rfl rfl (name:=tt) HBT.out HN.out).mono ?_;rintro e w4 ⟨rfl,h4⟩;have S4:=hD h4;clear h4;clear d03 d13;go_wp2_with fail
        go_ret;exact⟨rfl,Z2.out.back S4.out⟩
      · rw[if_neg k2] at hr
        have e2:((tk:Int)==2)=false:=bN.2 (by omega);by_cases k3:tk=3
        · rw[if_pos k3] at hr
          have HO:=hD (h.ok.fU h.toks HK.out (by omega));have e3:((tk:Int)==3)=true:=by rw[k3];rfl
          clear k1 k2 k3 he0;by_cases hm:pIs ts [91] (pGo s)=true
          · rw[if_pos hm] at hr
            simp only[mS] at hr;obtain⟨q,hq,rfl⟩:=hr;have hq1:=aK _ _ _ _ hq trivial;have hd:=gD _ _ _ _ hq;rw[aX,dF,jQ] at hd;have hdl:=h.ok.fine H0.out;have HDB:=hD (show (1:Int)≤((aA ts [93] q.2).deep:Int)∧((aA ts [93] q.2).deep:Int)≤20 by rw[aX];omega);have HD:=hD (show 1≤(aA ts [93] q.2).deep by rw[aX];omega);have hn2:(aA ts [93] q.2).nodes.length+1≤1000000:=by simpa[bM,pUp] using hn
            have HN:=hD (show (aA ts [93] q.2).nodes.length≤1000000 by omega);have HN1:=hD (Nat.le_trans (aU ((Ext.refl q.2).must (ts:=ts) [93])) HN.out);have HM:=hD hm;have HQ:=hD hq;rw[hq1];clear hq hq1 hd hdl hn2 hm;clear h ih hn;go_enter Tryz.func224,Tryz.ntmps224;go_wp2_with fail
            refine (S0.out.line rfl).mono ?_;rintro e w1 ⟨rfl,h1⟩;have S1:=hD h1;clear h1;obtain⟨hg1,c11,c21,c41,c51,f21,f41⟩:=S1.out.cells;obtain⟨hr1,x0,x1,x2⟩:=S1.out.tok;rw[HK.out] at x0;rw[HT.out,HBT.out] at x1;rw[HP.out] at x2;have n1:=World.new_ne w1 ⟨g,1,none⟩ c11;have n2:=World.new_ne w1 ⟨tb,s.i*3,none⟩ x0;go_wp2_with fail
            go_region_held3 (fun wx=>wx.cell? ⟨g,1,none⟩=some (.slice (some ⟨tb,0,none⟩) ts.length tc)∧wx.cell? ⟨g,2,none⟩=some (.int .i64 s.i)∧wx.cell? ⟨tb,s.i*3,none⟩=some (.int .i64 tk)∧wx.cell? ⟨tb,s.i*3+1,none⟩=some (.string bt)∧wx.cell? ⟨tb,s.i*3+2,none⟩=some (.int .i64 tp)) (go_keep) (first|fail)
            have Z2:=hD (S1.out.no (((fR w1).alloc (.cells #[.int .i64 tk,.string bt,.int .i64 tp] 115)).drew));have BT:=hD (show Blk (w1.alloc (.cells #[.int .i64 tk,.string bt,.int .i64 tp] 115)).drew w1.heap.size 115 #[.int .i64 tk,.string bt,.int .i64 tp] from Blk.new w1 _ _);clear hr1 x0 x1 x2 n1 n2 c11 c21 c41 c51 f21 f41 S1 S0;generalize (w1.alloc (.cells #[.int .i64 tk,.string bt,.int .i64 tp] 115)).drew=w2 at *;have hgB:g≠w1.heap.size:=Nat.ne_of_lt hg1;clear hg1;generalize w1.heap.size=B at *;have HGB:=hD hgB.symm;clear hgB;have S2:=hD Z2.out.here;obtain⟨hg2,c12,c22,c42,c52,f22,f42⟩:=S2.out.cells;have hi2:=S2.out.i_le;have BT2:=S2.out.fr.blk BT.out HGB.out (by decide);have d02:=BT2.cell 0;have d12:=BT2.cell 1;simp at d02 d12
            clear BT2;go_wp2_with fail
            have S3:=hD (S2.out.go HO.out);clear hg2 c12 c22 c42 c52 f22 f42 hi2 he e1 e2 e3 d02 d12;generalize w2.setCell ⟨g,2,none⟩ (.int .i64 ((s.i:Int)+1))=w3 at *;refine (S3.out.is ⟨#[91]⟩ (b:=true) HM.out).mono ?_;rintro e w4 ⟨rfl,h4⟩;have S4:=hD h4;clear h4;go_wp2_with fail
            refine (S4.out.down H0.out).mono ?_;rintro e w5 ⟨rfl,h5⟩;have S5:=hD h5;clear h5;go_wp2_with fail
            refine (S5.out.must ⟨#[91]⟩).mono ?_;rintro e w6 ⟨rfl,h6⟩;have S6:=hD h6;clear h6;go_wp2_with fail
            refine (IH.out.expr _ _ _ _ _ S6.out HQ.out HN1.out).mono ?_;rintro e w7 ⟨rfl,h7⟩;have S7:=hD h7;clear h7;go_wp2_with fail
            refine (S7.out.must ⟨#[93]⟩).mono ?_;rintro e w8 ⟨rfl,h8⟩;have S8:=hD h8;clear h8;obtain⟨hg8,c18,c28,c48,c58,f28,f48⟩:=S8.out.cells;have hi8:=S8.out.i_le;obtain⟨hl8,hu8⟩:=HDB.out;go_upto_region 22 with (fail);have S9:=hD (S8.out.up HD.out);clear hg8 c18 c28 c48 c58 f28 f48 hi8 hl8 hu8;generalize w8.setCell ⟨g,4,none⟩ (.int .i64 (((aA ts [93] (q.2)).deep:Int) - 1))=w9 at *;have BT9:=S9.out.fr.blk BT.out HGB.out (by decide);have d09:=BT9.cell 0;have d19:=BT9.cell 1;simp at d09 d19
            clear BT9;go_wp2_with fail
            refine (S9.out.vM (oneOf q.1) rfl 5 _ 0 rfl rfl (name:=tt) HBT.out HN.out).mono ?_;rintro e w10 ⟨rfl,h10⟩;have S10:=hD h10;clear h10;clear d09 d19;go_wp2_with fail
            go_ret;exact⟨rfl,Z2.out.back S10.out⟩
          · rw[if_neg hm] at hr
            simp only[Option.some.injEq] at hr;subst hr;have hn2:s.nodes.length+1≤1000000:=by simpa[bM,pGo] using hn
            have HN:=hD (show s.nodes.length≤1000000 by omega);have HM:=hD (show pIs ts [91] (pGo s)=false by simpa using hm);clear hn2 hm;clear h ih hn;go_enter Tryz.func224,Tryz.ntmps224;go_wp2_with fail
            refine (S0.out.line rfl).mono ?_;rintro e w1 ⟨rfl,h1⟩;have S1:=hD h1;clear h1;obtain⟨hg1,c11,c21,c41,c51,f21,f41⟩:=S1.out.cells;obtain⟨hr1,x0,x1,x2⟩:=S1.out.tok;rw[HK.out] at x0;rw[HT.out,HBT.out] at x1;rw[HP.out] at x2;have n1:=World.new_ne w1 ⟨g,1,none⟩ c11;have n2:=World.new_ne w1 ⟨tb,s.i*3,none⟩ x0;go_wp2_with fail
            go_region_held3 (fun wx=>wx.cell? ⟨g,1,none⟩=some (.slice (some ⟨tb,0,none⟩) ts.length tc)∧wx.cell? ⟨g,2,none⟩=some (.int .i64 s.i)∧wx.cell? ⟨tb,s.i*3,none⟩=some (.int .i64 tk)∧wx.cell? ⟨tb,s.i*3+1,none⟩=some (.string bt)∧wx.cell? ⟨tb,s.i*3+2,none⟩=some (.int .i64 tp)) (go_keep) (first|fail)
            have Z2:=hD (S1.out.no (((fR w1).alloc (.cells #[.int .i64 tk,.string bt,.int .i64 tp] 115)).drew));have BT:=hD (show Blk (w1.alloc (.cells #[.int .i64 tk,.string bt,.int .i64 tp] 115)).drew w1.heap.size 115 #[.int .i64 tk,.string bt,.int .i64 tp] from Blk.new w1 _ _);clear hr1 x0 x1 x2 n1 n2 c11 c21 c41 c51 f21 f41 S1 S0;generalize (w1.alloc (.cells #[.int .i64 tk,.string bt,.int .i64 tp] 115)).drew=w2 at *;have hgB:g≠w1.heap.size:=Nat.ne_of_lt hg1;clear hg1;generalize w1.heap.size=B at *;have HGB:=hD hgB.symm;clear hgB;have S2:=hD Z2.out.here;obtain⟨hg2,c12,c22,c42,c52,f22,f42⟩:=S2.out.cells;have hi2:=S2.out.i_le;have BT2:=S2.out.fr.blk BT.out HGB.out (by decide);have d02:=BT2.cell 0;have d12:=BT2.cell 1;simp at d02 d12
            clear BT2;go_wp2_with fail
            have S3:=hD (S2.out.go HO.out);clear hg2 c12 c22 c42 c52 f22 f42 hi2 he e1 e2 e3 d02 d12;generalize w2.setCell ⟨g,2,none⟩ (.int .i64 ((s.i:Int)+1))=w3 at *;refine (S3.out.is ⟨#[91]⟩ (b:=false) HM.out).mono ?_;rintro e w4 ⟨rfl,h4⟩;have S4:=hD h4;clear h4;have BT4:=S4.out.fr.blk BT.out HGB.out (by decide);have d04:=BT4.cell 0;have d14:=BT4.cell 1;simp at d04 d14
            clear BT4;go_wp2_with fail
            refine (S4.out.uP 4 _ 0 rfl rfl (name:=tt) HBT.out HN.out).mono ?_;rintro e w5 ⟨rfl,h5⟩;have S5:=hD h5;clear h5;clear d04 d14;go_wp2_with fail
            go_ret;exact⟨rfl,Z2.out.back S5.out⟩
        · rw[if_neg k3] at hr
          have e3:((tk:Int)==3)=false:=bN.2 (by omega);clear k1 k2 k3 he0;by_cases ht:pIs ts [116,114,117,101] s=true
          · rw[if_pos ht] at hr
            simp only[Option.some.injEq] at hr;subst hr;have HO:=hD (h.ok.iZ h.toks ht);have hn2:s.nodes.length+1≤1000000:=by simpa[bM,pGo] using hn
            have HN:=hD (show s.nodes.length≤1000000 by omega);have HM:=hD ht;obtain⟨b,hb⟩:∃b,pIs ts [102,97,108,115,101] s=b:=⟨_,rfl⟩;have HB:=hD hb;clear ht hn2 hb;clear h ih hn;go_enter Tryz.func224,Tryz.ntmps224;go_wp2_with fail
            refine (S0.out.line rfl).mono ?_;rintro e w1 ⟨rfl,h1⟩;have S1:=hD h1;clear h1;obtain⟨hg1,c11,c21,c41,c51,f21,f41⟩:=S1.out.cells;obtain⟨hr1,x0,x1,x2⟩:=S1.out.tok;rw[HK.out] at x0;rw[HT.out,HBT.out] at x1;rw[HP.out] at x2;have n1:=World.new_ne w1 ⟨g,1,none⟩ c11;have n2:=World.new_ne w1 ⟨tb,s.i*3,none⟩ x0;go_wp2_with fail
            go_region_held3 (fun wx=>wx.cell? ⟨g,1,none⟩=some (.slice (some ⟨tb,0,none⟩) ts.length tc)∧wx.cell? ⟨g,2,none⟩=some (.int .i64 s.i)∧wx.cell? ⟨tb,s.i*3,none⟩=some (.int .i64 tk)∧wx.cell? ⟨tb,s.i*3+1,none⟩=some (.string bt)∧wx.cell? ⟨tb,s.i*3+2,none⟩=some (.int .i64 tp)) (go_keep) (first|fail)
            have Z2:=hD (S1.out.no (((fR w1).alloc (.cells #[.int .i64 tk,.string bt,.int .i64 tp] 115)).drew));have BT:=hD (show Blk (w1.alloc (.cells #[.int .i64 tk,.string bt,.int .i64 tp] 115)).drew w1.heap.size 115 #[.int .i64 tk,.string bt,.int .i64 tp] from Blk.new w1 _ _);clear hr1 x0 x1 x2 n1 n2 c11 c21 c41 c51 f21 f41 S1 S0;generalize (w1.alloc (.cells #[.int .i64 tk,.string bt,.int .i64 tp] 115)).drew=w2 at *;have hgB:g≠w1.heap.size:=Nat.ne_of_lt hg1;clear hg1;generalize w1.heap.size=B at *;have HGB:=hD hgB.symm;clear hgB;have S2:=hD Z2.out.here;obtain⟨hg2,c12,c22,c42,c52,f22,f42⟩:=S2.out.cells;have hi2:=S2.out.i_le;have BT2:=S2.out.fr.blk BT.out HGB.out (by decide);have d02:=BT2.cell 0;have d12:=BT2.cell 1;simp at d02 d12
            clear BT2;go_wp2_with fail
            clear hg2 c12 c22 c42 c52 f22 f42 hi2 he e1 e2 e3 d02 d12;refine (S2.out.is ⟨#[116,114,117,101]⟩ (b:=true) HM.out).mono ?_;rintro e w3 ⟨rfl,h3⟩;have S3:=hD h3;clear h3;go_wp2_with fail
            refine (S3.out.is ⟨#[102,97,108,115,101]⟩ (b:=b) HB.out).mono ?_;rintro e w4 ⟨rfl,h4⟩;have S4:=hD h4;clear h4;obtain⟨hg4,c14,c24,c44,c54,f24,f44⟩:=S4.out.cells;have hi4:=S4.out.i_le;go_wp2_with fail
            have HZ5:=hD (show (w4.setCell ⟨g,2,none⟩ (.int .i64 (((s).i:Int)+1))).heap.size=w4.heap.size by simp);have S5:=hD (S4.out.go HO.out);clear hg4 c14 c24 c44 c54 f24 f44 hi4;generalize w4.setCell ⟨g,2,none⟩ (.int .i64 (((s).i:Int)+1))=w5 at *;refine (S5.out.uP 2 _ 1 rfl rfl (name:=[]) rfl HN.out).mono ?_;rintro e w6 ⟨rfl,h6⟩;have S6:=hD h6;clear h6;go_wp2_with fail
            go_ret;exact⟨rfl,Z2.out.back S6.out⟩
          · rw[if_neg ht] at hr
            have HT1:=hD (show pIs ts [116,114,117,101] s=false by simpa using ht);clear ht;by_cases ht:pIs ts [102,97,108,115,101] s=true
            · rw[if_pos ht] at hr
              simp only[Option.some.injEq] at hr;subst hr;have HO:=hD (h.ok.iZ h.toks ht);have hn2:s.nodes.length+1≤1000000:=by simpa[bM,pGo] using hn
              have HN:=hD (show s.nodes.length≤1000000 by omega);have HM:=hD ht;clear ht hn2;clear h ih hn;go_enter Tryz.func224,Tryz.ntmps224;go_wp2_with fail
              refine (S0.out.line rfl).mono ?_;rintro e w1 ⟨rfl,h1⟩;have S1:=hD h1;clear h1;obtain⟨hg1,c11,c21,c41,c51,f21,f41⟩:=S1.out.cells;obtain⟨hr1,x0,x1,x2⟩:=S1.out.tok;rw[HK.out] at x0;rw[HT.out,HBT.out] at x1;rw[HP.out] at x2;have n1:=World.new_ne w1 ⟨g,1,none⟩ c11;have n2:=World.new_ne w1 ⟨tb,s.i*3,none⟩ x0;go_wp2_with fail
              go_region_held3 (fun wx=>wx.cell? ⟨g,1,none⟩=some (.slice (some ⟨tb,0,none⟩) ts.length tc)∧wx.cell? ⟨g,2,none⟩=some (.int .i64 s.i)∧wx.cell? ⟨tb,s.i*3,none⟩=some (.int .i64 tk)∧wx.cell? ⟨tb,s.i*3+1,none⟩=some (.string bt)∧wx.cell? ⟨tb,s.i*3+2,none⟩=some (.int .i64 tp)) (go_keep) (first|fail)
              have Z2:=hD (S1.out.no (((fR w1).alloc (.cells #[.int .i64 tk,.string bt,.int .i64 tp] 115)).drew));have BT:=hD (show Blk (w1.alloc (.cells #[.int .i64 tk,.string bt,.int .i64 tp] 115)).drew w1.heap.size 115 #[.int .i64 tk,.string bt,.int .i64 tp] from Blk.new w1 _ _);clear hr1 x0 x1 x2 n1 n2 c11 c21 c41 c51 f21 f41 S1 S0;generalize (w1.alloc (.cells #[.int .i64 tk,.string bt,.int .i64 tp] 115)).drew=w2 at *;have hgB:g≠w1.heap.size:=Nat.ne_of_lt hg1;clear hg1;generalize w1.heap.size=B at *;have HGB:=hD hgB.symm;clear hgB;have S2:=hD Z2.out.here;obtain⟨hg2,c12,c22,c42,c52,f22,f42⟩:=S2.out.cells;have hi2:=S2.out.i_le;have BT2:=S2.out.fr.blk BT.out HGB.out (by decide);have d02:=BT2.cell 0;have d12:=BT2.cell 1;simp at d02 d12
              clear BT2;go_wp2_with fail
              clear hg2 c12 c22 c42 c52 f22 f42 hi2 he e1 e2 e3 d02 d12;refine (S2.out.is ⟨#[116,114,117,101]⟩ (b:=false) HT1.out).mono ?_;rintro e w3 ⟨rfl,h3⟩;have S3:=hD h3;clear h3;go_wp2_with fail
              refine (S3.out.is ⟨#[102,97,108,115,101]⟩ (b:=true) HM.out).mono ?_;rintro e w4 ⟨rfl,h4⟩;have S4:=hD h4;clear h4;obtain⟨hg4,c14,c24,c44,c54,f24,f44⟩:=S4.out.cells;have hi4:=S4.out.i_le;go_wp2_with fail
              have HZ5:=hD (show (w4.setCell ⟨g,2,none⟩ (.int .i64 (((s).i:Int)+1))).heap.size=w4.heap.size by simp);have S5:=hD (S4.out.go HO.out);clear hg4 c14 c24 c44 c54 f24 f44 hi4;generalize w4.setCell ⟨g,2,none⟩ (.int .i64 (((s).i:Int)+1))=w5 at *;refine (S5.out.uP 2 _ 0 rfl rfl (name:=[]) rfl HN.out).mono ?_;rintro e w6 ⟨rfl,h6⟩;have S6:=hD h6;clear h6;go_wp2_with fail
              go_ret;exact⟨rfl,Z2.out.back S6.out⟩
            · rw[if_neg ht] at hr
              have HF1:=hD (show pIs ts [102,97,108,115,101] s=false by simpa using ht);clear ht;by_cases ht:pIs ts [108,101,110] s=true
              · rw[if_pos ht] at hr
                have HL:=hD ht;have HO:=hD (h.ok.iZ h.toks ht);clear ht;by_cases hm:pIs ts [40] (pGo s)=true
                · rw[if_pos hm] at hr
                  simp only[mS] at hr;obtain⟨q,hq,rfl⟩:=hr;have hq1:=aK _ _ _ _ hq trivial;have hd:=gD _ _ _ _ hq;rw[aX,dF,jQ] at hd;have hdl:=h.ok.fine H0.out;have HDB:=hD (show (1:Int)≤((aA ts [41] q.2).deep:Int)∧((aA ts [41] q.2).deep:Int)≤20 by rw[aX];omega);have HD:=hD (show 1≤(aA ts [41] q.2).deep by rw[aX];omega);have hn2:(aA ts [41] q.2).nodes.length+1≤1000000:=by simpa[bM,pUp] using hn
                  have HN:=hD (show (aA ts [41] q.2).nodes.length≤1000000 by omega);have HN1:=hD (Nat.le_trans (aU ((Ext.refl q.2).must (ts:=ts) [41])) HN.out);have HM:=hD hm;have HQ:=hD hq;rw[hq1];clear hq hq1 hd hdl hn2 hm;clear h ih hn;go_enter Tryz.func224,Tryz.ntmps224;go_wp2_with fail
                  refine (S0.out.line rfl).mono ?_;rintro e w1 ⟨rfl,h1⟩;have S1:=hD h1;clear h1;obtain⟨hg1,c11,c21,c41,c51,f21,f41⟩:=S1.out.cells;obtain⟨hr1,x0,x1,x2⟩:=S1.out.tok;rw[HK.out] at x0;rw[HT.out,HBT.out] at x1;rw[HP.out] at x2;have n1:=World.new_ne w1 ⟨g,1,none⟩ c11;have n2:=World.new_ne w1 ⟨tb,s.i*3,none⟩ x0;go_wp2_with fail
                  go_region_held3 (fun wx=>wx.cell? ⟨g,1,none⟩=some (.slice (some ⟨tb,0,none⟩) ts.length tc)∧wx.cell? ⟨g,2,none⟩=some (.int .i64 s.i)∧wx.cell? ⟨tb,s.i*3,none⟩=some (.int .i64 tk)∧wx.cell? ⟨tb,s.i*3+1,none⟩=some (.string bt)∧wx.cell? ⟨tb,s.i*3+2,none⟩=some (.int .i64 tp)) (go_keep) (first|fail)
                  have Z2:=hD (S1.out.no (((fR w1).alloc (.cells #[.int .i64 tk,.string bt,.int .i64 tp] 115)).drew));have BT:=hD (show Blk (w1.alloc (.cells #[.int .i64 tk,.string bt,.int .i64 tp] 115)).drew w1.heap.size 115 #[.int .i64 tk,.string bt,.int .i64 tp] from Blk.new w1 _ _);clear hr1 x0 x1 x2 n1 n2 c11 c21 c41 c51 f21 f41 S1 S0;generalize (w1.alloc (.cells #[.int .i64 tk,.string bt,.int .i64 tp] 115)).drew=w2 at *;have hgB:g≠w1.heap.size:=Nat.ne_of_lt hg1;clear hg1;generalize w1.heap.size=B at *;have HGB:=hD hgB.symm;clear hgB;have S2:=hD Z2.out.here;obtain⟨hg2,c12,c22,c42,c52,f22,f42⟩:=S2.out.cells;have hi2:=S2.out.i_le;have BT2:=S2.out.fr.blk BT.out HGB.out (by decide);have d02:=BT2.cell 0;have d12:=BT2.cell 1;simp at d02 d12
                  clear BT2;go_wp2_with fail
                  clear hg2 c12 c22 c42 c52 f22 f42 hi2 he e1 e2 e3 d02 d12;refine (S2.out.is ⟨#[116,114,117,101]⟩ (b:=false) HT1.out).mono ?_;rintro e w3 ⟨rfl,h3⟩;have S3:=hD h3;clear h3;go_wp2_with fail
                  refine (S3.out.is ⟨#[102,97,108,115,101]⟩ (b:=false) HF1.out).mono ?_;rintro e w4 ⟨rfl,h4⟩;have S4:=hD h4;clear h4;go_wp2_with fail
                  refine (S4.out.is ⟨#[108,101,110]⟩ (b:=true) HL.out).mono ?_;rintro e w5 ⟨rfl,h5⟩;have S5:=hD h5;clear h5;obtain⟨hg5,c15,c25,c45,c55,f25,f45⟩:=S5.out.cells;have hi5:=S5.out.i_le;go_wp2_with fail
                  have HZ6:=hD (show (w5.setCell ⟨g,2,none⟩ (.int .i64 (((s).i:Int)+1))).heap.size=w5.heap.size by simp);have S6:=hD (S5.out.go HO.out);clear hg5 c15 c25 c45 c55 f25 f45 hi5;generalize w5.setCell ⟨g,2,none⟩ (.int .i64 (((s).i:Int)+1))=w6 at *;refine (S6.out.is ⟨#[40]⟩ (b:=true) HM.out).mono ?_;rintro e w7 ⟨rfl,h7⟩;have S7:=hD h7;clear h7;go_wp2_with fail
                  refine (S7.out.down H0.out).mono ?_;rintro e w8 ⟨rfl,h8⟩;have S8:=hD h8;clear h8;go_wp2_with fail
                  refine (S8.out.must ⟨#[40]⟩).mono ?_;rintro e w9 ⟨rfl,h9⟩;have S9:=hD h9;clear h9;go_wp2_with fail
                  refine (IH.out.expr _ _ _ _ _ S9.out HQ.out HN1.out).mono ?_;rintro e w10 ⟨rfl,h10⟩;have S10:=hD h10;clear h10;go_wp2_with fail
                  refine (S10.out.must ⟨#[41]⟩).mono ?_;rintro e w11 ⟨rfl,h11⟩;have S11:=hD h11;clear h11;obtain⟨hg11,c111,c211,c411,c511,f211,f411⟩:=S11.out.cells;have hi11:=S11.out.i_le;obtain⟨hl11,hu11⟩:=HDB.out;go_wp2_with fail
                  have HZ12:=hD (show (w11.setCell ⟨g,4,none⟩ (.int .i64 (((aA ts [41] (q.2)).deep:Int) - 1))).heap.size=w11.heap.size by simp);have S12:=hD (S11.out.up HD.out);clear hg11 c111 c211 c411 c511 f211 f411 hi11 hl11 hu11;generalize w11.setCell ⟨g,4,none⟩ (.int .i64 (((aA ts [41] (q.2)).deep:Int) - 1))=w12 at *;refine (S12.out.vM (oneOf q.1) HZ12.out 6 _ 0 rfl rfl (name:=[]) rfl HN.out).mono ?_;rintro e w13 ⟨rfl,h13⟩;have S13:=hD h13;clear h13;go_wp2_with fail
                  go_ret;exact⟨rfl,Z2.out.back S13.out⟩
                · rw[if_neg hm] at hr
                  simp only[Option.some.injEq] at hr;subst hr;have HM:=hD (show pIs ts [40] (pGo s)=false by simpa using hm);clear hm;clear h ih hn;go_enter Tryz.func224,Tryz.ntmps224;go_wp2_with fail
                  refine (S0.out.line rfl).mono ?_;rintro e w1 ⟨rfl,h1⟩;have S1:=hD h1;clear h1;obtain⟨hg1,c11,c21,c41,c51,f21,f41⟩:=S1.out.cells;obtain⟨hr1,x0,x1,x2⟩:=S1.out.tok;rw[HK.out] at x0;rw[HT.out,HBT.out] at x1;rw[HP.out] at x2;have n1:=World.new_ne w1 ⟨g,1,none⟩ c11;have n2:=World.new_ne w1 ⟨tb,s.i*3,none⟩ x0;go_wp2_with fail
                  go_region_held3 (fun wx=>wx.cell? ⟨g,1,none⟩=some (.slice (some ⟨tb,0,none⟩) ts.length tc)∧wx.cell? ⟨g,2,none⟩=some (.int .i64 s.i)∧wx.cell? ⟨tb,s.i*3,none⟩=some (.int .i64 tk)∧wx.cell? ⟨tb,s.i*3+1,none⟩=some (.string bt)∧wx.cell? ⟨tb,s.i*3+2,none⟩=some (.int .i64 tp)) (go_keep) (first|fail)
                  have Z2:=hD (S1.out.no (((fR w1).alloc (.cells #[.int .i64 tk,.string bt,.int .i64 tp] 115)).drew));have BT:=hD (show Blk (w1.alloc (.cells #[.int .i64 tk,.string bt,.int .i64 tp] 115)).drew w1.heap.size 115 #[.int .i64 tk,.string bt,.int .i64 tp] from Blk.new w1 _ _);clear hr1 x0 x1 x2 n1 n2 c11 c21 c41 c51 f21 f41 S1 S0;generalize (w1.alloc (.cells #[.int .i64 tk,.string bt,.int .i64 tp] 115)).drew=w2 at *;have hgB:g≠w1.heap.size:=Nat.ne_of_lt hg1;clear hg1;generalize w1.heap.size=B at *;have HGB:=hD hgB.symm;clear hgB;have S2:=hD Z2.out.here;obtain⟨hg2,c12,c22,c42,c52,f22,f42⟩:=S2.out.cells;have hi2:=S2.out.i_le;have BT2:=S2.out.fr.blk BT.out HGB.out (by decide);have d02:=BT2.cell 0;have d12:=BT2.cell 1;simp at d02 d12
                  clear BT2;go_wp2_with fail
                  clear hg2 c12 c22 c42 c52 f22 f42 hi2 he e1 e2 e3 d02 d12;refine (S2.out.is ⟨#[116,114,117,101]⟩ (b:=false) HT1.out).mono ?_;rintro e w3 ⟨rfl,h3⟩;have S3:=hD h3;clear h3;go_wp2_with fail
                  refine (S3.out.is ⟨#[102,97,108,115,101]⟩ (b:=false) HF1.out).mono ?_;rintro e w4 ⟨rfl,h4⟩;have S4:=hD h4;clear h4;go_wp2_with fail
                  refine (S4.out.is ⟨#[108,101,110]⟩ (b:=true) HL.out).mono ?_;rintro e w5 ⟨rfl,h5⟩;have S5:=hD h5;clear h5;obtain⟨hg5,c15,c25,c45,c55,f25,f45⟩:=S5.out.cells;have hi5:=S5.out.i_le;go_wp2_with fail
                  have HZ6:=hD (show (w5.setCell ⟨g,2,none⟩ (.int .i64 (((s).i:Int)+1))).heap.size=w5.heap.size by simp);have S6:=hD (S5.out.go HO.out);clear hg5 c15 c25 c45 c55 f25 f45 hi5;generalize w5.setCell ⟨g,2,none⟩ (.int .i64 (((s).i:Int)+1))=w6 at *;refine (S6.out.is ⟨#[40]⟩ (b:=false) HM.out).mono ?_;rintro e w7 ⟨rfl,h7⟩;have S7:=hD h7;clear h7;go_wp2_with fail
                  refine (S7.out.fails 20 (by decide) (by decide)).mono ?_;rintro e w8 ⟨rfl,h8⟩;have S8:=hD h8;clear h8;go_wp2_with fail
                  go_ret;exact⟨rfl,Z2.out.back S8.out⟩
              · rw[if_neg ht] at hr
                have HL:=hD (show pIs ts [108,101,110] s=false by simpa using ht);clear ht;by_cases hm:pIs ts [40] s=true
                · rw[if_pos hm] at hr
                  simp only[mS] at hr;obtain⟨q,hq,rfl⟩:=hr;have hd:=gD _ _ _ _ hq;rw[aX,dF] at hd;have hdl:=h.ok.fine H0.out;have HDB:=hD (show (1:Int)≤((aA ts [41] q.2).deep:Int)∧((aA ts [41] q.2).deep:Int)≤20 by rw[aX];omega);have HD:=hD (show 1≤(aA ts [41] q.2).deep by rw[aX];omega);have HN:=hD (show (aA ts [41] q.2).nodes.length≤1000000 by simpa[pUp] using hn);have HN1:=hD (Nat.le_trans (aU ((Ext.refl q.2).must (ts:=ts) [41])) HN.out);have HM:=hD hm;have HQ:=hD hq;clear hq hd hdl hm;clear h ih hn;go_enter Tryz.func224,Tryz.ntmps224;go_wp2_with fail
                  refine (S0.out.line rfl).mono ?_;rintro e w1 ⟨rfl,h1⟩;have S1:=hD h1;clear h1;obtain⟨hg1,c11,c21,c41,c51,f21,f41⟩:=S1.out.cells;obtain⟨hr1,x0,x1,x2⟩:=S1.out.tok;rw[HK.out] at x0;rw[HT.out,HBT.out] at x1;rw[HP.out] at x2;have n1:=World.new_ne w1 ⟨g,1,none⟩ c11;have n2:=World.new_ne w1 ⟨tb,s.i*3,none⟩ x0;go_wp2_with fail
                  go_region_held3 (fun wx=>wx.cell? ⟨g,1,none⟩=some (.slice (some ⟨tb,0,none⟩) ts.length tc)∧wx.cell? ⟨g,2,none⟩=some (.int .i64 s.i)∧wx.cell? ⟨tb,s.i*3,none⟩=some (.int .i64 tk)∧wx.cell? ⟨tb,s.i*3+1,none⟩=some (.string bt)∧wx.cell? ⟨tb,s.i*3+2,none⟩=some (.int .i64 tp)) (go_keep) (first|fail)
                  have Z2:=hD (S1.out.no (((fR w1).alloc (.cells #[.int .i64 tk,.string bt,.int .i64 tp] 115)).drew));have BT:=hD (show Blk (w1.alloc (.cells #[.int .i64 tk,.string bt,.int .i64 tp] 115)).drew w1.heap.size 115 #[.int .i64 tk,.string bt,.int .i64 tp] from Blk.new w1 _ _);clear hr1 x0 x1 x2 n1 n2 c11 c21 c41 c51 f21 f41 S1 S0;generalize (w1.alloc (.cells #[.int .i64 tk,.string bt,.int .i64 tp] 115)).drew=w2 at *;have hgB:g≠w1.heap.size:=Nat.ne_of_lt hg1;clear hg1;generalize w1.heap.size=B at *;have HGB:=hD hgB.symm;clear hgB;have S2:=hD Z2.out.here;obtain⟨hg2,c12,c22,c42,c52,f22,f42⟩:=S2.out.cells;have hi2:=S2.out.i_le;have BT2:=S2.out.fr.blk BT.out HGB.out (by decide);have d02:=BT2.cell 0;have d12:=BT2.cell 1;simp at d02 d12
                  clear BT2;go_wp2_with fail
                  clear hg2 c12 c22 c42 c52 f22 f42 hi2 he e1 e2 e3 d02 d12;refine (S2.out.is ⟨#[116,114,117,101]⟩ (b:=false) HT1.out).mono ?_;rintro e w3 ⟨rfl,h3⟩;have S3:=hD h3;clear h3;go_wp2_with fail
                  refine (S3.out.is ⟨#[102,97,108,115,101]⟩ (b:=false) HF1.out).mono ?_;rintro e w4 ⟨rfl,h4⟩;have S4:=hD h4;clear h4;go_wp2_with fail
                  refine (S4.out.is ⟨#[108,101,110]⟩ (b:=false) HL.out).mono ?_;rintro e w5 ⟨rfl,h5⟩;have S5:=hD h5;clear h5;go_wp2_with fail
                  refine (S5.out.is ⟨#[40]⟩ (b:=true) HM.out).mono ?_;rintro e w6 ⟨rfl,h6⟩;have S6:=hD h6;clear h6;go_wp2_with fail
                  refine (S6.out.down H0.out).mono ?_;rintro e w7 ⟨rfl,h7⟩;have S7:=hD h7;clear h7;go_wp2_with fail
                  refine (S7.out.must ⟨#[40]⟩).mono ?_;rintro e w8 ⟨rfl,h8⟩;have S8:=hD h8;clear h8;go_wp2_with fail
                  refine (IH.out.expr _ _ _ _ _ S8.out HQ.out HN1.out).mono ?_;rintro e w9 ⟨rfl,h9⟩;have S9:=hD h9;clear h9;go_wp2_with fail
                  refine (S9.out.must ⟨#[41]⟩).mono ?_;rintro e w10 ⟨rfl,h10⟩;have S10:=hD h10;clear h10;obtain⟨hg10,c110,c210,c410,c510,f210,f410⟩:=S10.out.cells;have hi10:=S10.out.i_le;obtain⟨hl10,hu10⟩:=HDB.out;go_wp2_with fail
                  have S11:=hD (S10.out.up HD.out);clear hg10 c110 c210 c410 c510 f210 f410 hi10 hl10 hu10;generalize w10.setCell ⟨g,4,none⟩ (.int .i64 (((aA ts [41] (q.2)).deep:Int) - 1))=w11 at *;go_ret;exact⟨rfl,Z2.out.back S11.out⟩
                · rw[if_neg hm] at hr
                  simp only[Option.some.injEq] at hr;subst hr;have HM:=hD (show pIs ts [40] s=false by simpa using hm);clear hm;clear h ih hn;go_enter Tryz.func224,Tryz.ntmps224;go_wp2_with fail
                  refine (S0.out.line rfl).mono ?_;rintro e w1 ⟨rfl,h1⟩;have S1:=hD h1;clear h1;obtain⟨hg1,c11,c21,c41,c51,f21,f41⟩:=S1.out.cells;obtain⟨hr1,x0,x1,x2⟩:=S1.out.tok;rw[HK.out] at x0;rw[HT.out,HBT.out] at x1;rw[HP.out] at x2;have n1:=World.new_ne w1 ⟨g,1,none⟩ c11;have n2:=World.new_ne w1 ⟨tb,s.i*3,none⟩ x0;go_wp2_with fail
                  go_region_held3 (fun wx=>wx.cell? ⟨g,1,none⟩=some (.slice (some ⟨tb,0,none⟩) ts.length tc)∧wx.cell? ⟨g,2,none⟩=some (.int .i64 s.i)∧wx.cell? ⟨tb,s.i*3,none⟩=some (.int .i64 tk)∧wx.cell? ⟨tb,s.i*3+1,none⟩=some (.string bt)∧wx.cell? ⟨tb,s.i*3+2,none⟩=some (.int .i64 tp)) (go_keep) (first|fail)
                  have Z2:=hD (S1.out.no (((fR w1).alloc (.cells #[.int .i64 tk,.string bt,.int .i64 tp] 115)).drew));have BT:=hD (show Blk (w1.alloc (.cells #[.int .i64 tk,.string bt,.int .i64 tp] 115)).drew w1.heap.size 115 #[.int .i64 tk,.string bt,.int .i64 tp] from Blk.new w1 _ _);clear hr1 x0 x1 x2 n1 n2 c11 c21 c41 c51 f21 f41 S1 S0;generalize (w1.alloc (.cells #[.int .i64 tk,.string bt,.int .i64 tp] 115)).drew=w2 at *;have hgB:g≠w1.heap.size:=Nat.ne_of_lt hg1;clear hg1;generalize w1.heap.size=B at *;have HGB:=hD hgB.symm;clear hgB;have S2:=hD Z2.out.here;obtain⟨hg2,c12,c22,c42,c52,f22,f42⟩:=S2.out.cells;have hi2:=S2.out.i_le;have BT2:=S2.out.fr.blk BT.out HGB.out (by decide);have d02:=BT2.cell 0;have d12:=BT2.cell 1;simp at d02 d12
                  clear BT2;go_wp2_with fail
                  clear hg2 c12 c22 c42 c52 f22 f42 hi2 he e1 e2 e3 d02 d12;refine (S2.out.is ⟨#[116,114,117,101]⟩ (b:=false) HT1.out).mono ?_;rintro e w3 ⟨rfl,h3⟩;have S3:=hD h3;clear h3;go_wp2_with fail
                  refine (S3.out.is ⟨#[102,97,108,115,101]⟩ (b:=false) HF1.out).mono ?_;rintro e w4 ⟨rfl,h4⟩;have S4:=hD h4;clear h4;go_wp2_with fail
                  refine (S4.out.is ⟨#[108,101,110]⟩ (b:=false) HL.out).mono ?_;rintro e w5 ⟨rfl,h5⟩;have S5:=hD h5;clear h5;go_wp2_with fail
                  refine (S5.out.is ⟨#[40]⟩ (b:=false) HM.out).mono ?_;rintro e w6 ⟨rfl,h6⟩;have S6:=hD h6;clear h6;go_wp2_with fail
                  refine (S6.out.fails 20 (by decide) (by decide)).mono ?_;rintro e w7 ⟨rfl,h7⟩;have S7:=hD h7;clear h7;go_wp2_with fail
                  go_ret;exact⟨rfl,Z2.out.back S7.out⟩
  · rw[if_pos he0] at hr
    simp only[Option.some.injEq] at hr;subst hr;have he:((s.e:Int)==0)=false:=bN.2 (by omega);clear he0;clear h ih hn;go_enter Tryz.func224,Tryz.ntmps224;go_wp2_with fail
    refine (S0.out.line rfl).mono ?_;rintro e w1 ⟨rfl,h1⟩;have S1:=hD h1;clear h1;obtain⟨hg1,c11,c21,c41,c51,f21,f41⟩:=S1.out.cells;obtain⟨hr1,x0,x1,x2⟩:=S1.out.tok;rw[HK.out] at x0;rw[HT.out,HBT.out] at x1;rw[HP.out] at x2;have n1:=World.new_ne w1 ⟨g,1,none⟩ c11;have n2:=World.new_ne w1 ⟨tb,s.i*3,none⟩ x0;go_wp2_with fail
    go_region_held3 (fun wx=>wx.cell? ⟨g,1,none⟩=some (.slice (some ⟨tb,0,none⟩) ts.length tc)∧wx.cell? ⟨g,2,none⟩=some (.int .i64 s.i)∧wx.cell? ⟨tb,s.i*3,none⟩=some (.int .i64 tk)∧wx.cell? ⟨tb,s.i*3+1,none⟩=some (.string bt)∧wx.cell? ⟨tb,s.i*3+2,none⟩=some (.int .i64 tp)) (go_keep) (first|fail)
    have Z2:=hD (S1.out.no (((fR w1).alloc (.cells #[.int .i64 tk,.string bt,.int .i64 tp] 115)).drew));have BT:=hD (show Blk (w1.alloc (.cells #[.int .i64 tk,.string bt,.int .i64 tp] 115)).drew w1.heap.size 115 #[.int .i64 tk,.string bt,.int .i64 tp] from Blk.new w1 _ _);clear hr1 x0 x1 x2 n1 n2 c11 c21 c41 c51 f21 f41 S1 S0;generalize (w1.alloc (.cells #[.int .i64 tk,.string bt,.int .i64 tp] 115)).drew=w2 at *;have hgB:g≠w1.heap.size:=Nat.ne_of_lt hg1;clear hg1;generalize w1.heap.size=B at *;have HGB:=hD hgB.symm;clear hgB;have S2:=hD Z2.out.here;obtain⟨hg2,c12,c22,c42,c52,f22,f42⟩:=S2.out.cells;have hi2:=S2.out.i_le;go_wp2_with fail
    go_ret;exact⟨rfl,Z2.out.back S2.out⟩
theorem aMc:∀n,Good src tb tc ts g n:=by
 intro n;induction n using Nat.strongRecOn with
 | _ n ih=>
  have hc:=fun (lv:Nat) (z:Int) (hz:((lv:Nat):Int)=z) (hl:lv≤5)=>aEp ih lv z hz hl
  exact⟨aJg ih,zS ih,hc,aIs hc,aIz ih,aCx ih,aEs ih,fun line=>aDy ih line,aFi ih⟩
end
end Go.Proofs.YtlbjicjinnnboaaGreatDoor
