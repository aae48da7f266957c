/- MvB: laws and walks for CheckVisible. -/
import Derived.Test.YtlbjicjinnnboaaGreatDoorMvA
import Derived.Lib.IndexBytes
set_option maxHeartbeats 8000000
set_option maxRecDepth 100000
set_option linter.unusedVariables false
set_option linter.unusedSimpArgs false
namespace Go.Proofs.YtlbjicjinnnboaaGreatDoor
open Go.RowKit Go.Proofs.Tryz
variable {l x:List UInt8}{n g k o m:Nat}{w:World}
def gJ (l:List UInt8):Nat:=
 match l with
 | []=>0
 | c :: r=>
  if fB (aY (c :: r) 0) then 1+gJ r
  else if dH (c :: r) then runN bW (c :: r)+gJ (r.drop (runN bW (c :: r) - 1))
  else 0
termination_by l.length
decreasing_by
 all_goals simp
 all_goals omega
section
variable {l:List UInt8}
theorem nQ:gJ []=0:=by rw[gJ]
theorem oL (h0:0<l.length) (h:fB (aY l 0)=true):gJ l=1+gJ (l.drop 1):=by
 cases l with
 | nil=>simp at h0
 | cons c r=>rw[gJ,if_pos h];rfl
theorem oO (h2:dH l=true):1<=runN bW l:=by
 unfold dH Lib.hasPrefix at h2;cases l with
 | nil=>simp at h2
 | cons c r=>
  refine kJ bW _ (by simp) ?_;simp at h2
  simp[bW,aY,<-h2.1]
theorem nH (h0:0<l.length) (h:fB (aY l 0)=false) (h2:dH l=true):gJ l=runN bW l+gJ (l.drop (runN bW l)):=by
 have hp:=oO h2;cases l with
 | nil=>simp at h0
 | cons c r=>
  rw[gJ,if_neg (by rw[h];simp),if_pos h2];conv=>rhs;rw[show (c :: r).drop (runN bW (c :: r))=r.drop (runN bW (c :: r) - 1) by conv=>lhs;rw[show runN bW (c :: r)=(runN bW (c :: r) - 1)+1 by omega,List.drop_succ_cons]]
theorem jB (h0:0<l.length) (h:fB (aY l 0)=false) (h2:dH l=false):gJ l=0:=by
 cases l with
 | nil=>simp at h0
 | cons c r=>rw[gJ,if_neg (by rw[h];simp),if_neg (by rw[h2];simp)]
end
theorem aCd:∀(n:Nat) (l:List UInt8) (p:Nat),l.length<=n->gJ l<=l.length∧gJ (l.drop (gJ l))=0∧lexFrom l p=lexFrom (l.drop (gJ l)) (p+gJ l):=by
 intro n;induction n with
 | zero=>
  intro l p h;have:l=[]:=List.eq_nil_of_length_eq_zero (by omega);subst this;rw[nQ];exact⟨aA1 _,nQ,rfl⟩
 | succ n ih=>
  intro l p h;refine qQ (Mo:=λl p=>l.length<=n+1->gJ l<=l.length∧gJ (l.drop (gJ l))=0∧lexFrom l p=lexFrom (l.drop (gJ l)) (p+gJ l)) l p ?_ ?_ ?_ ?_ ?_ h
  . intro _ _;rw[nQ];exact⟨aA1 _,nQ,rfl⟩
  . intro h0 hb h
    obtain⟨a1,a2,a3⟩:=ih (l.drop 1) (p+1) (by rw[List.length_drop];omega);rw[List.length_drop] at a1;rw[List.drop_drop] at a2 a3;rw[oL h0 hb,lI h0 hb];exact⟨by omega,a2,by rw[a3];congr 1;omega⟩
  . intro h0 hb hr h1 h
    have hle:=jQ bW l;obtain⟨a1,a2,a3⟩:=ih (l.drop (runN bW l)) (p+runN bW l) (by rw[List.length_drop];omega);rw[List.length_drop] at a1;rw[List.drop_drop] at a2 a3;rw[nH h0 hb hr,jW h0 hb hr];exact⟨by omega,a2,by rw[a3];congr 1;omega⟩
  . intro e h0 hb hr hf h
    rw[jB h0 hb hr];exact⟨aA4 _,by rw[List.drop_zero];exact jB h0 hb hr,rfl⟩
  . intro k o m n' h0 hb hr hf h
    rw[jB h0 hb hr];exact⟨aA4 _,by rw[List.drop_zero];exact jB h0 hb hr,rfl⟩
theorem fE (s:List UInt8) (p k:Nat):aY (s.drop p) k=aY s (p+k):=by
 unfold aY;rw[List.getD,List.getD,List.getElem?_drop]
theorem xS (s:ByteArray) (k:Nat) (h:k<s.size):dH (s.data.toList.drop k)=(decide ((s[k]'h).toNat=47) && if h2:k+1<s.size then decide ((s[k+1]'h2).toNat=47) else false):=by
 have hl:s.data.toList.length=s.size:=by simp
 rw[List.drop_eq_getElem_cons (by rw[hl];exact h)];unfold dH Lib.hasPrefix;have e1:s.data.toList[k]'(by rw[hl];exact h)=s[k]'h:=rfl;rw[e1];by_cases h2:k+1<s.size
 . rw[dif_pos h2,List.drop_eq_getElem_cons (by rw[hl];exact h2)]
   have e2:s.data.toList[k+1]'(by rw[hl];exact h2)=s[k+1]'h2:=rfl;rw[e2];simp only[List.isPrefixOf,Bool.and_true];have e3:∀c:UInt8,((47:UInt8)==c)=decide (c.toNat=47):=λc=>by
    by_cases e:c=47
    . subst e;rfl
    . have hx:¬c.toNat=47:=λx=>e (UInt8.toNat_inj.1 (x.trans rfl))
      rw[decide_eq_false hx];exact bN.2 (λx=>e x.symm)
   rw[e3,e3]
 . rw[dif_neg h2,List.drop_of_length_le (by omega)]
   simp[List.isPrefixOf]
theorem xO (s:ByteArray) (hs:s.size<=281474976710656) (i:Nat) (hi:i<=s.size) (w:World):
  Calls prog 86 #[s,i] w λe w'=>e = .returned ((i+gJ (s.data.toList.drop i):Nat):Int)∧w=w':=by
 have hl:s.data.toList.length=s.size:=by simp
 have HL:=hD hl;clear hl;obtain⟨T,hT⟩:∃T,i+gJ (s.data.toList.drop i)=T:=⟨_,rfl⟩;rw[hT];have HT:=hD hT.symm;clear hT;go_enter func86,ntmps86;go_wp2
 go_loopw [1] (λv w'=>∃k:Nat,k<=s.size∧v = .int .i64 k∧Hd (T=k+gJ (s.data.toList.drop k))∧w=w') (λv _=>s.size - (intOf v).toNat)
 case atStart=>exact⟨i,hi,rfl,HT,rfl⟩
 case round=>
  obtain⟨k,hk,rfl,HE,rfl⟩:=hrel;by_cases hlt:k<s.size
  . have hlt2:(k:Int)<(s.size:Int):=by omega
    have h0:0<(s.data.toList.drop k).length:=by rw[List.length_drop,HL.o];omega
    have hb0:aY (s.data.toList.drop k) 0=((s[k]'hlt).toNat:Int):=by rw[fE,Nat.add_zero,bX s k hlt]
    have hrb:=xS s k hlt;obtain⟨c,hc⟩:∃c,s[k]'hlt=c:=⟨_,rfl⟩;rw[hc] at hb0 hrb;by_cases hbl:fB (aY (s.data.toList.drop k) 0)=true
    . have hsk:=oL h0 hbl
      rw[List.drop_drop] at hsk;have HS:=hD hsk;rw[hb0,aCn] at hbl;have hbl2:=of_decide_eq_true hbl;clear hsk hbl hrb hb0 h0;have hcs:(c.toNat:Int)=32∨(c.toNat:Int)=9∨(c.toNat:Int)=13∨(c.toNat:Int)=10:=by
        simp at hbl2
        rcases hbl2 with rfl|rfl|rfl|rfl<;>simp
      clear hbl2;rcases hcs with h|h|h|h
      all_goals
        go_wp2
        go_roundw
        case rel=>exact⟨k+1,by omega,by go_num,hD (by rw[HE.o,HS.o];omega),trivial⟩
        case measure=>simp[intOf];omega
    . have hbf:fB (aY (s.data.toList.drop k) 0)=false:=by simpa using hbl
      clear hbl;have hnb:((c.toNat:Int)==32)=false∧((c.toNat:Int)==9)=false∧((c.toNat:Int)==13)=false∧((c.toNat:Int)==10)=false:=by
        have h:=hbf;rw[hb0,aCn] at h;have h:=of_decide_eq_false h;simp at h
        obtain⟨a1,a2,a3,a4⟩:=h;have k:∀x:UInt8,c≠x->((c.toNat:Int)==(x.toNat:Int))=false:=λx hx=>bN.2 (λe=>hx (UInt8.toNat_inj.1 (by omega)))
        exact⟨k 32 a1,k 9 a2,k 13 a3,k 10 a4⟩
      obtain⟨n1,n2,n3,n4⟩:=hnb;by_cases h47:c.toNat=47
      . have hcb:((c.toNat:Int)==47)=true:=by rw[h47];rfl
        by_cases hk2:k+1<s.size
        . have hk3:(k:Int)+1<(s.size:Int):=by omega
          obtain⟨c2,hc2⟩:∃c2,s[k+1]'hk2=c2:=⟨_,rfl⟩;rw[dif_pos hk2,hc2] at hrb;by_cases h247:c2.toNat=47
          . have hcb2:((c2.toNat:Int)==47)=true:=by rw[h247];rfl
            rw[decide_eq_true h47,decide_eq_true h247] at hrb;have hrm:dH (s.data.toList.drop k)=true:=hrb;have hsk:=nH h0 hbf hrm;rw[List.drop_drop] at hsk;have HS:=hD hsk;have hrl:=jQ bW (s.data.toList.drop k);rw[List.length_drop,HL.o] at hrl;have hr1:=oO hrm;clear hsk hrm hrb h247 h47 hbf hb0 h0;go_wp2
            go_loopw [1] (λv w'=>∃m:Nat,k<=m∧m<=s.size∧v = .int .i64 m∧Hd (runN bW (s.data.toList.drop k)=(m - k)+runN bW (s.data.toList.drop m))∧w=w') (λv _=>s.size - (intOf v).toNat)
            case atStart=>exact⟨k,aA1 _,by omega,rfl,hD (by omega),rfl⟩
            case round=>
             obtain⟨m,hkm,hm,rfl,HR,rfl⟩:=hrel;by_cases hms:m<s.size
             . have hms2:(m:Int)<(s.size:Int):=by omega
               obtain⟨d,hd⟩:∃d,s[m]'hms=d:=⟨_,rfl⟩;have hst:=fP bW s.data.toList m (by rw[HL.o];exact hms);rw[bX s m hms,hd] at hst;have HST:=hD hst;clear hst;by_cases hd10:(d.toNat:Int)=10
               . have hdb:((d.toNat:Int) != 10)=false:=by rw[hd10];rfl
                 go_wp2
                 go_roundw
                 case rel=>
                  have h1:=HR.o;have h2:=HST.o;rw[if_neg (by simp[bW,hd10])] at h2;have h3:k+runN bW (s.data.toList.drop k)=m:=by omega
                  exact⟨m,by omega,by go_num,hD (by rw[HE.o,HS.o,h3];omega),trivial⟩
                 case measure=>
                  have h1:=HR.o;have h2:=HST.o;rw[if_neg (by simp[bW,hd10])] at h2;simp[intOf];omega
               . have hdb:((d.toNat:Int) != 10)=true:=bne_iff_ne.2 hd10
                 go_wp2
                 go_roundw
                 case rel=>
                  have h1:=HR.o;have h2:=HST.o;rw[if_pos (by simp[bW];omega)] at h2;exact⟨m+1,by omega,by omega,by go_num,hD (by omega),trivial⟩
                 case measure=>simp[intOf];omega
             . have hms2:(s.size:Int)<=(m:Int):=by omega
               have hz:runN bW (s.data.toList.drop m)=0:=by rw[List.drop_of_length_le (by rw[HL.o];omega)];rfl
               have HZ:=hD hz;clear hz;go_wp2
               go_roundw
               case rel=>
                 have h1:=HR.o;rw[HZ.o] at h1;have h3:k+runN bW (s.data.toList.drop k)=m:=by omega
                 exact⟨m,by omega,by go_num,hD (by rw[HE.o,HS.o,h3];omega),trivial⟩
               case measure=>
                 have h1:=HR.o;rw[HZ.o] at h1;simp[intOf];omega
          . have hcb2:((c2.toNat:Int)==47)=false:=bN.2 (by omega)
            rw[decide_eq_false h247,Bool.and_false] at hrb;have HS:=hD (jB h0 hbf hrb);clear hrb h247 h47 hbf hb0 h0;go_wp2
            go_ret;exact⟨by rw[HE.o,HS.o];first|done|rfl,rfl⟩
        . have hk3:(s.size:Int)<=(k:Int)+1:=by omega
          rw[dif_neg hk2,Bool.and_false] at hrb;have HS:=hD (jB h0 hbf hrb);clear hrb h47 hbf hb0 h0 hk2;go_wp2
          go_ret;exact⟨by rw[HE.o,HS.o];first|done|rfl,rfl⟩
      . have hcb:((c.toNat:Int)==47)=false:=bN.2 (by omega)
        rw[decide_eq_false h47,Bool.false_and] at hrb;have HS:=hD (jB h0 hbf hrb);clear hrb h47 hbf hb0 h0;go_wp2
        go_ret;exact⟨by rw[HE.o,HS.o];first|done|rfl,rfl⟩
  . have hlt2:(s.size:Int)<=(k:Int):=by omega
    have HS:=hD (show gJ (s.data.toList.drop k)=0 by rw[List.drop_of_length_le (by rw[HL.o];omega),nQ]);clear hlt;go_wp2
    go_ret;exact⟨by rw[HE.o,HS.o];first|done|rfl,rfl⟩
def tO (l:List UInt8) (at_:Nat):Ending:=match nG (l.drop at_) with
 | .ok _ _ m n=> .returned (.tuple #[.string (bs ((l.drop (at_+1)).take m)),.int .i64 ((at_+n:Nat):Int),.int .i64 0])
 | .err e=> .returned (.tuple #[.string ⟨#[]⟩,.int .i64 at_,.int .i64 e])
theorem qZ (l:List UInt8) (at_ m:Nat) (h1:at_<l.length) (hm:runN dD (l.drop (at_+1))=m - (at_+1)) (hm2:at_+1<=m) (h:l.length<=m∨aY l m≠34):
   tO l at_ = .returned (.tuple #[.string ⟨#[]⟩,at_,(11:Int)]):=by
 unfold tO nG;rw[List.drop_drop,hm,if_pos]
 . rfl
 . rw[fE,List.length_drop,show at_+(m - (at_+1)+1)=m by omega]
   rcases h with h|h
   . exact .inl (by omega)
   . exact .inr h
theorem aLj (l:List UInt8) (at_ m:Nat) (h1:at_<l.length) (hm:runN dD (l.drop (at_+1))=m - (at_+1)) (hm2:at_+1<=m) (hm3:m<l.length) (h:aY l m=34):
   tO l at_=if 12<m - (at_+1) then .returned (.tuple #[.string ⟨#[]⟩,at_,U4])
     else .returned (.tuple #[(bs ((l.drop (at_+1)).take (m - (at_+1)))),((m+1:Nat):Int),U0]):=by
 unfold tO nG;rw[List.drop_drop,hm,if_neg]
 . by_cases h12:12<m - (at_+1)
   . rw[if_pos h12,if_pos h12];rfl
   . rw[if_neg h12,if_neg h12]
     simp only;rw[show at_+(m - (at_+1)+2)=m+1 by omega]
 . rw[fE,List.length_drop,show at_+(m - (at_+1)+1)=m by omega]
   rintro (e|e)
   . omega
   . exact e h
theorem aHi (s:ByteArray) (hs:s.size<=281474976710656) (a:Nat) (ha:a<s.size) (w:World):
  Calls prog 131 #[s,a] w λe w'=>e=tO s.data.toList a∧w=w':=by
 have hl:s.data.toList.length=s.size:=by simp
 have HL:=hD hl;clear hl;obtain⟨E,hE⟩:∃E,tO s.data.toList a=E:=⟨_,rfl⟩;rw[hE];have HE:=hD hE;clear hE;go_enter func131,ntmps131;go_wp2
 go_loopw [7] (λv w'=>∃m:Nat,a+1<=m∧m<=s.size∧v = .int .i64 m∧Hd (runN dD (s.data.toList.drop (a+1))=(m - (a+1))+runN dD (s.data.toList.drop m))∧w=w') (λv _=>s.size - (intOf v).toNat)
 case atStart=>exact⟨a+1,aA1 _,by omega,by go_num,hD (by omega),rfl⟩
 case round=>
  obtain⟨m,ham,hm,rfl,HR,rfl⟩:=hrel;have ham2:(a:Int)+1<=(m:Int):=by omega
  by_cases hms:m<s.size
  . have hms2:(m:Int)<(s.size:Int):=by omega
    obtain⟨d,hd⟩:∃d,s[m]'hms=d:=⟨_,rfl⟩;have hby:=bX s m hms;rw[hd] at hby;have hst:=fP dD s.data.toList m (by rw[HL.o];exact hms);rw[hby] at hst;have HST:=hD hst;have HBY:=hD hby;clear hst hby;rcases (by omega:(d.toNat:Int)<32∨(d.toNat:Int)=34∨(32<=(d.toNat:Int)∧(d.toNat:Int)<=126∧(d.toNat:Int)≠34)∨126<(d.toNat:Int)) with h|h|⟨h1,h2,h3⟩|h
    . have hz:runN dD (s.data.toList.drop (a+1))=m - (a+1):=by
        have h1:=HR.o;have h2:=HST.o;rw[if_neg (by simp[dD];omega)] at h2;omega
      have HF:=hD ((qZ s.data.toList a m (by rw[HL.o];exact ha) hz ham (.inr (by rw[HBY.o];omega))).symm.trans HE);have hq:((d.toNat:Int) != 34)=true:=bne_iff_ne.2 (by omega);clear hz;go_wp2
      go_ret3
      exact⟨by rw[<-HF.o];first|done|rfl,rfl⟩
    . have hz:runN dD (s.data.toList.drop (a+1))=m - (a+1):=by
        have h1:=HR.o;have h2:=HST.o;rw[if_neg (by simp[dD];omega)] at h2;omega
      have hF:=(aLj s.data.toList a m (by rw[HL.o];exact ha) hz ham (by rw[HL.o];exact hms) (by rw[HBY.o];exact h)).symm.trans HE.o;have hq:((d.toNat:Int) != 34)=false:=by rw[h];rfl
      clear hz;by_cases h12:12<m - (a+1)
      . rw[if_pos h12] at hF
        have HF:=hD hF;have h13:(12:Int)<(m:Int) - (a:Int) - 1:=by omega
        clear hF h12;go_wp2
        go_ret3
        exact⟨by rw[<-HF.o];first|done|rfl,rfl⟩
      . rw[if_neg h12] at hF
        have HF:=hD hF;have h13:(m:Int) - (a:Int) - 1<=12:=by omega
        have HX:=hD (show bs ((s.data.toList.drop (a+1)).take (m - (a+1)))=s.extract (a+1) m by rw[<-Lib.extract_data,pR]);clear hF h12;go_wp2
        go_ret3
        exact⟨by rw[<-HF.o,HX.o];first|done|rfl,rfl⟩
    . have hst:runN dD (s.data.toList.drop m)=1+runN dD (s.data.toList.drop (m+1)):=by
        have h2:=HST.o;rwa [if_pos (by simp[dD];omega)] at h2
      have HS2:=hD hst;have hq:((d.toNat:Int) != 34)=true:=bne_iff_ne.2 h3;clear hst;go_wp2
      go_roundw
      case rel=>exact⟨m+1,by omega,by omega,by go_num,hD (by (have:=HR.o);have:=HS2.o;omega),trivial⟩
      case measure=>simp[intOf];omega
    . have hz:runN dD (s.data.toList.drop (a+1))=m - (a+1):=by
        have h1:=HR.o;have h2:=HST.o;rw[if_neg (by simp[dD];omega)] at h2;omega
      have HF:=hD ((qZ s.data.toList a m (by rw[HL.o];exact ha) hz ham (.inr (by rw[HBY.o];omega))).symm.trans HE);have hq:((d.toNat:Int) != 34)=true:=bne_iff_ne.2 (by omega);clear hz;go_wp2
      go_ret3
      exact⟨by rw[<-HF.o];first|done|rfl,rfl⟩
  . have hms2:(s.size:Int)<=(m:Int):=by omega
    have hz:runN dD (s.data.toList.drop (a+1))=m - (a+1):=by
      have h1:=HR.o;have h2:runN dD (s.data.toList.drop m)=0:=by rw[List.drop_of_length_le (by rw[HL.o];omega)];rfl
      omega
    have HF:=hD ((qZ s.data.toList a m (by rw[HL.o];exact ha) hz ham (.inl (by rw[HL.o];omega))).symm.trans HE);clear hz hms;go_wp2
    go_ret3
    exact⟨by rw[<-HF.o];first|done|rfl,rfl⟩
def uG (l:List UInt8) (a:Nat) (e:Ending):Prop:=match firstM (l.drop a) with
 | .ok k o m n=>e = .returned (.tuple #[iW k (bs (((l.drop a).drop o).take m)) a,.int .i64 ((a+n:Nat):Int),.int .i64 0])
 | .err er=>∃(k p q:Int) (t:ByteArray),e = .returned (.tuple #[.agg #[.int .i64 k,.string t,.int .i64 p],.int .i64 q,.int .i64 er])
theorem mY {a:Nat} (h:firstM (l.drop a) = .ok k o m n) (x:ByteArray) (hx:x=bs (((l.drop a).drop o).take m)) (q:Nat) (hq:q=a+n):
  uG l a (.returned (.tuple #[iW k x a,q,U0])):=by
 unfold uG;rw[h,hx,hq]
theorem pE {a er:Nat} (h:firstM (l.drop a) = .err er) (k p q:Int) (t:ByteArray):
  uG l a (.returned (.tuple #[.agg #[k,t,p],q,er])):=by
 unfold uG;rw[h];exact⟨k,p,q,t,rfl⟩
theorem sV (s:ByteArray) (a m:Nat):(s.extract a m).data.toList=(s.data.toList.drop a).take (m - a):=Lib.extract_data s a m
theorem aDr (s:ByteArray) (hs:s.size<=281474976710656) (a:Nat) (ha:a<s.size) (w:World) (hd:bC (aY s.data.toList a)=true):
  Calls prog 87 #[s,a] w λe w'=>uG s.data.toList a e∧Fr nob w w':=by
 have hl:s.data.toList.length=s.size:=by simp
 have HL:=hD hl;clear hl;have hf:firstM (s.data.toList.drop a)=jE (s.data.toList.drop a):=by
  unfold firstM;rw[fE,Nat.add_zero,if_pos hd]
 have HF:=hD hf;have hai:(a:Int)<(s.size:Int):=by omega
 obtain⟨c,hc⟩:∃c,s[a]'ha=c:=⟨_,rfl⟩;rw[bX s a ha,hc] at hd;have HD:=hD (λw'=>iX (c.toNat:Int) w');rw[hd] at HD;clear hf hd;go_enter func87,ntmps87;go_wp2_with (go_at_call 127;refine bE (HD _) ?_)
 go_loopw [8] (λv w'=>∃m:Nat,a<=m∧m<=s.size∧v = .int .i64 m∧Hd (runN bC (s.data.toList.drop a)=(m - a)+runN bC (s.data.toList.drop m))∧w'=w.alloc (.cells #[U0,.string ⟨#[]⟩,U0] 115)) (λv _=>s.size - (intOf v).toNat)
 case atStart=>exact⟨a,aA1 _,by omega,rfl,hD (by omega),rfl⟩
 case round=>
  obtain⟨m,ham,hm,rfl,HR,rfl⟩:=hrel;have ham2:(a:Int)<=(m:Int):=by omega
  have hend:runN bC (s.data.toList.drop m)=0->(runN bC (s.data.toList.drop a)=m - a):=λh=>by have:=HR.o;omega
  have HEND:=hD hend;clear hend;have fin:runN bC (s.data.toList.drop a)=m - a->dK (s.extract a m).data.toList∧jE (s.data.toList.drop a)=if nJ (s.extract a m).data.toList then .ok 1 0 (m - a) (m - a) else .err 12:=λh=>by
    have h1:=oM (s.data.toList.drop a);unfold jE;rw[sV,<-h];exact⟨h1,rfl⟩
  have FIN:=hD fin;clear fin;by_cases hms:m<s.size
  . have hms2:(m:Int)<(s.size:Int):=by omega
    have hm64:(m:Int)<=(s.size:Int):=by omega
    obtain⟨d,hdd⟩:∃d,s[m]'hms=d:=⟨_,rfl⟩;have hst:=fP bC s.data.toList m (by rw[HL.o];exact hms);rw[bX s m hms,hdd] at hst;have HST:=hD hst;have HE:=hD (λw'=>iX (d.toNat:Int) w');clear hst;generalize hdb:bC (d.toNat:Int)=db at *;clear hdb;cases db with
    | true=>
     go_wp2_with (go_at_call 127;refine bE (HE _) ?_)
     go_roundw
     case rel=>exact⟨m+1,by omega,by omega,by go_num,hD (by (have h1:=HR.o);have h2:=HST.o;(first|rw[if_pos trivial] at h2|rw[if_pos rfl] at h2);omega),trivial⟩
     case measure=>simp[intOf];omega
    | false=>
     have hz:=HEND.o (by (have h2:=HST.o);rwa [if_neg (by simp)] at h2);obtain⟨hall,hnm⟩:=FIN.o hz;have HN:=hD (λw'=>rJ (s.extract a m) hall (by simp;omega) w');have hx:s.extract a m=bs (((s.data.toList.drop a).drop 0).take (m - a)):=by rw[List.drop_zero,<-sV,pR]
     have HX:=hD hx;have HNM:=hD (HF.o.trans hnm);clear hz hall hnm hx;generalize nJ (s.extract a m).data.toList=nb at *;cases nb with
     | true=>
      go_wp2_with (first|(go_at_call 127;refine bE (HE _) ?_)|(go_at_call 128;refine bE (HN _) ?_))
      refine bodyPost_ret (v:= .tuple #[iW 1 (s.extract a m) a,m,U0]) (by simp[results,results87,go_sem,iW];try rfl) rfl ⟨mY (k:=1) (o:=0) (m:=m - a) (n:=m - a) (HNM.o.trans (by simp)) _ HX _ (by omega),(fR w).alloc _⟩
     | false=>
      go_wp2_with (first|(go_at_call 127;refine bE (HE _) ?_)|(go_at_call 128;refine bE (HN _) ?_))
      refine bodyPost_ret (v:= .tuple #[.agg #[U0,.string ⟨#[]⟩,U0],a,(12:Int)]) (by simp[results,results87,go_sem,iW];try rfl) rfl ⟨pE (er:=12) (HNM.o.trans (by simp)) _ _ _ _,(fR w).alloc _⟩
  . have hms2:(s.size:Int)<=(m:Int):=by omega
    have hm64:(m:Int)<=(s.size:Int):=by omega
    have hz:=HEND.o (by rw[List.drop_of_length_le (by rw[HL.o];omega)];rfl);obtain⟨hall,hnm⟩:=FIN.o hz;have HN:=hD (λw'=>rJ (s.extract a m) hall (by simp;omega) w');have hx:s.extract a m=bs (((s.data.toList.drop a).drop 0).take (m - a)):=by rw[List.drop_zero,<-sV,pR]
    have HX:=hD hx;have HNM:=hD (HF.o.trans hnm);clear hz hall hnm hx hms;generalize nJ (s.extract a m).data.toList=nb at *;cases nb with
    | true=>
     go_wp2_with (go_at_call 128;refine bE (HN _) ?_)
     refine bodyPost_ret (v:= .tuple #[iW 1 (s.extract a m) a,m,U0]) (by simp[results,results87,go_sem,iW];try rfl) rfl ⟨mY (k:=1) (o:=0) (m:=m - a) (n:=m - a) (HNM.o.trans (by simp)) _ HX _ (by omega),(fR w).alloc _⟩
    | false=>
     go_wp2_with (go_at_call 128;refine bE (HN _) ?_)
     refine bodyPost_ret (v:= .tuple #[.agg #[U0,.string ⟨#[]⟩,U0],a,(12:Int)]) (by simp[results,results87,go_sem,iW];try rfl) rfl ⟨pE (er:=12) (HNM.o.trans (by simp)) _ _ _ _,(fR w).alloc _⟩
theorem zW (s:ByteArray) (hs:s.size<=281474976710656) (a:Nat) (ha:a<s.size) (w:World) (hd:bC (aY s.data.toList a)=false) (hlt:fU (aY s.data.toList a)=true):
  Calls prog 87 #[s,a] w λe w'=>uG s.data.toList a e∧Fr nob w w':=by
 have hl:s.data.toList.length=s.size:=by simp
 have HL:=hD hl;clear hl;have hf:firstM (s.data.toList.drop a)=sJ (s.data.toList.drop a):=by
  unfold firstM;rw[fE,Nat.add_zero,if_neg (by rw[hd];simp),if_pos hlt]
 have HF:=hD hf;have hai:(a:Int)<(s.size:Int):=by omega
 obtain⟨c,hc⟩:∃c,s[a]'ha=c:=⟨_,rfl⟩;rw[bX s a ha,hc] at hd hlt;have HD:=hD (λw'=>iX (c.toNat:Int) w');rw[hd] at HD;have HT:=hD (λw'=>kK (c.toNat:Int) w');rw[hlt] at HT;clear hf hd hlt;go_enter func87,ntmps87;go_wp2_with (first|(go_at_call 127;refine bE (HD _) ?_)|(go_at_call 129;refine bE (HT _) ?_))
 go_loopw [8] (λv w'=>∃m:Nat,a<=m∧m<=s.size∧v = .int .i64 m∧Hd (runN bA (s.data.toList.drop a)=(m - a)+runN bA (s.data.toList.drop m))∧w'=w.alloc (.cells #[U0,.string ⟨#[]⟩,U0] 115)) (λv _=>s.size - (intOf v).toNat)
 case atStart=>exact⟨a,aA1 _,by omega,rfl,hD (by omega),rfl⟩
 case round=>
  obtain⟨m,ham,hm,rfl,HR,rfl⟩:=hrel;have ham2:(a:Int)<=(m:Int):=by omega
  have HEND:=hD (show runN bA (s.data.toList.drop m)=0->(runN bA (s.data.toList.drop a)=m - a) from λh=>by have:=HR.o;omega);have FIN:=hD (show runN bA (s.data.toList.drop a)=m - a->sJ (s.data.toList.drop a)=(if qF (s.extract a m).data.toList then .ok 4 0 (m - a) (m - a) else if 8<m - a then .err 13 else .ok 3 0 (m - a) (m - a)) from λh=>by
    unfold sJ;rw[sV,<-h])
  have HX:=hD (show s.extract a m=bs (((s.data.toList.drop a).drop 0).take (m - a)) by rw[List.drop_zero,<-sV,pR]);have hm64:(m:Int)<=(s.size:Int):=by omega
  have HW:=hD (λw'=>aHd (s.extract a m) w');have HSZ:=hD (show (s.extract a m).size=m - a by simp;omega);obtain⟨x,hx⟩:∃x,s.extract a m=x:=⟨_,rfl⟩;rw[hx] at FIN HX HW HSZ;by_cases hms:m<s.size
  . have hms2:(m:Int)<(s.size:Int):=by omega
    obtain⟨d,hdd⟩:∃d,s[m]'hms=d:=⟨_,rfl⟩;have hst:=fP bA s.data.toList m (by rw[HL.o];exact hms);rw[bX s m hms,hdd] at hst;have HST:=hD hst;have HE:=hD (λw'=>iX (d.toNat:Int) w');have HL2:=hD (λw'=>kK (d.toNat:Int) w');have hwi:bA (d.toNat:Int)=(fU (d.toNat:Int) || bC (d.toNat:Int) || ((d.toNat:Int)==95)):=rfl;have HWI:=hD hwi;clear hst hwi;generalize bC (d.toNat:Int)=db at *;generalize fU (d.toNat:Int)=lb at *;cases lb with
    | true=>
      have hwt:bA (d.toNat:Int)=true:=by rw[HWI.o];rfl
      have HS2:Hd (runN bA (s.data.toList.drop m)=1+runN bA (s.data.toList.drop (m+1))):=HST.o.trans (if_pos hwt);clear hwt HST HWI;go_wp2_with (first|(go_at_call 127;refine bE (HE _) ?_)|(go_at_call 129;refine bE (HL2 _) ?_))
      go_roundw
      case rel=>exact⟨m+1,by omega,by omega,by go_num,hD (by (have h1:=HR.o);have h2:=HS2.o;omega),trivial⟩
      case measure=>simp[intOf];omega
    | false=>
      cases db with
      | true=>
       have hwt:bA (d.toNat:Int)=true:=by rw[HWI.o];rfl
       have HS2:Hd (runN bA (s.data.toList.drop m)=1+runN bA (s.data.toList.drop (m+1))):=HST.o.trans (if_pos hwt);clear hwt HST HWI;go_wp2_with (first|(go_at_call 127;refine bE (HE _) ?_)|(go_at_call 129;refine bE (HL2 _) ?_))
       go_roundw
       case rel=>exact⟨m+1,by omega,by omega,by go_num,hD (by (have h1:=HR.o);have h2:=HS2.o;omega),trivial⟩
       case measure=>simp[intOf];omega
      | false=>
       by_cases h95:(d.toNat:Int)=95
       . have hu:((d.toNat:Int)==95)=true:=beq_iff_eq.2 h95
         have hwt:bA (d.toNat:Int)=true:=by rw[HWI.o,hu];rfl
         rw[h95] at HE HL2;have HS2:Hd (runN bA (s.data.toList.drop m)=1+runN bA (s.data.toList.drop (m+1))):=HST.o.trans (if_pos hwt);clear hwt HST HWI;go_wp2_with (first|(go_at_call 127;refine bE (HE _) ?_)|(go_at_call 129;refine bE (HL2 _) ?_))
         go_roundw
         case rel=>exact⟨m+1,by omega,by omega,by go_num,hD (by (have h1:=HR.o);have h2:=HS2.o;omega),trivial⟩
         case measure=>simp[intOf];omega
       . have hu:((d.toNat:Int)==95)=false:=bN.2 h95
         have hz:=HEND.o (HST.o.trans (if_neg (by rw[HWI.o,hu];simp)));have HNM:=hD (HF.o.trans (FIN hz));clear hz HR HST HWI;generalize qF x.data.toList=wb at *;by_cases h8:8<m - a
         . have h9:(8:Int)<(x.size:Int):=by rw[HSZ.o];omega
           cases wb with
           | true=>
            go_wp2_with (first|(go_at_call 127;refine bE (HE _) ?_)|(go_at_call 129;refine bE (HL2 _) ?_)|(go_at_call 130;go_must (refine (HW _).mono ?_;rintro e w2 ⟨rfl,hf⟩;have F2:=hD hf;(have B:=(Blk.new w 115 #[U0,.string ⟨#[]⟩,U0]).fr F2 (λx=>x));have c0:=B.cell 0;have c1:=B.cell 1;have c2:=B.cell 2;have f0:=B.frozen 0;have f1:=B.frozen 1;have f2:=B.frozen 2;clear B;clear hf)))
            refine bodyPost_ret (v:= .tuple #[iW 4 x a,m,U0]) (by simp[results,results87,go_sem,iW,c0,c1,c2];try rfl) rfl ⟨mY (k:=4) (o:=0) (m:=m - a) (n:=m - a) (HNM.o.trans (by simp)) _ HX _ (by omega),Fr.wU F2 _ _ _⟩
           | false=>
            go_wp2_with (first|(go_at_call 127;refine bE (HE _) ?_)|(go_at_call 129;refine bE (HL2 _) ?_)|(go_at_call 130;go_must (refine (HW _).mono ?_;rintro e w2 ⟨rfl,hf⟩;have F2:=hD hf;(have B:=(Blk.new w 115 #[U0,.string ⟨#[]⟩,U0]).fr F2 (λx=>x));have c0:=B.cell 0;have c1:=B.cell 1;have c2:=B.cell 2;have f0:=B.frozen 0;have f1:=B.frozen 1;have f2:=B.frozen 2;clear B;clear hf)))
            refine bodyPost_ret (v:= .tuple #[.agg #[U0,.string ⟨#[]⟩,U0],a,(13:Int)]) (by simp[results,results87,go_sem,iW,c0,c1,c2];try rfl) rfl ⟨pE (er:=13) (HNM.o.trans (by simp[h8])) _ _ _ _,Fr.wU F2 _ _ _⟩
         . have h9:(x.size:Int)<=8:=by rw[HSZ.o];omega
           cases wb with
           | true=>
            go_wp2_with (first|(go_at_call 127;refine bE (HE _) ?_)|(go_at_call 129;refine bE (HL2 _) ?_)|(go_at_call 130;go_must (refine (HW _).mono ?_;rintro e w2 ⟨rfl,hf⟩;have F2:=hD hf;(have B:=(Blk.new w 115 #[U0,.string ⟨#[]⟩,U0]).fr F2 (λx=>x));have c0:=B.cell 0;have c1:=B.cell 1;have c2:=B.cell 2;have f0:=B.frozen 0;have f1:=B.frozen 1;have f2:=B.frozen 2;clear B;clear hf)))
            refine bodyPost_ret (v:= .tuple #[iW 4 x a,m,U0]) (by simp[results,results87,go_sem,iW,c0,c1,c2];try rfl) rfl ⟨mY (k:=4) (o:=0) (m:=m - a) (n:=m - a) (HNM.o.trans (by simp)) _ HX _ (by omega),Fr.wU F2 _ _ _⟩
           | false=>
            go_wp2_with (first|(go_at_call 127;refine bE (HE _) ?_)|(go_at_call 129;refine bE (HL2 _) ?_)|(go_at_call 130;go_must (refine (HW _).mono ?_;rintro e w2 ⟨rfl,hf⟩;have F2:=hD hf;(have B:=(Blk.new w 115 #[U0,.string ⟨#[]⟩,U0]).fr F2 (λx=>x));have c0:=B.cell 0;have c1:=B.cell 1;have c2:=B.cell 2;have f0:=B.frozen 0;have f1:=B.frozen 1;have f2:=B.frozen 2;clear B;clear hf)))
            refine bodyPost_ret (v:= .tuple #[iW 3 x a,m,U0]) (by simp[results,results87,go_sem,iW,c0,c1,c2];try rfl) rfl ⟨mY (k:=3) (o:=0) (m:=m - a) (n:=m - a) (HNM.o.trans (by simp[h8])) _ HX _ (by omega),Fr.wU F2 _ _ _⟩
  . have hms2:(s.size:Int)<=(m:Int):=by omega
    have hz:=HEND.o (by rw[List.drop_of_length_le (by rw[HL.o];omega)];rfl);have HNM:=hD (HF.o.trans (FIN hz));clear hz HR hms;generalize qF x.data.toList=wb at *;by_cases h8:8<m - a
    . have h9:(8:Int)<(x.size:Int):=by rw[HSZ.o];omega
      cases wb with
      | true=>
       go_wp2_with (go_at_call 130;go_must (refine (HW _).mono ?_;rintro e w2 ⟨rfl,hf⟩;have F2:=hD hf;(have B:=(Blk.new w 115 #[U0,.string ⟨#[]⟩,U0]).fr F2 (λx=>x));have c0:=B.cell 0;have c1:=B.cell 1;have c2:=B.cell 2;have f0:=B.frozen 0;have f1:=B.frozen 1;have f2:=B.frozen 2;clear B;clear hf))
       refine bodyPost_ret (v:= .tuple #[iW 4 x a,m,U0]) (by simp[results,results87,go_sem,iW,c0,c1,c2];try rfl) rfl ⟨mY (k:=4) (o:=0) (m:=m - a) (n:=m - a) (HNM.o.trans (by simp)) _ HX _ (by omega),Fr.wU F2 _ _ _⟩
      | false=>
       go_wp2_with (go_at_call 130;go_must (refine (HW _).mono ?_;rintro e w2 ⟨rfl,hf⟩;have F2:=hD hf;(have B:=(Blk.new w 115 #[U0,.string ⟨#[]⟩,U0]).fr F2 (λx=>x));have c0:=B.cell 0;have c1:=B.cell 1;have c2:=B.cell 2;have f0:=B.frozen 0;have f1:=B.frozen 1;have f2:=B.frozen 2;clear B;clear hf))
       refine bodyPost_ret (v:= .tuple #[.agg #[U0,.string ⟨#[]⟩,U0],a,(13:Int)]) (by simp[results,results87,go_sem,iW,c0,c1,c2];try rfl) rfl ⟨pE (er:=13) (HNM.o.trans (by simp[h8])) _ _ _ _,Fr.wU F2 _ _ _⟩
    . have h9:(x.size:Int)<=8:=by rw[HSZ.o];omega
      cases wb with
      | true=>
       go_wp2_with (go_at_call 130;go_must (refine (HW _).mono ?_;rintro e w2 ⟨rfl,hf⟩;have F2:=hD hf;(have B:=(Blk.new w 115 #[U0,.string ⟨#[]⟩,U0]).fr F2 (λx=>x));have c0:=B.cell 0;have c1:=B.cell 1;have c2:=B.cell 2;have f0:=B.frozen 0;have f1:=B.frozen 1;have f2:=B.frozen 2;clear B;clear hf))
       refine bodyPost_ret (v:= .tuple #[iW 4 x a,m,U0]) (by simp[results,results87,go_sem,iW,c0,c1,c2];try rfl) rfl ⟨mY (k:=4) (o:=0) (m:=m - a) (n:=m - a) (HNM.o.trans (by simp)) _ HX _ (by omega),Fr.wU F2 _ _ _⟩
      | false=>
       go_wp2_with (go_at_call 130;go_must (refine (HW _).mono ?_;rintro e w2 ⟨rfl,hf⟩;have F2:=hD hf;(have B:=(Blk.new w 115 #[U0,.string ⟨#[]⟩,U0]).fr F2 (λx=>x));have c0:=B.cell 0;have c1:=B.cell 1;have c2:=B.cell 2;have f0:=B.frozen 0;have f1:=B.frozen 1;have f2:=B.frozen 2;clear B;clear hf))
       refine bodyPost_ret (v:= .tuple #[iW 3 x a,m,U0]) (by simp[results,results87,go_sem,iW,c0,c1,c2];try rfl) rfl ⟨mY (k:=3) (o:=0) (m:=m - a) (n:=m - a) (HNM.o.trans (by simp[h8])) _ HX _ (by omega),Fr.wU F2 _ _ _⟩
theorem zM (h:nG l = .ok k o m n):k=2∧o=1∧n=m+2:=by
 unfold nG at h;split at h
 . cases h
 . split at h
   . cases h
   . injection h with h1 h2 h3 h4;omega
theorem zV (h:kH l = .ok k o m n):k=5∧o=0∧n=m∧1<=m:=by
 unfold kH at h;split at h
 . injection h with h1 h2 h3 h4;omega
 . split at h
   . injection h with h1 h2 h3 h4;omega
   . cases h
theorem aGy {e:Nat} (h:kH l = .err e):e=10:=by
 unfold kH at h;split at h
 . cases h
 . split at h
   . cases h
   . injection h with h;exact h.symm
theorem aDq (s:ByteArray) (hs:s.size<=281474976710656) (a:Nat) (ha:a<s.size) (w:World) (hq:aY s.data.toList a=34):
  Calls prog 87 #[s,a] w λe w'=>uG s.data.toList a e∧Fr nob w w':=by
 have hf:firstM (s.data.toList.drop a)=nG (s.data.toList.drop a):=by
  unfold firstM;rw[fE,Nat.add_zero,hq,if_neg (by decide),if_neg (by decide),if_pos (by decide)]
 have HF:=hD hf;have hai:(a:Int)<(s.size:Int):=by omega
 obtain⟨c,hc⟩:∃c,s[a]'ha=c:=⟨_,rfl⟩;rw[bX s a ha,hc] at hq;have HD:=hD (λw'=>iX 34 w');rw[show bC 34=false from rfl] at HD;have HT:=hD (λw'=>kK 34 w');rw[show fU 34=false from rfl] at HT;have hX:=λw'=>aHi s hs a ha w'
 clear hf;cases hx:nG (s.data.toList.drop a) with
 | ok k o m n=>
  obtain⟨rfl,rfl,rfl⟩:=zM hx;have e1:tO s.data.toList a = .returned (.tuple #[(bs ((s.data.toList.drop (a+1)).take m)),((a+(m+2):Nat):Int),U0]):=by
   unfold tO;rw[hx]
  rw[e1] at hX;obtain⟨x,hx1⟩:∃x,bs ((s.data.toList.drop (a+1)).take m)=x:=⟨_,rfl⟩;obtain⟨q,hq1⟩:∃q:Nat,a+(m+2)=q:=⟨_,rfl⟩;rw[hx1,hq1] at hX;have HX:=hD hX;have X1:=hD (show x=bs (((s.data.toList.drop a).drop 1).take m) by rw[List.drop_drop];exact hx1.symm);have Q1:=hD hq1.symm;have HFX:=hD (HF.o.trans hx);clear hX e1 hx1 hq1 hx;go_enter func87,ntmps87;go_wp2_with (first|(go_at_call 127;refine bE (HD _) ?_)|(go_at_call 129;refine bE (HT _) ?_)|(go_at_call 131;refine bE (HX _) ?_))
  refine bodyPost_ret (v:= .tuple #[iW 2 x a,q,U0]) (by simp[results,results87,go_sem,iW];try rfl) rfl ⟨mY HFX _ X1 _ Q1,(fR w).alloc _⟩
 | err e=>
  have e1:tO s.data.toList a = .returned (.tuple #[.string ⟨#[]⟩,a,e]):=by
   unfold tO;rw[hx]
  rw[e1] at hX;have HX:=hD hX;have HFX:=hD (HF.o.trans hx);clear hX e1 hx;go_enter func87,ntmps87;go_wp2_with (first|(go_at_call 127;refine bE (HD _) ?_)|(go_at_call 129;refine bE (HT _) ?_)|(go_at_call 131;refine bE (HX _) ?_))
  refine bodyPost_ret (v:= .tuple #[.agg #[U2,.string ⟨#[]⟩,a],a,e]) (by simp[results,results87,go_sem,iW];try rfl) rfl ⟨pE HFX _ _ _ _,(fR w).alloc _⟩
theorem aHm (s:ByteArray) (hs:s.size<=281474976710656) (a:Nat) (ha:a<s.size) (w:World) (hd:bC (aY s.data.toList a)=false) (hlt:fU (aY s.data.toList a)=false) (hq:aY s.data.toList a≠34):
  Calls prog 87 #[s,a] w λe w'=>uG s.data.toList a e∧Fr nob w w':=by
 have hl:s.data.toList.length=s.size:=by simp
 have hf:firstM (s.data.toList.drop a)=kH (s.data.toList.drop a):=by
  unfold firstM;rw[fE,Nat.add_zero,if_neg (by rw[hd];simp),if_neg (by rw[hlt];simp),if_neg (by simpa using hq)]
 have hai:(a:Int)<(s.size:Int):=by omega
 obtain⟨c,hc⟩:∃c,s[a]'ha=c:=⟨_,rfl⟩;rw[bX s a ha,hc] at hd hlt hq;have HD:=hD (λw'=>iX (c.toNat:Int) w');rw[hd] at HD;have HT:=hD (λw'=>kK (c.toNat:Int) w');rw[hlt] at HT;have hqb:((c.toNat:Int)==34)=false:=bN.2 hq;have hR:(s.extract a s.size).data.toList=s.data.toList.drop a:=Lib.extract_to_end s a;have hX:=λw'=>aHj (s.extract a s.size) (by simp;omega) w'
 rw[hR] at hX;clear hd hlt hq hR;cases hx:kH (s.data.toList.drop a) with
 | ok k o m n=>
  obtain⟨rfl,rfl,rfl,h1⟩:=zV hx;have hfx:=hf.trans hx;obtain⟨_,hn2,hom⟩:=jH (by rw[List.length_drop,hl];omega) hfx;rw[List.length_drop,hl] at hn2;have e1:rF (s.data.toList.drop a)=(s.data.toList.drop a).take n:=by
   unfold rF;rw[hx]
  rw[e1] at hX;obtain⟨x,hx1⟩:∃x,bs ((s.data.toList.drop a).take n)=x:=⟨_,rfl⟩;have hxs:x.size=n:=by rw[<-hx1,aRl,List.length_take,List.length_drop,hl];omega
  have hxe:x.toList.isEmpty=false:=by
   rw[ByteArray.toList_eq];cases hd:x.data.toList with
   | nil=>
    have:x.data.toList.length=x.size:=by simp
    rw[hd] at this;simp at this;omega
   | cons _ _=>rfl
  rw[hx1] at hX;have HX:=hD hX;have X1:=hD (show x=bs (((s.data.toList.drop a).drop 0).take n) by rw[List.drop_zero];exact hx1.symm);have HFX:=hD hfx;have XS:=hD hxs;have hxi:(x.size:Int)<=(s.size:Int) - (a:Int):=by omega
  clear hX e1 hx1 hx hf hfx hxs hom;go_enter func87,ntmps87;go_wp2_with (first|(go_at_call 127;refine bE (HD _) ?_)|(go_at_call 129;refine bE (HT _) ?_)|(go_at_call 132;go_must (refine (HX _).mono ?_;rintro e w2 ⟨rfl,hf⟩;have F2:=hD hf;(have B:=(Blk.new w 115 #[U0,.string ⟨#[]⟩,U0]).fr F2 (λx=>x));have c0:=B.cell 0;have c1:=B.cell 1;have c2:=B.cell 2;have f0:=B.frozen 0;have f1:=B.frozen 1;have f2:=B.frozen 2;clear B;clear hf)))
  refine bodyPost_ret (v:= .tuple #[iW 5 x a,((a:Int)+(x.size:Int):Int),U0]) (by simp[results,results87,go_sem,iW,c0,c1,c2];try rfl) rfl ⟨(by have:=mY HFX x X1 (a+x.size) (by rw[XS.o]);rwa [Int.natCast_add] at this),Fr.wU F2 _ _ _⟩
 | err e=>
  obtain rfl:=aGy hx;have e1:rF (s.data.toList.drop a)=[]:=by
   unfold rF;rw[hx]
  rw[e1] at hX;have HX:=hD hX;have HFX:=hD (hf.trans hx);have hxe:(bs []).toList.isEmpty=true:=by rw[ByteArray.toList_eq];rfl
  clear hX e1 hx hf;go_enter func87,ntmps87;go_wp2_with (first|(go_at_call 127;refine bE (HD _) ?_)|(go_at_call 129;refine bE (HT _) ?_)|(go_at_call 132;go_must (refine (HX _).mono ?_;rintro e w2 ⟨rfl,hf⟩;have F2:=hD hf;(have B:=(Blk.new w 115 #[U0,.string ⟨#[]⟩,U0]).fr F2 (λx=>x));have c0:=B.cell 0;have c1:=B.cell 1;have c2:=B.cell 2;have f0:=B.frozen 0;have f1:=B.frozen 1;have f2:=B.frozen 2;clear B;clear hf)))
  refine bodyPost_ret (v:= .tuple #[.agg #[U0,.string ⟨#[]⟩,U0],a,(10:Int)]) (by simp[results,results87,go_sem,iW,c0,c1,c2];try rfl) rfl ⟨pE HFX _ _ _ _,Fr.wU F2 _ _ _⟩
theorem aLv (s:ByteArray) (hs:s.size<=281474976710656) (a:Nat) (ha:a<s.size) (w:World):
  Calls prog 87 #[s,a] w λe w'=>uG s.data.toList a e∧Fr nob w w':=by
 cases hd:bC (aY s.data.toList a) with
 | true=>exact aDr s hs a ha w hd
 | false=>
  cases hl:fU (aY s.data.toList a) with
  | true=>exact zW s hs a ha w hd hl
  | false=>
   by_cases hq:aY s.data.toList a=34
   . exact aDq s hs a ha w hq
   . exact aHm s hs a ha w hd hl hq
theorem aGt (h0:0<l.length) (h:gJ l=0):fB (aY l 0)=false∧dH l=false:=by
 cases hb:fB (aY l 0) with
 | true=>rw[oL h0 hb] at h;omega
 | false=>
  cases hr:dH l with
  | true=>
   have:=oO hr;rw[nH h0 hb hr] at h;omega
  | false=>exact⟨rfl,rfl⟩
theorem aLw (s:ByteArray) (w:World) (hs:s.size<=281474976710656):
   Calls prog 55 #[s] w λe w'=>aRt w.heap.size w' e (wM s.data.toList)∧Fr nob w w':=by
 have hl:s.data.toList.length=s.size:=by simp
 unfold wM;rw[hl];have HL:=hD hl;clear hl;by_cases hbig:600<s.size
 . rw[if_pos hbig]
   have h2:(600:Int)<(s.size:Int):=by omega
   clear hbig;go_enter func55,ntmps55;go_wp2
   go_ret3
   exact⟨rfl,Fr.refl _ _⟩
 . rw[if_neg hbig]
   have h2:(s.size:Int)<=600:=by omega
   have h600:s.size<=600:=by omega
   clear hbig;obtain⟨a1,a2,a3⟩:=aCd _ s.data.toList 0 (aA1 _);rw[Nat.zero_add] at a3;rw[HL.o] at a1;have hS:=λw'=>xO s hs 0 (aA4 _) w'
   rw[List.drop_zero,Nat.zero_add] at hS;generalize gJ s.data.toList=k0 at *;have HS:=hD hS;have A2:=hD a2;have A3:=hD a3;clear hS a2 a3;go_enter func55,ntmps55;go_wp2_with (go_at_call 86;refine bE (HS _) ?_)
   go_loopw [5,6] (λl i w'=>∃(k:Nat) (K:List Tok),k<=s.size∧K.length<=k∧i = .int .i64 k∧Hd (zF w.heap.size w' l K)∧Hd (Fr nob w w')∧Hd (lexFrom s.data.toList 0=(lexFrom (s.data.toList.drop k) k).pre K)∧Hd (gJ (s.data.toList.drop k)=0)) (λ_ i _=>s.size - (intOf i).toNat)
   case atStart=>
    exact⟨k0,[],a1,aA4 _,rfl,hD ⟨Own.empty _ _ _ _,λg hg=>by simp[blk] at hg⟩,hD (by first|exact Fr.refl _ _|exact (Fr.refl _ _).alloc _),hD (by rw[pre_nil];exact A3),A2⟩
   case round=>
    obtain⟨k,K,hks,hKk,rfl,T,F,LX,Z⟩:=hrel;obtain⟨A,c,rfl,hc,hcm⟩:=T.o.own.cap;by_cases hlt:k<s.size
    . have hlt2:(k:Int)<(s.size:Int):=by omega
      have h0:0<(s.data.toList.drop k).length:=by rw[List.length_drop,HL.o];omega
      obtain⟨hblf,hrf⟩:=aGt h0 Z.o;have hO:=λw'=>aLv s hs k hlt w'
      unfold uG at hO;cases hone:firstM (s.data.toList.drop k) with
      | err er=>
        have N1:=hD (sN (p:=k) h0 hblf hrf hone);have her:=pJ hone;rw[hone] at hO;have HO:=hD hO;have he2:((er:Int) != 0)=true:=by simp;omega
        clear hO hone hblf hrf h0 her;go_wp2_with (go_at_call 87;go_must (refine (HO _).mono ?_;rintro e w2 ⟨⟨k5,p5,q5,t5,rfl⟩,hf2⟩;have F2:=hD hf2;clear hf2))
        go_ret3
        rw[LX.o,N1.o];exact⟨rfl,(F.o.tr F2).alloc _⟩
      | ok kd o m n=>
        have N1:=hD (yI (p:=k) h0 hblf hrf hone);obtain⟨hn1,hn2,hom⟩:=jH h0 hone;rw[List.length_drop,HL.o] at hn2;rw[hone] at hO;simp only[iW] at hO;generalize ((s.data.toList.drop k).drop o).take m=tx at *;obtain⟨q,hq⟩:∃q:Nat,k+n=q:=⟨_,rfl⟩;have hdd:(s.data.toList.drop k).drop n=s.data.toList.drop q:=by rw[List.drop_drop,hq]
        rw[hdd,hq] at N1;rw[hq] at hO;have HO:=hD hO;have hqs:q<=s.size:=by omega
        obtain⟨b1,b2,b3⟩:=aCd _ (s.data.toList.drop q) q (aA1 _);rw[List.drop_drop] at b2 b3;rw[List.length_drop,HL.o] at b1;have hS2:=λw'=>xO s hs q hqs w'
        obtain⟨k2,hk2⟩:∃k2:Nat,q+gJ (s.data.toList.drop q)=k2:=⟨_,rfl⟩;rw[hk2] at b2 b3 hS2;have HS2:=hD hS2;have B2:=hD b2;have B3:=hD b3;have hk2s:k2<=s.size:=by omega
        have hk2k:k+1<=k2:=by omega
        clear hO hone hblf hrf h0 hS2 b2 b3 hdd hom hq hk2 b1 hn2;go_wp2_with (first|(go_at_call 87;go_must (refine (HO _).mono ?_;rintro e w2 ⟨rfl,hf2⟩;have F2:=hD hf2;have S2:=hD hf2.size;clear hf2))|(go_at_call 86;refine bE (HS2 _) ?_)|(at_builtin;refine aL (v:= .slice A K.length c) (m:=1) (news:=[kd,bs tx,k]) rfl _ _ rfl aNv rfl rfl (((T.o.no F2).own.alloc _).alloc _) (Rd.eZ (n:=1) (cs:=[kd,bs tx,k]) (Blk.new2 _ _ _ _) rfl (by decide)) (by simp[Value.oneCell']) (by omega) (by unfold maxLen;omega) ?_;intro A3 c3 w3 ho3 hf3 hv3;have O3:=hD ho3;have F3:=hD hf3;have V3:=hD hv3;clear ho3 hf3 hv3))
        go_roundw
        case rel=>
          refine⟨k2,K++[⟨kd,tx,k⟩],hk2s,by simp;omega,rfl,hD ⟨?_,λg hg=>?_⟩,hD ?_,hD (by rw[LX.o,N1.o,aIg,B3.o]),B2⟩
          . have e1:dP (K++[⟨kd,tx,k⟩])=dP K++[.int .i64 kd,.string (bs tx),.int .i64 k]:=by simp[dP]
            rw[e1,aA3];exact O3.o
          . have hg':blk (.slice A3 (K.length+1) c3)=some g:=hg
            rcases V3.o with h|h
            . exact T.o.new g (h ▸ hg')
            . rw[hg'] at h;injection h with h
              simp at h
              have:=F.o.size;have:=S2.o;omega
          . exact (((F.o.tr F2).alloc _).alloc _).trans F3 (λ_ _ x=>x) (λb hb h=>by have:=T.o.new b h;omega)
        case measure=>simp[intOf];omega
    . have hk:k=s.size:=by omega
      have E1:=hD (show lexFrom (s.data.toList.drop k) k = .good [⟨0,[],k⟩] by rw[List.drop_of_length_le (by rw[HL.o];omega),lex_nil]);have hge:(s.size:Int)<=(k:Int):=by omega
      clear hlt;subst hk;go_wp2_with (at_builtin;refine aL (v:= .slice A K.length c) (m:=1) (news:=[U0,.string ⟨#[]⟩,s.size]) rfl _ _ rfl aNv rfl rfl (T.o.own.alloc _) (Rd.eZ (n:=1) (cs:=[U0,.string ⟨#[]⟩,s.size]) (Blk.new _ _ _) rfl (by decide)) (by simp[Value.oneCell']) (by omega) (by unfold maxLen;omega) ?_;intro A3 c3 w3 ho3 hf3 hv3;have O3:=hD ho3;have F3:=hD hf3;have V3:=hD hv3;clear ho3 hf3 hv3)
      go_ret3
      rw[LX.o,E1.o];refine⟨⟨_,rfl,?_,λg hg=>?_⟩,?_⟩
      . have e1:dP (K++[⟨0,[],s.size⟩])=dP K++[.int .i64 0,.string ⟨#[]⟩,.int .i64 s.size]:=by simp[dP,bs]
        rw[e1,aA3];exact O3.o
      . have hg':blk (.slice A3 (K.length+1) c3)=some g:=hg
        rcases V3.o with h|h
        . exact T.o.new g (h ▸ hg')
        . rw[hg'] at h;injection h with h
          simp at h
          have:=F.o.size;omega
      . exact (F.o.alloc _).trans F3 (λ_ _ x=>x) (λb hb h=>by have:=T.o.new b h;omega)
structure aF where
 kind:Nat
 line:Nat
 n:Nat
 name:List UInt8
 l:List Nat
 deriving DecidableEq
structure PS where
 i:Nat
 nodes:List aF
 deep:Nat
 e:Nat
 place:Nat
variable {r:List Nat×PS}
abbrev aDa:Tok:=⟨0,[],0⟩
section
variable (src:List UInt8) (ts:List Tok)
def bI (s:PS):Tok:=ts.getD s.i aDa
def aR (k:Nat) (s:PS):PS:=if s.e=0 then { s with e:=k,place:=(bI ts s).place } else s
def pIs (x:List UInt8) (s:PS):Bool:=decide (s.e=0) && (decide ((bI ts s).kind=5) || decide ((bI ts s).kind=4)) && decide ((bI ts s).text=x)
def bM (k:Nat) (s:PS):Bool:=decide (s.e=0) && decide ((bI ts s).kind=k)
def pGo (s:PS):PS:={ s with i:=s.i+1 }
def aA (x:List UInt8) (s:PS):PS:=if pIs ts x s then pGo s else aR ts 20 s
def dZ (s:PS):List UInt8:=if bM ts 3 s then (bI ts s).text else []
def aI (s:PS):PS:=if bM ts 3 s then pGo s else aR ts 20 s
def bJ (s:PS):Nat:=iU src (bI ts s).place
def bR (kind line n:Nat) (name:List UInt8) (l:List Nat) (s:PS):List Nat×PS:=([s.nodes.length],{ s with nodes:=s.nodes++[⟨kind,line,n,name,l⟩] })
def aX (s:PS):PS:=let s:=if 16<=s.deep then aR ts 21 s else s;{ s with deep:=s.deep+1 }
def pUp (s:PS):PS:={ s with deep:=s.deep - 1 }
def dQ:Nat->List (List UInt8)
 | 0=>[[124,124]]
 | 1=>[[38,38]]
 | 2=>[[60],[60,61],[61,61],[33,61]]
 | 3=>[[43],[45]]
 | _=>[[42],[47],[37]]
def fQ (lv:Nat) (s:PS):List UInt8:=((dQ lv).find? λx=>pIs ts x s).getD []
def gG (s:PS):Bool:=bM ts 3 s && (decide ((ts.getD (s.i+1) aDa).kind=5) && decide ((ts.getD (s.i+1) aDa).text=[40]))
def bQ (s:PS):List UInt8:=if bM ts 4 s then (bI ts s).text else []
def nO (w:List UInt8):Nat:=if w=[105,110,116] then 1 else if w=[98,111,111,108] then 2 else if w=[116,101,120,116] then 3 else if w=[108,105,115,116] then 4 else 0
def fT (s:PS):Nat:=nO (bQ ts s)
def cO (s:PS):PS:=if fT ts s=0 then aR ts 20 s else pGo s
def aNt (l:List UInt8):Nat:=aO 0 l
inductive Task where
 | atom|factor|chain (lv:Nat)|more (lv line x:Nat)|args (l:List Nat)|call|right|block|stmts (l:List Nat)|named (line:Nat)|stmt
def run:Nat->Task->PS->Option (List Nat×PS)
 | 0,_,_=>none
 | f+1,.atom,s=>
  if s.e≠0 then some ([0],s)
  else if (bI ts s).kind=1 then some (bR 1 (bJ src ts s) (aNt (bI ts s).text) [] [] (pGo s))
  else if (bI ts s).kind=2 then some (bR 3 (bJ src ts s) 0 (bI ts s).text [] (pGo s))
  else if (bI ts s).kind=3 then
    if pIs ts [91] (pGo s) then
      (run f (.chain 0) (aA ts [91] (aX ts (pGo s)))).map λr=>bR 5 (bJ src ts s) 0 (bI ts s).text r.1 (pUp (aA ts [93] r.2))
    else some (bR 4 (bJ src ts s) 0 (bI ts s).text [] (pGo s))
  else if pIs ts [116,114,117,101] s then some (bR 2 (bJ src ts s) 1 [] [] (pGo s))
  else if pIs ts [102,97,108,115,101] s then some (bR 2 (bJ src ts s) 0 [] [] (pGo s))
  else if pIs ts [108,101,110] s then
    if pIs ts [40] (pGo s) then
      (run f (.chain 0) (aA ts [40] (aX ts (pGo s)))).map λr=>bR 6 (bJ src ts s) 0 [] r.1 (pUp (aA ts [41] r.2))
    else some ([0],aR ts 20 (pGo s))
  else if pIs ts [40] s then (run f (.chain 0) (aA ts [40] (aX ts s))).map λr=>(r.1,pUp (aA ts [41] r.2))
  else some ([0],aR ts 20 s)
 | f+1,.factor,s=>
  if pIs ts [45] s then (run f .factor (pGo (aX ts s))).map λr=>bR 7 (bJ src ts s) 0 [] r.1 (pUp r.2)
  else if pIs ts [33] s then (run f .factor (pGo (aX ts s))).map λr=>bR 8 (bJ src ts s) 0 [] r.1 (pUp r.2)
  else run f .atom s
 | f+1,.chain lv,s=>
  if lv=5 then run f .factor s
  else (run f (.chain (lv+1)) s).bind λr=>run f (.more lv (bJ src ts s) (r.1.headD 0)) r.2
 | f+1,.more lv line x,s=>
  if fQ ts lv s=[] then some ([x],s)
  else (run f (.chain (lv+1)) (pGo s)).bind λr=>
    let p:=bR 9 line 0 (fQ ts lv s) [x,r.1.headD 0] r.2
    if lv=2 then some p else run f (.more lv line (p.1.headD 0)) p.2
 | f+1,.args l,s=>
  (run f (.chain 0) s).bind λr=>if pIs ts [44] r.2 then run f (.args (l++r.1)) (pGo r.2) else some (l++r.1,r.2)
 | f+1,.call,s=>
  let s2:=aA ts [40] (aI ts s)
  (if pIs ts [41] s2=false∧s2.e=0 then run f (.args []) s2 else some ([],s2)).map λr=>bR 21 (bJ src ts s) 0 (dZ ts s) r.1 (aA ts [41] r.2)
 | f+1,.right,s=>
  if pIs ts [105,110,112,117,116] s then some (bR 19 (bJ src ts s) 0 [] [] (pGo s))
  else if pIs ts [110,101,119] s then
    (run f (.chain 0) (aA ts [40] (pGo s))).map λr=>bR 20 (bJ src ts s) 0 [] r.1 (aA ts [41] r.2)
  else if gG ts s then run f .call s
  else run f (.chain 0) s
 | f+1,.block,s=>
  if pIs ts [123] s then
    (run f (.stmts []) (aA ts [123] (aX ts s))).map λr=>bR 18 (bJ src ts s) 0 [] r.1 (pUp (aA ts [125] r.2))
  else some ([0],aR ts 20 s)
 | f+1,.stmts l,s=>
  if s.e≠0 then some (l,s)
  else if pIs ts [125] s then some (l,s)
  else (run f .stmt s).bind λr=>run f (.stmts (l++r.1)) r.2
 | f+1,.named line,s=>
  if gG ts s then (run f .call s).map λr=>bR 13 line 0 [] r.1 (aA ts [59] r.2)
  else if pIs ts [91] (aI ts s) then
    (run f (.chain 0) (aA ts [91] (aX ts (aI ts s)))).bind λr=>
      (run f (.chain 0) (aA ts [61] (pUp (aA ts [93] r.2)))).map λq=>bR 12 line 0 (dZ ts s) (r.1++q.1) (aA ts [59] q.2)
  else (run f .right (aA ts [61] (aI ts s))).map λr=>bR 11 line 0 (dZ ts s) r.1 (aA ts [59] r.2)
 | f+1,.stmt,s=>
  if bQ ts s=[108,101,116] then
    (run f .right (aA ts [61] (aI ts (pGo s)))).map λr=>bR 10 (bJ src ts s) 0 (dZ ts (pGo s)) r.1 (aA ts [59] r.2)
  else if bQ ts s=[112,114,105,110,116] then
    (run f (.chain 0) (pGo s)).map λr=>bR 14 (bJ src ts s) 0 [] r.1 (aA ts [59] r.2)
  else if bQ ts s=[119,104,105,108,101] then
    (run f (.chain 0) (pGo s)).bind λr=>(run f .block r.2).map λb=>bR 16 (bJ src ts s) 0 [] (r.1++b.1) b.2
  else if bQ ts s=[105,102] then
    (run f (.chain 0) (pGo s)).bind λr=>(run f .block r.2).bind λb=>
      if pIs ts [101,108,115,101] b.2 then (run f .block (pGo b.2)).map λc=>bR 15 (bJ src ts s) 0 [] (r.1++b.1++c.1) c.2
      else some (bR 15 (bJ src ts s) 0 [] (r.1++b.1) b.2)
  else if bQ ts s=[114,101,116,117,114,110] then
    if pIs ts [59] (pGo s) then some (bR 17 (bJ src ts s) 0 [] [] (aA ts [59] (pGo s)))
    else (run f (.chain 0) (pGo s)).map λr=>bR 17 (bJ src ts s) 0 [] r.1 (aA ts [59] r.2)
  else run f (.named (bJ src ts s)) s
structure aG where
 name:List UInt8
 line:Nat
 params:List (List UInt8×Nat)
 ret:Nat
 body:Nat
def aT:Nat->List (List UInt8×Nat)->PS->Option (List (List UInt8×Nat)×PS)
 | 0,_,_=>none
 | f+1,acc,s=>
  let s1:=aI ts s
  let s2:=cO ts s1
  let acc2:=acc++[(dZ ts s,fT ts s1)]
  if pIs ts [44] s2 then aT f acc2 (pGo s2) else some (acc2,s2)
def eY (f:Nat) (s:PS):Option (aG×PS):=
 let s1:=aA ts [102,110] s
 let s3:=aA ts [40] (aI ts s1)
 (if pIs ts [41] s3=false∧s3.e=0 then aT ts f [] s3 else some ([],s3)).bind λp=>
   let s4:=aA ts [41] p.2
   let ret:=if pIs ts [123] s4 then 0 else fT ts s4
   let s5:=if pIs ts [123] s4 then s4 else cO ts s4
   (run src ts f .block s5).map λb=>(⟨dZ ts s1,bJ src ts s,p.1,ret,b.1.headD 0⟩,b.2)
def dR:Nat->List aG->PS->Option (List aG×PS)
 | 0,_,_=>none
 | f+1,acc,s=>
  if s.e≠0 then some (acc,s)
  else if bM ts 0 s then some (acc,s)
  else (eY src ts f s).bind λr=>dR f (acc++[r.1]) r.2
end
inductive zG where
 | good (nodes:List aF) (fns:List aG)
 | bad (p e:Nat)
def gP (ts:List Tok):Nat:=40*ts.length+100
def qA (src:List UInt8) (ts:List Tok):Option zG:=
 (dR src ts (gP ts) [] ⟨0,[],0,0,0⟩).map λr=>
   if r.2.e≠0 then .bad r.2.place r.2.e
   else if 300<r.2.nodes.length∨6<r.1.length∨r.1.any (λf=>decide (3<f.params.length))=true then .bad 0 4
   else .good r.2.nodes r.1
def parseM (src:List UInt8):Option zG:=
 match wM src with
 | .bad p e=>some (.bad p e)
 | .good ts=>qA src ts
structure Ext (s t:PS):Prop where
 i:s.i<=t.i
 err:s.e≠0->t.e=s.e∧t.place=s.place
 nodes:∃x,t.nodes=s.nodes++x
section
variable {src:List UInt8}{ts:List Tok}{s t u:PS}
theorem Ext.refl (s:PS):Ext s s:=⟨aA1 _,λ_=>⟨rfl,rfl⟩,[],by simp⟩
theorem Ext.trans (h:Ext s t) (g:Ext t u):Ext s u:=by
 refine⟨Nat.le_trans h.i g.i,λhe=>?_,?_⟩
 . obtain⟨a1,a2⟩:=h.err he
   obtain⟨b1,b2⟩:=g.err (by rw[a1];exact he);exact⟨b1.trans a1,b2.trans a2⟩
 . obtain⟨x,hx⟩:=h.nodes
   obtain⟨y,hy⟩:=g.nodes;exact⟨x++y,by rw[hy,hx,List.append_assoc]⟩
theorem Ext.fail (h:Ext s t) (k:Nat):Ext s (aR ts k t):=by
 refine h.trans ?_;unfold aR;split
 . rename_i h0;exact⟨aA1 _,λhe=>absurd h0 he,[],by simp⟩
 . exact Ext.refl _
theorem Ext.go (h:Ext s t):Ext s (pGo t):=h.trans ⟨Nat.le_succ _,λ_=>⟨rfl,rfl⟩,[],by simp[pGo]⟩
theorem Ext.up (h:Ext s t):Ext s (pUp t):=h.trans ⟨aA1 _,λ_=>⟨rfl,rfl⟩,[],by simp[pUp]⟩
theorem Ext.down (h:Ext s t):Ext s (aX ts t):=by
 unfold aX;simp only;split
 . exact (h.fail (ts:=ts) 21).trans ⟨aA1 _,λ_=>⟨rfl,rfl⟩,[],by simp⟩
 . exact h.trans ⟨aA1 _,λ_=>⟨rfl,rfl⟩,[],by simp⟩
theorem Ext.must (h:Ext s t) (x:List UInt8):Ext s (aA ts x t):=by
 unfold aA;split
 . exact h.go
 . exact h.fail _
theorem Ext.named (h:Ext s t):Ext s (aI ts t):=by
 unfold aI;split
 . exact h.go
 . exact h.fail _
theorem Ext.typed (h:Ext s t):Ext s (cO ts t):=by
 unfold cO;split
 . exact h.fail _
 . exact h.go
theorem Ext.put (h:Ext s t) (kind line n:Nat) (name:List UInt8) (l:List Nat):Ext s (bR kind line n name l t).2:=
 h.trans ⟨aA1 _,λ_=>⟨rfl,rfl⟩,[⟨kind,line,n,name,l⟩],rfl⟩
theorem xG (h:(bI ts s).kind≠0):s.i<ts.length:=by
 by_cases hl:s.i<ts.length
 . exact hl
 . refine absurd ?_ h
   unfold bI;rw[List.getD,List.getElem?_eq_none (by omega)];rfl
theorem aM (h:pIs ts x s=true):s.e=0∧(bI ts s).kind≠0∧(bI ts s).text=x:=by
 unfold pIs at h;simp at h
 exact⟨h.1.1,by omega,h.2⟩
theorem aIp (h:pIs ts x s=true):s.i<ts.length:=xG (aM h).2.1
theorem aW (h:bM ts k s=true):s.e=0∧(bI ts s).kind=k:=by
 unfold bM at h;simpa using h
theorem aAl (h:gG ts s=true):bM ts 3 s=true:=by
 unfold gG at h;simp at h
 exact h.1
theorem oW (hx:x≠[]) (h:bQ ts s=x):s.e=0∧(bI ts s).kind=4:=by
 unfold bQ at h;split at h
 . rename_i hk;exact aW hk
 . exact absurd h.symm hx
theorem aEr {lv:Nat} (h:fQ ts lv s≠[]):s.e=0∧s.i<ts.length:=by
 unfold fQ at h;cases hf:(dQ lv).find? λx=>pIs ts x s with
 | none=>rw[hf] at h;simp at h
 | some x=>
  have:=List.find?_some hf;exact⟨(aM this).1,aIp this⟩
theorem aK:∀(n:Nat) (k:Task) (s:PS) (r:List Nat×PS),run src ts n k s=some r->Ext s r.2:=by
 intro n;induction n with
 | zero=>intro k s r h;simp[run] at h
 | succ n ih=>
  intro k s r h;cases k<;>simp only[run] at h<;>
   (repeat' split at h)<;>
   (try simp only[mS,bS,aA0] at h)<;>
   (try (obtain⟨q1,h1,h⟩:=h))<;>
   (repeat' split at h)<;>
   (try simp only[mS,bS,aA0] at h)<;>
   (try (obtain⟨q2,h2,h⟩:=h))<;>
   (repeat' split at h)<;>
   (try simp only[mS,bS,aA0] at h)<;>
   (try (obtain⟨q3,h3,h⟩:=h))<;>
   (try subst h)<;>
   (try subst h1)<;>
   (repeat (first
     | exact Ext.refl _
     | apply Ext.put
     | apply Ext.up
     | apply Ext.must
     | apply Ext.named
     | apply Ext.typed
     | apply Ext.go
     | apply Ext.down
     | apply Ext.fail
     | refine Ext.trans ?_ (ih _ _ _ (by assumption))
     | dsimp only))
def rem (ts:List Tok) (s:PS):Nat:=if s.e=0 then 16*(ts.length - s.i) else 0
theorem eG (h:Ext s t):rem ts t<=rem ts s:=by
 unfold rem;have hi:=h.i;by_cases h0:s.e=0
 . rw[if_pos h0];split<;>omega
 . rw[if_neg h0,if_neg (by rw[(h.err h0).1];exact h0)];omega
theorem uO (h0:s.e=0) (hi:s.i<ts.length) (h:Ext (pGo s) t):rem ts t+16<=rem ts s:=by
 have h1:rem ts t<=rem ts (pGo s):=eG h;have h2:rem ts (pGo s)=16*(ts.length - (s.i+1)):=by unfold rem;rw[if_pos (show (pGo s).e=0 from h0)];rfl
 have h3:rem ts s=16*(ts.length - s.i):=by unfold rem;rw[if_pos h0]
 omega
theorem uN (hx:pIs ts x s=true) (h:Ext (pGo s) t):rem ts t+16<=rem ts s:=uO (aM hx).1 (aIp hx) h
theorem vW (hx:pIs ts x s=true):rem ts (aA ts x (aX ts s))+16<=rem ts s:=by
 have h0:=(aM hx).1;have hi:=aIp hx;have h3:rem ts s=16*(ts.length - s.i):=by unfold rem;rw[if_pos h0]
 unfold aX;by_cases hd:16<=s.deep
 . have he:(aX ts s).e=21:=by
    unfold aX aR;simp only;rw[if_pos hd,if_pos h0]
   have e1:=((Ext.refl (aX ts s)).must (ts:=ts) x).err (by rw[he];decide);have:rem ts (aA ts x (aX ts s))=0:=by
    unfold rem;rw[if_neg (by rw[e1.1,he];decide)]
   unfold aX at this;rw[this];omega
 . simp only
   rw[if_neg hd];have h4:pIs ts x { s with deep:=s.deep+1 }=true:=hx;unfold aA;rw[if_pos h4];have:rem ts (pGo { s with deep:=s.deep+1 })=16*(ts.length - (s.i+1)):=by
    unfold rem;rw[if_pos (show (pGo { s with deep:=s.deep+1 }).e=0 from h0)];rfl
   omega
def cost:Task->Nat
 | .atom=>1 | .factor=>2 | .chain lv=>8 - lv | .more _ _ _=>2 | .args _=>9 | .call=>10 | .right=>11 | .named _=>12 | .stmt=>13 | .stmts _=>14 | .block=>15
def gH:Task->Prop
 | .chain lv=>lv<=5
 | .more lv _ _=>lv<=4
 | _=>True
theorem sQ (s:PS):Ext (pGo s) (pGo (aX ts s)):=by
 have h:=(Ext.refl s).down (ts:=ts);exact⟨Nat.succ_le_succ h.i,λhe=>h.err he,h.nodes⟩
theorem aIw {line:Nat} (h:run src ts n (.named line) s=some r) (hc:gG ts s=false):Ext (aI ts s) r.2:=by
 cases n with
 | zero=>simp[run] at h
 | succ n=>
  simp only[run] at h;rw[if_neg (by rw[hc];simp)] at h;split at h
  focus
   simp only[mS,bS] at h
   obtain⟨q1,h1,q2,h2,h⟩:=h
  rotate_left
  focus
   simp only[mS] at h
   obtain⟨q1,h1,h⟩:=h
  all_goals
   subst h
   (repeat (first
     | exact Ext.refl _
     | apply Ext.put
     | apply Ext.up
     | apply Ext.must
     | (refine Ext.trans ?_ (aK _ _ _ _ (by assumption)))
     | apply Ext.named
     | apply Ext.typed
     | apply Ext.go
     | apply Ext.down
     | apply Ext.fail
     | dsimp only))
theorem aNr (h:run src ts n .call s=some r):Ext (aI ts s) r.2:=by
 cases n with
 | zero=>simp[run] at h
 | succ n=>
  simp only[run] at h;split at h<;>
   simp only[mS,aA0] at h<;>
   obtain⟨q1,h1,h⟩:=h<;>
   subst h<;>
   (try subst h1)<;>
   (repeat (first
     | exact Ext.refl _
     | apply Ext.put
     | apply Ext.up
     | apply Ext.must
     | (refine Ext.trans ?_ (aK _ _ _ _ (by assumption)))
     | apply Ext.named
     | apply Ext.typed
     | apply Ext.go
     | apply Ext.down
     | apply Ext.fail
     | dsimp only))
theorem uY (h:Ext (aI ts s) t) (h0:s.e=0):t.e≠0∨rem ts t+16<=rem ts s:=by
 unfold aI at h;by_cases hk:bM ts 3 s=true
 . rw[if_pos hk] at h
   exact .inr (uO h0 (xG (by rw[(aW hk).2];decide)) h)
 . rw[if_neg hk] at h
   left
   have he:(aR ts 20 s).e=20:=by unfold aR;rw[if_pos h0]
   rw[(h.err (by rw[he];decide)).1,he];decide
theorem aGq (h:run src ts n .stmt s=some r) (h0:s.e=0):r.2.e≠0∨rem ts r.2+16<=rem ts s:=by
 cases n with
 | zero=>simp[run] at h
 | succ n=>
  have word:∀x,x≠[]->bQ ts s=x->Ext (pGo s) r.2->rem ts r.2+16<=rem ts s:=λx hx hw he=>by
    obtain⟨_,hk4⟩:=oW hx hw;exact uO h0 (xG (by rw[hk4];decide)) he
  simp only[run] at h;split at h
  . rename_i hw
    refine .inr (word _ (by decide) hw ?_);simp only[mS] at h;obtain⟨q1,h1,h⟩:=h;subst h
    (repeat (first
      | exact Ext.refl _
      | apply Ext.put
      | apply Ext.up
      | apply Ext.must
      | (refine Ext.trans ?_ (aK _ _ _ _ (by assumption)))
      | apply Ext.named
      | apply Ext.typed
      | apply Ext.go
      | apply Ext.down
      | apply Ext.fail
      | dsimp only))
  . split at h
    . rename_i hw
      refine .inr (word _ (by decide) hw ?_);simp only[mS] at h;obtain⟨q1,h1,h⟩:=h;subst h
      (repeat (first
      | exact Ext.refl _
      | apply Ext.put
      | apply Ext.up
      | apply Ext.must
      | (refine Ext.trans ?_ (aK _ _ _ _ (by assumption)))
      | apply Ext.named
      | apply Ext.typed
      | apply Ext.go
      | apply Ext.down
      | apply Ext.fail
      | dsimp only))
    . split at h
      . rename_i hw
        refine .inr (word _ (by decide) hw ?_);simp only[mS,bS] at h;obtain⟨q1,h1,q2,h2,h⟩:=h;subst h
        (repeat (first
      | exact Ext.refl _
      | apply Ext.put
      | apply Ext.up
      | apply Ext.must
      | (refine Ext.trans ?_ (aK _ _ _ _ (by assumption)))
      | apply Ext.named
      | apply Ext.typed
      | apply Ext.go
      | apply Ext.down
      | apply Ext.fail
      | dsimp only))
      . split at h
        . rename_i hw
          refine .inr (word _ (by decide) hw ?_);simp only[bS] at h;obtain⟨q1,h1,q2,h2,h⟩:=h;split at h
          . simp only[mS] at h
            obtain⟨q3,h3,h⟩:=h;subst h
            (repeat (first
      | exact Ext.refl _
      | apply Ext.put
      | apply Ext.up
      | apply Ext.must
      | (refine Ext.trans ?_ (aK _ _ _ _ (by assumption)))
      | apply Ext.named
      | apply Ext.typed
      | apply Ext.go
      | apply Ext.down
      | apply Ext.fail
      | dsimp only))
          . simp only[aA0] at h
            subst h
            (repeat (first
      | exact Ext.refl _
      | apply Ext.put
      | apply Ext.up
      | apply Ext.must
      | (refine Ext.trans ?_ (aK _ _ _ _ (by assumption)))
      | apply Ext.named
      | apply Ext.typed
      | apply Ext.go
      | apply Ext.down
      | apply Ext.fail
      | dsimp only))
        . split at h
          . rename_i hw
            refine .inr (word _ (by decide) hw ?_);split at h
            . simp only[aA0] at h
              subst h
              (repeat (first
      | exact Ext.refl _
      | apply Ext.put
      | apply Ext.up
      | apply Ext.must
      | (refine Ext.trans ?_ (aK _ _ _ _ (by assumption)))
      | apply Ext.named
      | apply Ext.typed
      | apply Ext.go
      | apply Ext.down
      | apply Ext.fail
      | dsimp only))
            . simp only[mS] at h
              obtain⟨q1,h1,h⟩:=h;subst h
              (repeat (first
      | exact Ext.refl _
      | apply Ext.put
      | apply Ext.up
      | apply Ext.must
      | (refine Ext.trans ?_ (aK _ _ _ _ (by assumption)))
      | apply Ext.named
      | apply Ext.typed
      | apply Ext.go
      | apply Ext.down
      | apply Ext.fail
      | dsimp only))
          . by_cases hc:gG ts s=true
            . cases n with
              | zero=>simp[run] at h
              | succ n=>
                simp only[run] at h;rw[if_pos hc] at h;simp only[mS] at h;obtain⟨q1,h1,h⟩:=h;subst h;exact uY (((aNr h1).must _).put _ _ _ _ _) h0
            . exact uY (aIw h (by simpa using hc)) h0
theorem aBv:∀(n:Nat) (k:Task) (s:PS),gH k->rem ts s+cost k<=n->∃r,run src ts n k s=some r:=by
 intro n;induction n with
 | zero=>intro k s hk h;cases k<;>simp[cost] at h<;>(simp[gH] at hk)<;>omega
 | succ n ih=>
  intro k s hk h;cases k with
  | atom=>
   simp only[cost] at h;simp only[run];split
   . exact⟨_,rfl⟩
   . rename_i h0
     have h0:s.e=0:=by simpa using h0
     split
     . exact⟨_,rfl⟩
     . split
       . exact⟨_,rfl⟩
       . split
         . rename_i hk3
           split
           . rename_i hx
             have hr:=vW hx;have hg:=uO (ts:=ts) h0 (xG (by rw[hk3];decide)) (Ext.refl (pGo s));obtain⟨q,hq⟩:=ih (.chain 0) (aA ts [91] (aX ts (pGo s))) (by simp[gH]) (by simp only[cost];omega);rw[hq];exact⟨_,rfl⟩
           . exact⟨_,rfl⟩
         . split
           . exact⟨_,rfl⟩
           . split
             . exact⟨_,rfl⟩
             . split
               . rename_i hl
                 split
                 . rename_i hx
                   have hr:=vW hx;have hg:=uN hl (Ext.refl (pGo s));obtain⟨q,hq⟩:=ih (.chain 0) (aA ts [40] (aX ts (pGo s))) (by simp[gH]) (by simp only[cost];omega);rw[hq];exact⟨_,rfl⟩
                 . exact⟨_,rfl⟩
               . split
                 . rename_i hx
                   have hr:=vW hx;obtain⟨q,hq⟩:=ih (.chain 0) (aA ts [40] (aX ts s)) (by simp[gH]) (by simp only[cost];omega);rw[hq];exact⟨_,rfl⟩
                 . exact⟨_,rfl⟩
  | factor=>
   simp only[cost] at h;simp only[run];split
   . rename_i hx
     have hg:=uN hx (sQ (ts:=ts) s);obtain⟨q,hq⟩:=ih .factor (pGo (aX ts s)) trivial (by simp only[cost];omega);rw[hq];exact⟨_,rfl⟩
   . split
     . rename_i hx
       have hg:=uN hx (sQ (ts:=ts) s);obtain⟨q,hq⟩:=ih .factor (pGo (aX ts s)) trivial (by simp only[cost];omega);rw[hq];exact⟨_,rfl⟩
     . exact ih .atom s trivial (by simp only[cost];omega)
  | chain lv=>
   simp only[gH] at hk;simp only[cost] at h;simp only[run];split
   . exact ih .factor s trivial (by simp only[cost];omega)
   . obtain⟨q,hq⟩:=ih (.chain (lv+1)) s (by simp only[gH];omega) (by simp only[cost];omega)
     rw[hq];have he:=eG (ts:=ts) (aK _ _ _ _ hq);exact ih (.more lv _ _) q.2 (by simp only[gH];omega) (by simp only[cost];omega)
  | more lv line x=>
   simp only[gH] at hk;simp only[cost] at h;simp only[run];split
   . exact⟨_,rfl⟩
   . rename_i hx
     obtain⟨h0,hi⟩:=aEr hx;have hg:=uO (ts:=ts) h0 hi (Ext.refl (pGo s));obtain⟨q,hq⟩:=ih (.chain (lv+1)) (pGo s) (by simp only[gH];omega) (by simp only[cost];omega);rw[hq];have he:=eG (ts:=ts) (aK _ _ _ _ hq);simp only[Option.bind_some];split
     . exact⟨_,rfl⟩
     . have hp:=eG (ts:=ts) ((Ext.refl q.2).put 9 line 0 (fQ ts lv s) [x,q.1.headD 0])
       exact ih (.more lv line _) _ (by simp only[gH];omega) (by simp only[cost];omega)
  | args l=>
   simp only[cost] at h;simp only[run];obtain⟨q,hq⟩:=ih (.chain 0) s (by simp[gH]) (by simp only[cost];omega);rw[hq];have he:=eG (ts:=ts) (aK _ _ _ _ hq);simp only[Option.bind_some];split
   . rename_i hx
     have hg:=uN hx (Ext.refl (pGo q.2));exact ih (.args _) _ trivial (by simp only[cost];omega)
   . exact⟨_,rfl⟩
  | call=>
   simp only[cost] at h;simp only[run];have he:=eG (ts:=ts) (((Ext.refl s).named (ts:=ts)).must (ts:=ts) [40]);split
   . obtain⟨q,hq⟩:=ih (.args []) (aA ts [40] (aI ts s)) trivial (by simp only[cost];omega)
     rw[hq];exact⟨_,rfl⟩
   . exact⟨_,rfl⟩
  | right=>
   simp only[cost] at h;simp only[run];split
   . exact⟨_,rfl⟩
   . split
     . have he:=eG (ts:=ts) (((Ext.refl s).go).must (ts:=ts) [40])
       obtain⟨q,hq⟩:=ih (.chain 0) (aA ts [40] (pGo s)) (by simp[gH]) (by simp only[cost];omega);rw[hq];exact⟨_,rfl⟩
     . split
       . exact ih .call s trivial (by simp only[cost];omega)
       . exact ih (.chain 0) s (by simp[gH]) (by simp only[cost];omega)
  | block=>
   simp only[cost] at h;simp only[run];split
   . have he:=eG (ts:=ts) (((Ext.refl s).down (ts:=ts)).must (ts:=ts) [123])
     obtain⟨q,hq⟩:=ih (.stmts []) (aA ts [123] (aX ts s)) trivial (by simp only[cost];omega);rw[hq];exact⟨_,rfl⟩
   . exact⟨_,rfl⟩
  | stmts l=>
   simp only[cost] at h;simp only[run];split
   . exact⟨_,rfl⟩
   . rename_i h0
     have h0:s.e=0:=by simpa using h0
     split
     . exact⟨_,rfl⟩
     . obtain⟨q,hq⟩:=ih .stmt s trivial (by simp only[cost];omega)
       rw[hq];simp only[Option.bind_some];by_cases hq0:q.2.e=0
       . have hg:=(aGq hq h0).resolve_left (λx=>x hq0)
         exact ih (.stmts _) _ trivial (by simp only[cost];omega)
       . cases n with
         | zero=>omega
         | succ n=>exact⟨(l++q.1,q.2),by simp only[run];rw[if_pos hq0]⟩
  | named line=>
   simp only[cost] at h;simp only[run];split
   . obtain⟨q,hq⟩:=ih .call s trivial (by simp only[cost];omega)
     rw[hq];exact⟨_,rfl⟩
   . split
     . have he:=eG (ts:=ts) ((((Ext.refl s).named (ts:=ts)).down (ts:=ts)).must (ts:=ts) [91])
       obtain⟨q,hq⟩:=ih (.chain 0) (aA ts [91] (aX ts (aI ts s))) (by simp[gH]) (by simp only[cost];omega);rw[hq];have he2:=eG (ts:=ts) (((aK _ _ _ _ hq).must (ts:=ts) [93]).up.must (ts:=ts) [61]);obtain⟨q2,hq2⟩:=ih (.chain 0) (aA ts [61] (pUp (aA ts [93] q.2))) (by simp[gH]) (by simp only[cost];omega);simp only[Option.bind_some];rw[hq2];exact⟨_,rfl⟩
     . have he:=eG (ts:=ts) (((Ext.refl s).named (ts:=ts)).must (ts:=ts) [61])
       obtain⟨q,hq⟩:=ih .right (aA ts [61] (aI ts s)) trivial (by simp only[cost];omega);rw[hq];exact⟨_,rfl⟩
  | stmt=>
   simp only[cost] at h;simp only[run];have goes:∀x,x≠[]->bQ ts s=x->rem ts (pGo s)+16<=rem ts s:=λx hx hw=>by
     obtain⟨h0,hk4⟩:=oW hx hw;exact uO h0 (xG (by rw[hk4];decide)) (Ext.refl _)
   split
   . rename_i hw
     have hg:=goes _ (by decide) hw;have he:=eG (ts:=ts) (((Ext.refl (pGo s)).named (ts:=ts)).must (ts:=ts) [61]);obtain⟨q,hq⟩:=ih .right (aA ts [61] (aI ts (pGo s))) trivial (by simp only[cost];omega);rw[hq];exact⟨_,rfl⟩
   . split
     . rename_i hw
       have hg:=goes _ (by decide) hw;obtain⟨q,hq⟩:=ih (.chain 0) (pGo s) (by simp[gH]) (by simp only[cost];omega);rw[hq];exact⟨_,rfl⟩
     . split
       . rename_i hw
         have hg:=goes _ (by decide) hw;obtain⟨q,hq⟩:=ih (.chain 0) (pGo s) (by simp[gH]) (by simp only[cost];omega);rw[hq];have he:=eG (ts:=ts) (aK _ _ _ _ hq);obtain⟨b,hb⟩:=ih .block q.2 trivial (by simp only[cost];omega);simp only[Option.bind_some];rw[hb];exact⟨_,rfl⟩
       . split
         . rename_i hw
           have hg:=goes _ (by decide) hw;obtain⟨q,hq⟩:=ih (.chain 0) (pGo s) (by simp[gH]) (by simp only[cost];omega);rw[hq];have he:=eG (ts:=ts) (aK _ _ _ _ hq);obtain⟨b,hb⟩:=ih .block q.2 trivial (by simp only[cost];omega);simp only[Option.bind_some];rw[hb];have he2:=eG (ts:=ts) (aK _ _ _ _ hb);simp only[Option.bind_some];split
           . have he3:=eG (ts:=ts) ((Ext.refl b.2).go)
             obtain⟨c,hc⟩:=ih .block (pGo b.2) trivial (by simp only[cost];omega);rw[hc];exact⟨_,rfl⟩
           . exact⟨_,rfl⟩
         . split
           . rename_i hw
             have hg:=goes _ (by decide) hw;split
             . exact⟨_,rfl⟩
             . obtain⟨q,hq⟩:=ih (.chain 0) (pGo s) (by simp[gH]) (by simp only[cost];omega)
               rw[hq];exact⟨_,rfl⟩
           . exact ih (.named _) s trivial (by simp only[cost];omega)
end
theorem aOn:wY prog 23 50 5 64 (.agg #[U0,U0,U0,.string ⟨#[]⟩,Un]):=wY.mk' (by kernel_rfl) (by kernel_rfl) rfl (by decide)
def aKv (w:World) (k:Nat):Prop:=∃cs f,w.heap[k]?=some (.cells cs 50 f)
def FrR (g:Nat) (w w':World):Prop:=Fr (λk=>k=g∨(g<k∧aKv w k)) w w'
theorem FrR.trans {w1 w2:World} (h:FrR g w w1) (h2:FrR g w1 w2):FrR g w w2:=by
 refine Fr.trans h h2 (λ_ _ x=>x) (λk hk hM=>?_);rcases hM with rfl|⟨hgk,cs,f,hc⟩
 . exact .inl rfl
 . by_cases hn:k=g∨(g<k∧aKv w k)
   . exact hn
   . have:=h.block k hk hn
     exact .inr ⟨hgk,cs,f,by rw[<-this];exact hc⟩
theorem FrR.no {w1:World} (h:Fr nob w w1):FrR g w w1:=Fr.aGf h
theorem FrR.blk {b t:Nat}{cs:Array Value}{w':World} (h:FrR g w w') (hb:Blk w b t cs) (h1:b≠g) (h2:t≠50):Blk w' b t cs:=by
 refine hb.fr h ?_;rintro (e|⟨_,cs',f,hc⟩)
 . exact h1 e
 . unfold Blk at hb
   rw[hb] at hc;injection hc with hc;injection hc with _ ht;exact h2 ht
def lF (n:aF) (lv:Value):List Value:=[n.kind,n.line,n.n,bs n.name,lv]
def cB:List aF->List Value->List Value
 | n :: ns,v :: vs=>lF n v++cB ns vs
 | _,_=>[]
theorem gQ:∀(ns:List aF) (vs:List Value) (n:aF) (v:Value),ns.length=vs.length->cB (ns++[n]) (vs++[v])=cB ns vs++lF n v
 | [],[],n,v,_=>by simp[cB]
 | [],_ :: _,_,_,h=>by simp at h
 | _ :: _,[],_,_,h=>by simp at h
 | a :: ns,b :: vs,n,v,h=>by
  rw[List.cons_append,List.cons_append,cB,gQ ns vs n v (by simpa using h),cB,List.append_assoc]
def ints (l:List Nat):List Value:=l.map λ(x:Nat)=>Value.int .i64 (x:Int)
def bD (w:World):List aF->List Value->Prop
 | [],[]=>True
 | n :: ns,v :: vs=>Own w 3 1 v n.l.length (ints n.l)∧bD w ns vs
 | _,_=>False
structure dF (ts:List Tok):Prop where
 pos:0<ts.length
 few:ts.length<=1000
 at_:∀t∈ts,t.kind<=5∧t.place<=1000
 last:(ts.getD (ts.length - 1) aDa).kind=0
 nums:∀t∈ts,t.kind=1->t.text≠[]∧dK t.text∧aO 0 t.text<=9223372036854775807
 short:∀t∈ts,t.text.length<=1000
structure dA (ts:List Tok) (s:PS):Prop where
 room:s.i<ts.length
 deep:s.deep<=17
 fine:s.e=0->s.deep<=16
 err:s.e<=21
 place:s.place<=1000
structure Rdr (src:ByteArray) (tb tc:Nat) (ts:List Tok) (g:Nat) (lvs:List Value) (w:World) (s:PS):Prop where
 cells:∃nv,Blk w g 88 #[src,(tb,ts.length,tc),s.i,nv,s.deep,s.e,s.place]∧Own w 50 5 nv s.nodes.length (cB s.nodes lvs)
 below:bD w s.nodes lvs
 same:s.nodes.length=lvs.length
 toks:∃b0,zF b0 w (tb,ts.length,tc) ts
 newer:∀nv,w.cell? (g,3)=some nv->∀k,blk nv=some k->g<k
section
variable {src:ByteArray}{tb tc:Nat}{ts:List Tok}{g:Nat}{lvs:List Value}{w w':World}{s:PS}
theorem bD.no:∀{ns:List aF}{vs:List Value},bD w ns vs->Fr nob w w'->bD w' ns vs
 | [],[],_,_=>trivial
 | [],_ :: _,h,_=>h.elim
 | _ :: _,[],h,_=>h.elim
 | _ :: _,_ :: _,h,f=>⟨h.1.fr f (λ_ _ x=>x),bD.no h.2 f⟩
theorem Rdr.no (h:Rdr src tb tc ts g lvs w s) (f:Fr nob w w'):Rdr src tb tc ts g lvs w' s:=by
 obtain⟨nv,hb,ho⟩:=h.cells;obtain⟨b0,ht⟩:=h.toks;exact⟨⟨nv,hb.fr f (λx=>x),ho.fr f (λ_ _ x=>x)⟩,h.below.no f,h.same,⟨b0,ht.no f⟩,λnv h1=>h.newer nv (by rw[<-f.cell (p:=(g,U3)) hb.lt (λx=>x)];exact h1)⟩
theorem Rdr.tok (h:Rdr src tb tc ts g lvs w s) (hk:dA ts s):ts[s.i]?=some (bI ts s)∧tb<w.heap.size ∧
  w.cell? (tb,s.i*3)=(bI ts s).kind∧w.cell? (tb,s.i*3+1)=(bs (bI ts s).text)∧w.cell? (tb,s.i*3+2)=(bI ts s).place:=by
 obtain⟨b0,ht⟩:=h.toks;have hi:ts[s.i]?=some (bI ts s):=by
  unfold bI;rw[List.getD,gE hk.room];rfl
 obtain⟨g2,hg,_,hlt,hat⟩:=ht.some (by have:=hk.room;omega);injection hg with hg;injection hg with hg;subst hg;exact⟨hi,hlt,hat s.i _ hi⟩
end
theorem qR {src:ByteArray}{tb tc:Nat}{ts:List Tok}{lvs:List Value}{s:PS} (h:Rdr src tb tc ts g lvs w s) (hk:dA ts s) (k:Nat):
   Calls prog 56 #[(g,()),k] w λe w'=>e = .returned (bM ts k s)∧Fr nob w w':=by
 obtain⟨nv,hb,ho⟩:=h.cells;obtain⟨hi,htb,x0,x1,x2⟩:=h.tok hk;have c1:=hb.cell 1;have c2:=hb.cell 2;have c5:=hb.cell 5;have hr:(s.i:Int)<(ts.length:Int):=by have:=hk.room;omega
 unfold bM;clear x1 x2 hi ho hb h hk;simp at c1 c2 c5
 generalize (bI ts s).kind=tk at *;by_cases he:s.e=0
 case' neg=>
  have heb:((s.e:Int)==0)=false:=bN.2 (by omega)
  rw[decide_eq_false he,Bool.false_and];clear he
 case' pos=>
  have heb:((s.e:Int)==0)=true:=by rw[he];rfl
  rw[decide_eq_true he,Bool.true_and];clear he;by_cases h2:tk=k
  case' pos=>
   have h2b:((tk:Int)==(k:Int))=true:=by rw[h2];simp
   rw[decide_eq_true h2]
  case' neg=>
   have h2b:((tk:Int)==(k:Int))=false:=bN.2 (by omega)
   rw[decide_eq_false h2]
  all_goals
   clear h2
 all_goals
  go_enter func56,ntmps56;go_wp2
  go_quiet (fail)
  go_wp2
  go_ret;exact⟨rfl,(fR w).drewN _⟩
theorem aJg {src:ByteArray}{tb tc:Nat}{ts:List Tok}{lvs:List Value}{s:PS} (h:Rdr src tb tc ts g lvs w s) (hk:dA ts s) (X:ByteArray):
   Calls prog 91 #[(g,()),X] w λe w'=>e = .returned (pIs ts X.data.toList s)∧Fr nob w w':=by
 obtain⟨nv,hb,ho⟩:=h.cells;obtain⟨hi,htb,x0,x1,x2⟩:=h.tok hk;have hg:=hb.lt;have c1:=hb.cell 1;have c2:=hb.cell 2;have c5:=hb.cell 5;have hr:(s.i:Int)<(ts.length:Int):=by have:=hk.room;omega
 have hx:(bs (bI ts s).text).toList=(bI ts s).text:=by rw[ByteArray.toList_eq];rfl
 have hX:X.toList=X.data.toList:=ByteArray.toList_eq X;unfold pIs;clear hi ho hb h hk;simp at c1 c2 c5
 generalize (bI ts s).kind=tk at *;generalize (bI ts s).place=tp at *;generalize (bI ts s).text=tt at *;generalize hbt:bs tt=bt at *;have n1:=World.new_ne w (g,U1) c1;have n2:=World.new_ne w (tb,s.i*3) x0;obtain⟨R,hR⟩:∃R,(decide (s.e=0) && (decide (tk=5) || decide (tk=4)) && decide (tt=X.data.toList))=R:=⟨_,rfl⟩;rw[hR];have HR:=hD hR;have HX:=hD hx;have HX2:=hD hX;clear hR;clear hx hX hbt;go_enter func91,ntmps91;go_wp2
 go_region_held3 (λwx=>wx.cell? (g,1)=(tb,ts.length,tc)∧wx.cell? (g,2)=s.i∧wx.cell? (g,5)=s.e∧wx.cell? (tb,s.i*3)=tk∧wx.cell? (tb,s.i*3+1)=bt∧wx.cell? (tb,s.i*3+2)=tp) (go_keep) (first|fail)
 have FR:Hd (Fr nob w (w.alloc (.cells #[tk,bt,tp] 115)).drew):=((fR w).alloc _).drew;clear c1 c2 x0 x1 x2 n1 n2;by_cases he:s.e=0
 . have heb:((s.e:Int)==0)=true:=by rw[he];rfl
   by_cases hT:tt=X.data.toList
   case' pos=>have htb:(bt.toList==X.toList)=true:=by rw[HX.o,HX2.o,hT];simp
   case' neg=>have htb:(bt.toList==X.toList)=false:=by rw[HX.o,HX2.o];exact bN.2 hT
   all_goals
    by_cases h5:tk=5
    . have h5b:((tk:Int)==5)=true:=by rw[h5];rfl
      obtain⟨b,hb⟩:∃b,decide (tt=X.data.toList)=b:=⟨_,rfl⟩;have hRb:R=b:=by rw[<-HR.o,decide_eq_true he,decide_eq_true h5,hb];rfl
      first|(rw[decide_eq_true hT] at hb)|(rw[decide_eq_false hT] at hb)
      subst hb;subst hRb;clear h5 hT he;go_wp2
      go_ret;exact⟨rfl,FR⟩
    . have h5b:((tk:Int)==5)=false:=bN.2 (by omega)
      by_cases h4:tk=4
      . have h4b:((tk:Int)==4)=true:=by rw[h4];rfl
        obtain⟨b,hb⟩:∃b,decide (tt=X.data.toList)=b:=⟨_,rfl⟩;have hRb:R=b:=by rw[<-HR.o,decide_eq_true he,decide_eq_false h5,decide_eq_true h4,hb];rfl
        first|(rw[decide_eq_true hT] at hb)|(rw[decide_eq_false hT] at hb)
        subst hb;subst hRb;clear h5 h4 hT he;go_wp2
        go_ret;exact⟨rfl,FR⟩
      . have h4b:((tk:Int)==4)=false:=bN.2 (by omega)
        have hRb:R=false:=by rw[<-HR.o,decide_eq_true he,decide_eq_false h5,decide_eq_false h4];rfl
        subst hRb;clear h5 h4 hT he;go_wp2
        go_ret;exact⟨rfl,FR⟩
 . have heb:((s.e:Int)==0)=false:=bN.2 (by omega)
   have hRb:R=false:=by rw[<-HR.o,decide_eq_false he];rfl
   subst hRb;clear he;go_wp2
   go_ret;exact⟨rfl,FR⟩
end Go.Proofs.YtlbjicjinnnboaaGreatDoor
