/- MmB: RE, RF, RG, RH, RI, PModel, PTotal, PMem, PSmall, PStep, PStepB, PStepC, PStepD. -/
import Derived.Test.YtlbjicjinnnboaaGreatDoorMmA
import Derived.Lib.IndexBytes
import Derived.StillTailTactics
set_option maxHeartbeats 8000000
set_option maxRecDepth 100000
set_option linter.unusedVariables false
set_option linter.unusedSimpArgs false
/- The reference's text. -/
namespace Go.Proofs.YtlbjicjinnnboaaGreatDoor
open Go.RowKit
def rP (l:List UInt8) (at_:Nat):Ending:=match lC (l.drop at_) with
 | .ok _ _ m n=> .returned (.tuple #[.string (bs ((l.drop (at_+1)).take m)),.int .i64 ((at_+n:Nat):Int),.int .i64 0])
 | .err e=> .returned (.tuple #[.string ⟨#[]⟩,.int .i64 at_,.int .i64 e])
theorem pV (l:List UInt8) (at_ m:Nat) (h1:at_<l.length) (hm:runN bU (l.drop (at_+1))=m - (at_+1)) (hm2:at_+1≤m) (h:l.length≤m∨aT l m≠34):
   rP l at_ = .returned (.tuple #[.string ⟨#[]⟩,.int .i64 at_,.int .i64 11]):=by
 unfold rP lC;rw[List.drop_drop,hm,if_pos]
 · rfl
 · rw[fB,List.length_drop,show at_+(m - (at_+1)+1)=m by omega]
   rcases h with h|h
   · exact .inl (by omega)
   · exact .inr h
theorem aKi (l:List UInt8) (at_ m:Nat) (h1:at_<l.length) (hm:runN bU (l.drop (at_+1))=m - (at_+1)) (hm2:at_+1≤m) (hm3:m<l.length) (h:aT l m=34):
   rP l at_=if 12<m - (at_+1) then .returned (.tuple #[.string ⟨#[]⟩,.int .i64 at_,.int .i64 4])
     else .returned (.tuple #[.string (bs ((l.drop (at_+1)).take (m - (at_+1)))),.int .i64 ((m+1:Nat):Int),.int .i64 0]):=by
 unfold rP lC;rw[List.drop_drop,hm,if_neg]
 · by_cases h12:12<m - (at_+1)
   · rw[if_pos h12,if_pos h12];rfl
   · rw[if_neg h12,if_neg h12]
     simp only;rw[show at_+(m - (at_+1)+2)=m+1 by omega]
 · rw[fB,List.length_drop,show at_+(m - (at_+1)+1)=m by omega]
   rintro (e|e)
   · omega
   · exact e h
theorem aGc (s:ByteArray) (hs:s.size≤281474976710656) (a:Nat) (ha:a<s.size) (w:World):
  Calls Tryz.prog 131 #[.string s,.int .i64 a] w fun e w'=>e=rP s.data.toList a∧w=w':=by
 have hl:s.data.toList.length=s.size:=by simp
 have HL:=hD hl;clear hl;obtain⟨E,hE⟩:∃E,rP s.data.toList a=E:=⟨_,rfl⟩;rw[hE];have HE:=hD hE;clear hE;go_enter Tryz.func131,Tryz.ntmps131;go_wp2
 go_loopw [7] (fun v w'=>∃m:Nat,a+1≤m∧m≤s.size∧v = .int .i64 m∧Hid (runN bU (s.data.toList.drop (a+1))=(m - (a+1))+runN bU (s.data.toList.drop m))∧w=w') (fun v _=>s.size - (intOf v).toNat)
 case atStart=>exact⟨a+1,Nat.le_refl _,by omega,by go_num,hD (by omega),rfl⟩
 case round=>
  obtain⟨m,ham,hm,rfl,HR,rfl⟩:=hrel;have ham2:(a:Int)+1≤(m:Int):=by omega
  by_cases hms:m<s.size
  · have hms2:(m:Int)<(s.size:Int):=by omega
    obtain⟨d,hd⟩:∃d,s[m]'hms=d:=⟨_,rfl⟩;have hby:=bV s m hms;rw[hd] at hby;have hst:=fJ bU s.data.toList m (by rw[HL.out];exact hms);rw[hby] at hst;have HST:=hD hst;have HBY:=hD hby;clear hst hby;rcases (by omega:(d.toNat:Int)<32∨(d.toNat:Int)=34∨(32≤(d.toNat:Int)∧(d.toNat:Int)≤126∧(d.toNat:Int)≠34)∨126<(d.toNat:Int)) with h|h|⟨h1,h2,h3⟩|h
    · have hz:runN bU (s.data.toList.drop (a+1))=m - (a+1):=by
        have h1:=HR.out;have h2:=HST.out;rw[if_neg (by simp[bU];omega)] at h2;omega
      have HF:=hD ((pV s.data.toList a m (by rw[HL.out];exact ha) hz ham (.inr (by rw[HBY.out];omega))).symm.trans HE.out);have hq:((d.toNat:Int) != 34)=true:=bne_iff_ne.2 (by omega);clear hz;go_wp2
      go_ret3
      exact⟨by rw[←HF.out];first|done|rfl,rfl⟩
    · have hz:runN bU (s.data.toList.drop (a+1))=m - (a+1):=by
        have h1:=HR.out;have h2:=HST.out;rw[if_neg (by simp[bU];omega)] at h2;omega
      have hF:=(aKi s.data.toList a m (by rw[HL.out];exact ha) hz ham (by rw[HL.out];exact hms) (by rw[HBY.out];exact h)).symm.trans HE.out;have hq:((d.toNat:Int) != 34)=false:=by rw[h];rfl
      clear hz;by_cases h12:12<m - (a+1)
      · rw[if_pos h12] at hF
        have HF:=hD hF;have h13:(12:Int)<(m:Int) - (a:Int) - 1:=by omega
        clear hF h12;go_wp2
        go_ret3
        exact⟨by rw[←HF.out];first|done|rfl,rfl⟩
      · rw[if_neg h12] at hF
        have HF:=hD hF;have h13:(m:Int) - (a:Int) - 1≤12:=by omega
        have HX:=hD (show bs ((s.data.toList.drop (a+1)).take (m - (a+1)))=s.extract (a+1) m by rw[←Lib.extract_data,oC]);clear hF h12;go_wp2
        go_ret3
        exact⟨by rw[←HF.out,HX.out];first|done|rfl,rfl⟩
    · have hst:runN bU (s.data.toList.drop m)=1+runN bU (s.data.toList.drop (m+1)):=by
        have h2:=HST.out;rwa [if_pos (by simp[bU];omega)] at h2
      have HS2:=hD hst;have hq:((d.toNat:Int) != 34)=true:=bne_iff_ne.2 h3;clear hst;go_wp2
      go_roundw
      case rel=>exact⟨m+1,by omega,by omega,by go_num,hD (by (have:=HR.out);have:=HS2.out;omega),trivial⟩
      case measure=>simp[intOf];omega
    · have hz:runN bU (s.data.toList.drop (a+1))=m - (a+1):=by
        have h1:=HR.out;have h2:=HST.out;rw[if_neg (by simp[bU];omega)] at h2;omega
      have HF:=hD ((pV s.data.toList a m (by rw[HL.out];exact ha) hz ham (.inr (by rw[HBY.out];omega))).symm.trans HE.out);have hq:((d.toNat:Int) != 34)=true:=bne_iff_ne.2 (by omega);clear hz;go_wp2
      go_ret3
      exact⟨by rw[←HF.out];first|done|rfl,rfl⟩
  · have hms2:(s.size:Int)≤(m:Int):=by omega
    have hz:runN bU (s.data.toList.drop (a+1))=m - (a+1):=by
      have h1:=HR.out;have h2:runN bU (s.data.toList.drop m)=0:=by rw[List.drop_of_length_le (by rw[HL.out];omega)];rfl
      omega
    have HF:=hD ((pV s.data.toList a m (by rw[HL.out];exact ha) hz ham (.inl (by rw[HL.out];omega))).symm.trans HE.out);clear hz hms;go_wp2
    go_ret3
    exact⟨by rw[←HF.out];first|done|rfl,rfl⟩
def rY (l:List UInt8) (a:Nat) (e:Ending):Prop:=match firstM (l.drop a) with
 | .ok k o m n=>e = .returned (.tuple #[iD k (bs (((l.drop a).drop o).take m)) a,.int .i64 ((a+n:Nat):Int),.int .i64 0])
 | .err er=>∃(k p q:Int) (t:ByteArray),e = .returned (.tuple #[.agg #[.int .i64 k,.string t,.int .i64 p],.int .i64 q,.int .i64 er])
theorem lI {l:List UInt8}{a k o m n:Nat} (h:firstM (l.drop a) = .ok k o m n) (x:ByteArray) (hx:x=bs (((l.drop a).drop o).take m)) (q:Nat) (hq:q=a+n):
  rY l a (.returned (.tuple #[iD k x a,.int .i64 q,.int .i64 0])):=by
 unfold rY;rw[h,hx,hq]
theorem nU {l:List UInt8}{a er:Nat} (h:firstM (l.drop a) = .err er) (k p q:Int) (t:ByteArray):
  rY l a (.returned (.tuple #[.agg #[.int .i64 k,.string t,.int .i64 p],.int .i64 q,.int .i64 er])):=by
 unfold rY;rw[h];exact⟨k,p,q,t,rfl⟩
theorem rA (s:ByteArray) (a m:Nat):(s.extract a m).data.toList=(s.data.toList.drop a).take (m - a):=Lib.extract_data s a m
theorem aCw (s:ByteArray) (hs:s.size≤281474976710656) (a:Nat) (ha:a<s.size) (w:World) (hd:bD (aT s.data.toList a)=true):
  Calls Tryz.prog 87 #[.string s,.int .i64 a] w fun e w'=>rY s.data.toList a e∧Fr nob w w':=by
 have hl:s.data.toList.length=s.size:=by simp
 have HL:=hD hl;clear hl;have hf:firstM (s.data.toList.drop a)=iB (s.data.toList.drop a):=by
  unfold firstM;rw[fB,Nat.add_zero,if_pos hd]
 have HF:=hD hf;have hai:(a:Int)<(s.size:Int):=by omega
 obtain⟨c,hc⟩:∃c,s[a]'ha=c:=⟨_,rfl⟩;rw[bV s a ha,hc] at hd;have HD:=hD (fun w'=>iH (c.toNat:Int) w');rw[hd] at HD;clear hf hd;go_enter Tryz.func87,Tryz.ntmps87;go_wp2_with (go_at_call 127;refine (HD.out _).mono ?_;rintro e w1 ⟨rfl,rfl⟩)
 go_loopw [8] (fun v w'=>∃m:Nat,a≤m∧m≤s.size∧v = .int .i64 m∧Hid (runN bD (s.data.toList.drop a)=(m - a)+runN bD (s.data.toList.drop m))∧w'=w.alloc (.cells #[.int .i64 0,.string ⟨#[]⟩,.int .i64 0] 115)) (fun v _=>s.size - (intOf v).toNat)
 case atStart=>exact⟨a,Nat.le_refl _,by omega,rfl,hD (by omega),rfl⟩
 case round=>
  obtain⟨m,ham,hm,rfl,HR,rfl⟩:=hrel;have ham2:(a:Int)≤(m:Int):=by omega
  have hend:runN bD (s.data.toList.drop m)=0→(runN bD (s.data.toList.drop a)=m - a):=fun h=>by have:=HR.out;omega
  have HEND:=hD hend;clear hend;have fin:runN bD (s.data.toList.drop a)=m - a→cZ (s.extract a m).data.toList∧iB (s.data.toList.drop a)=if lV (s.extract a m).data.toList then .ok 1 0 (m - a) (m - a) else .err 12:=fun h=>by
    have h1:=nJ (s.data.toList.drop a);unfold iB;rw[rA,←h];exact⟨h1,rfl⟩
  have FIN:=hD fin;clear fin;by_cases hms:m<s.size
  · have hms2:(m:Int)<(s.size:Int):=by omega
    have hm64:(m:Int)≤(s.size:Int):=by omega
    obtain⟨d,hdd⟩:∃d,s[m]'hms=d:=⟨_,rfl⟩;have hst:=fJ bD s.data.toList m (by rw[HL.out];exact hms);rw[bV s m hms,hdd] at hst;have HST:=hD hst;have HE:=hD (fun w'=>iH (d.toNat:Int) w');clear hst;generalize hdb:bD (d.toNat:Int)=db at *;clear hdb;cases db with
    | true=>
     go_wp2_with (go_at_call 127;refine (HE.out _).mono ?_;rintro e w1 ⟨rfl,rfl⟩)
     go_roundw
     case rel=>exact⟨m+1,by omega,by omega,by go_num,hD (by (have h1:=HR.out);have h2:=HST.out;(first|rw[if_pos trivial] at h2|rw[if_pos rfl] at h2);omega),trivial⟩
     case measure=>simp[intOf];omega
    | false=>
     have hz:=HEND.out (by (have h2:=HST.out);rwa [if_neg (by simp)] at h2);obtain⟨hall,hnm⟩:=FIN.out hz;have HN:=hD (fun w'=>qD (s.extract a m) hall (by simp;omega) w');have hx:s.extract a m=bs (((s.data.toList.drop a).drop 0).take (m - a)):=by rw[List.drop_zero,←rA,oC]
     have HX:=hD hx;have HNM:=hD (HF.out.trans hnm);clear hz hall hnm hx;generalize lV (s.extract a m).data.toList=nb at *;cases nb with
     | true=>
      go_wp2_with (first|(go_at_call 127;refine (HE.out _).mono ?_;rintro e w1 ⟨rfl,rfl⟩)|(go_at_call 128;refine (HN.out _).mono ?_;rintro e w1 ⟨rfl,rfl⟩))
      refine bodyPost_ret (v:= .tuple #[iD 1 (s.extract a m) a,.int .i64 m,.int .i64 0]) (by simp[results,Tryz.results87,go_sem,iD];try rfl) rfl ⟨lI (k:=1) (o:=0) (m:=m - a) (n:=m - a) (HNM.out.trans (by simp)) _ HX.out _ (by omega),(fR w).alloc _⟩
     | false=>
      go_wp2_with (first|(go_at_call 127;refine (HE.out _).mono ?_;rintro e w1 ⟨rfl,rfl⟩)|(go_at_call 128;refine (HN.out _).mono ?_;rintro e w1 ⟨rfl,rfl⟩))
      refine bodyPost_ret (v:= .tuple #[.agg #[.int .i64 0,.string ⟨#[]⟩,.int .i64 0],.int .i64 a,.int .i64 12]) (by simp[results,Tryz.results87,go_sem,iD];try rfl) rfl ⟨nU (er:=12) (HNM.out.trans (by simp)) _ _ _ _,(fR w).alloc _⟩
  · have hms2:(s.size:Int)≤(m:Int):=by omega
    have hm64:(m:Int)≤(s.size:Int):=by omega
    have hz:=HEND.out (by rw[List.drop_of_length_le (by rw[HL.out];omega)];rfl);obtain⟨hall,hnm⟩:=FIN.out hz;have HN:=hD (fun w'=>qD (s.extract a m) hall (by simp;omega) w');have hx:s.extract a m=bs (((s.data.toList.drop a).drop 0).take (m - a)):=by rw[List.drop_zero,←rA,oC]
    have HX:=hD hx;have HNM:=hD (HF.out.trans hnm);clear hz hall hnm hx hms;generalize lV (s.extract a m).data.toList=nb at *;cases nb with
    | true=>
     go_wp2_with (go_at_call 128;refine (HN.out _).mono ?_;rintro e w1 ⟨rfl,rfl⟩)
     refine bodyPost_ret (v:= .tuple #[iD 1 (s.extract a m) a,.int .i64 m,.int .i64 0]) (by simp[results,Tryz.results87,go_sem,iD];try rfl) rfl ⟨lI (k:=1) (o:=0) (m:=m - a) (n:=m - a) (HNM.out.trans (by simp)) _ HX.out _ (by omega),(fR w).alloc _⟩
    | false=>
     go_wp2_with (go_at_call 128;refine (HN.out _).mono ?_;rintro e w1 ⟨rfl,rfl⟩)
     refine bodyPost_ret (v:= .tuple #[.agg #[.int .i64 0,.string ⟨#[]⟩,.int .i64 0],.int .i64 a,.int .i64 12]) (by simp[results,Tryz.results87,go_sem,iD];try rfl) rfl ⟨nU (er:=12) (HNM.out.trans (by simp)) _ _ _ _,(fR w).alloc _⟩
theorem yM (s:ByteArray) (hs:s.size≤281474976710656) (a:Nat) (ha:a<s.size) (w:World) (hd:bD (aT s.data.toList a)=false) (hlt:fO (aT s.data.toList a)=true):
  Calls Tryz.prog 87 #[.string s,.int .i64 a] w fun e w'=>rY s.data.toList a e∧Fr nob w w':=by
 have hl:s.data.toList.length=s.size:=by simp
 have HL:=hD hl;clear hl;have hf:firstM (s.data.toList.drop a)=oP (s.data.toList.drop a):=by
  unfold firstM;rw[fB,Nat.add_zero,if_neg (by rw[hd];simp),if_pos hlt]
 have HF:=hD hf;have hai:(a:Int)<(s.size:Int):=by omega
 obtain⟨c,hc⟩:∃c,s[a]'ha=c:=⟨_,rfl⟩;rw[bV s a ha,hc] at hd hlt;have HD:=hD (fun w'=>iH (c.toNat:Int) w');rw[hd] at HD;have HT:=hD (fun w'=>jJ (c.toNat:Int) w');rw[hlt] at HT;clear hf hd hlt;go_enter Tryz.func87,Tryz.ntmps87;go_wp2_with (first|(go_at_call 127;refine (HD.out _).mono ?_;rintro e w1 ⟨rfl,rfl⟩)|(go_at_call 129;refine (HT.out _).mono ?_;rintro e w1 ⟨rfl,rfl⟩))
 go_loopw [8] (fun v w'=>∃m:Nat,a≤m∧m≤s.size∧v = .int .i64 m∧Hid (runN aY (s.data.toList.drop a)=(m - a)+runN aY (s.data.toList.drop m))∧w'=w.alloc (.cells #[.int .i64 0,.string ⟨#[]⟩,.int .i64 0] 115)) (fun v _=>s.size - (intOf v).toNat)
 case atStart=>exact⟨a,Nat.le_refl _,by omega,rfl,hD (by omega),rfl⟩
 case round=>
  obtain⟨m,ham,hm,rfl,HR,rfl⟩:=hrel;have ham2:(a:Int)≤(m:Int):=by omega
  have HEND:=hD (show runN aY (s.data.toList.drop m)=0→(runN aY (s.data.toList.drop a)=m - a) from fun h=>by have:=HR.out;omega);have FIN:=hD (show runN aY (s.data.toList.drop a)=m - a→oP (s.data.toList.drop a)=(if oN (s.extract a m).data.toList then .ok 4 0 (m - a) (m - a) else if 8<m - a then .err 13 else .ok 3 0 (m - a) (m - a)) from fun h=>by
    unfold oP;rw[rA,←h])
  have HX:=hD (show s.extract a m=bs (((s.data.toList.drop a).drop 0).take (m - a)) by rw[List.drop_zero,←rA,oC]);have hm64:(m:Int)≤(s.size:Int):=by omega
  have HW:=hD (fun w'=>aFv (s.extract a m) w');have HSZ:=hD (show (s.extract a m).size=m - a by simp;omega);obtain⟨x,hx⟩:∃x,s.extract a m=x:=⟨_,rfl⟩;rw[hx] at FIN HX HW HSZ;by_cases hms:m<s.size
  · have hms2:(m:Int)<(s.size:Int):=by omega
    obtain⟨d,hdd⟩:∃d,s[m]'hms=d:=⟨_,rfl⟩;have hst:=fJ aY s.data.toList m (by rw[HL.out];exact hms);rw[bV s m hms,hdd] at hst;have HST:=hD hst;have HE:=hD (fun w'=>iH (d.toNat:Int) w');have HL2:=hD (fun w'=>jJ (d.toNat:Int) w');have hwi:aY (d.toNat:Int)=(fO (d.toNat:Int) || bD (d.toNat:Int) || ((d.toNat:Int)==95)):=rfl;have HWI:=hD hwi;clear hst hwi;generalize bD (d.toNat:Int)=db at *;generalize fO (d.toNat:Int)=lb at *;cases lb with
    | true=>
      have hwt:aY (d.toNat:Int)=true:=by rw[HWI.out];rfl
      have HS2:=hD (show runN aY (s.data.toList.drop m)=1+runN aY (s.data.toList.drop (m+1)) from HST.out.trans (if_pos hwt));clear hwt HST HWI;go_wp2_with (first|(go_at_call 127;refine (HE.out _).mono ?_;rintro e w1 ⟨rfl,rfl⟩)|(go_at_call 129;refine (HL2.out _).mono ?_;rintro e w1 ⟨rfl,rfl⟩))
      go_roundw
      case rel=>exact⟨m+1,by omega,by omega,by go_num,hD (by (have h1:=HR.out);have h2:=HS2.out;omega),trivial⟩
      case measure=>simp[intOf];omega
    | false=>
      cases db with
      | true=>
       have hwt:aY (d.toNat:Int)=true:=by rw[HWI.out];rfl
       have HS2:=hD (show runN aY (s.data.toList.drop m)=1+runN aY (s.data.toList.drop (m+1)) from HST.out.trans (if_pos hwt));clear hwt HST HWI;go_wp2_with (first|(go_at_call 127;refine (HE.out _).mono ?_;rintro e w1 ⟨rfl,rfl⟩)|(go_at_call 129;refine (HL2.out _).mono ?_;rintro e w1 ⟨rfl,rfl⟩))
       go_roundw
       case rel=>exact⟨m+1,by omega,by omega,by go_num,hD (by (have h1:=HR.out);have h2:=HS2.out;omega),trivial⟩
       case measure=>simp[intOf];omega
      | false=>
       by_cases h95:(d.toNat:Int)=95
       · have hu:((d.toNat:Int)==95)=true:=beq_iff_eq.2 h95
         have hwt:aY (d.toNat:Int)=true:=by rw[HWI.out,hu];rfl
         rw[h95] at HE HL2;have HS2:=hD (show runN aY (s.data.toList.drop m)=1+runN aY (s.data.toList.drop (m+1)) from HST.out.trans (if_pos hwt));clear hwt HST HWI;go_wp2_with (first|(go_at_call 127;refine (HE.out _).mono ?_;rintro e w1 ⟨rfl,rfl⟩)|(go_at_call 129;refine (HL2.out _).mono ?_;rintro e w1 ⟨rfl,rfl⟩))
         go_roundw
         case rel=>exact⟨m+1,by omega,by omega,by go_num,hD (by (have h1:=HR.out);have h2:=HS2.out;omega),trivial⟩
         case measure=>simp[intOf];omega
       · have hu:((d.toNat:Int)==95)=false:=bN.2 h95
         have hz:=HEND.out (HST.out.trans (if_neg (by rw[HWI.out,hu];simp)));have HNM:=hD (HF.out.trans (FIN.out hz));clear hz HR HST HWI;generalize oN x.data.toList=wb at *;by_cases h8:8<m - a
         · have h9:(8:Int)<(x.size:Int):=by rw[HSZ.out];omega
           cases wb with
           | true=>
            go_wp2_with (first|(go_at_call 127;refine (HE.out _).mono ?_;rintro e w1 ⟨rfl,rfl⟩)|(go_at_call 129;refine (HL2.out _).mono ?_;rintro e w1 ⟨rfl,rfl⟩)|(go_at_call 130;go_must (refine (HW.out _).mono ?_;rintro e w2 ⟨rfl,hf⟩;have F2:=hD hf;(have B:=(Blk.new w 115 #[.int .i64 0,.string ⟨#[]⟩,.int .i64 0]).fr F2.out (fun x=>x));have c0:=B.cell 0;have c1:=B.cell 1;have c2:=B.cell 2;have f0:=B.frozen 0;have f1:=B.frozen 1;have f2:=B.frozen 2;clear B;clear hf)))
            refine bodyPost_ret (v:= .tuple #[iD 4 x a,.int .i64 m,.int .i64 0]) (by simp[results,Tryz.results87,go_sem,iD,c0,c1,c2];try rfl) rfl ⟨lI (k:=4) (o:=0) (m:=m - a) (n:=m - a) (HNM.out.trans (by simp)) _ HX.out _ (by omega),Fr.rF F2.out _ _ _⟩
           | false=>
            go_wp2_with (first|(go_at_call 127;refine (HE.out _).mono ?_;rintro e w1 ⟨rfl,rfl⟩)|(go_at_call 129;refine (HL2.out _).mono ?_;rintro e w1 ⟨rfl,rfl⟩)|(go_at_call 130;go_must (refine (HW.out _).mono ?_;rintro e w2 ⟨rfl,hf⟩;have F2:=hD hf;(have B:=(Blk.new w 115 #[.int .i64 0,.string ⟨#[]⟩,.int .i64 0]).fr F2.out (fun x=>x));have c0:=B.cell 0;have c1:=B.cell 1;have c2:=B.cell 2;have f0:=B.frozen 0;have f1:=B.frozen 1;have f2:=B.frozen 2;clear B;clear hf)))
            refine bodyPost_ret (v:= .tuple #[.agg #[.int .i64 0,.string ⟨#[]⟩,.int .i64 0],.int .i64 a,.int .i64 13]) (by simp[results,Tryz.results87,go_sem,iD,c0,c1,c2];try rfl) rfl ⟨nU (er:=13) (HNM.out.trans (by simp[h8])) _ _ _ _,Fr.rF F2.out _ _ _⟩
         · have h9:(x.size:Int)≤8:=by rw[HSZ.out];omega
           cases wb with
           | true=>
            go_wp2_with (first|(go_at_call 127;refine (HE.out _).mono ?_;rintro e w1 ⟨rfl,rfl⟩)|(go_at_call 129;refine (HL2.out _).mono ?_;rintro e w1 ⟨rfl,rfl⟩)|(go_at_call 130;go_must (refine (HW.out _).mono ?_;rintro e w2 ⟨rfl,hf⟩;have F2:=hD hf;(have B:=(Blk.new w 115 #[.int .i64 0,.string ⟨#[]⟩,.int .i64 0]).fr F2.out (fun x=>x));have c0:=B.cell 0;have c1:=B.cell 1;have c2:=B.cell 2;have f0:=B.frozen 0;have f1:=B.frozen 1;have f2:=B.frozen 2;clear B;clear hf)))
            refine bodyPost_ret (v:= .tuple #[iD 4 x a,.int .i64 m,.int .i64 0]) (by simp[results,Tryz.results87,go_sem,iD,c0,c1,c2];try rfl) rfl ⟨lI (k:=4) (o:=0) (m:=m - a) (n:=m - a) (HNM.out.trans (by simp)) _ HX.out _ (by omega),Fr.rF F2.out _ _ _⟩
           | false=>
            go_wp2_with (first|(go_at_call 127;refine (HE.out _).mono ?_;rintro e w1 ⟨rfl,rfl⟩)|(go_at_call 129;refine (HL2.out _).mono ?_;rintro e w1 ⟨rfl,rfl⟩)|(go_at_call 130;go_must (refine (HW.out _).mono ?_;rintro e w2 ⟨rfl,hf⟩;have F2:=hD hf;(have B:=(Blk.new w 115 #[.int .i64 0,.string ⟨#[]⟩,.int .i64 0]).fr F2.out (fun x=>x));have c0:=B.cell 0;have c1:=B.cell 1;have c2:=B.cell 2;have f0:=B.frozen 0;have f1:=B.frozen 1;have f2:=B.frozen 2;clear B;clear hf)))
            refine bodyPost_ret (v:= .tuple #[iD 3 x a,.int .i64 m,.int .i64 0]) (by simp[results,Tryz.results87,go_sem,iD,c0,c1,c2];try rfl) rfl ⟨lI (k:=3) (o:=0) (m:=m - a) (n:=m - a) (HNM.out.trans (by simp[h8])) _ HX.out _ (by omega),Fr.rF F2.out _ _ _⟩
  · have hms2:(s.size:Int)≤(m:Int):=by omega
    have hz:=HEND.out (by rw[List.drop_of_length_le (by rw[HL.out];omega)];rfl);have HNM:=hD (HF.out.trans (FIN.out hz));clear hz HR hms;generalize oN x.data.toList=wb at *;by_cases h8:8<m - a
    · have h9:(8:Int)<(x.size:Int):=by rw[HSZ.out];omega
      cases wb with
      | true=>
       go_wp2_with (go_at_call 130;go_must (refine (HW.out _).mono ?_;rintro e w2 ⟨rfl,hf⟩;have F2:=hD hf;(have B:=(Blk.new w 115 #[.int .i64 0,.string ⟨#[]⟩,.int .i64 0]).fr F2.out (fun x=>x));have c0:=B.cell 0;have c1:=B.cell 1;have c2:=B.cell 2;have f0:=B.frozen 0;have f1:=B.frozen 1;have f2:=B.frozen 2;clear B;clear hf))
       refine bodyPost_ret (v:= .tuple #[iD 4 x a,.int .i64 m,.int .i64 0]) (by simp[results,Tryz.results87,go_sem,iD,c0,c1,c2];try rfl) rfl ⟨lI (k:=4) (o:=0) (m:=m - a) (n:=m - a) (HNM.out.trans (by simp)) _ HX.out _ (by omega),Fr.rF F2.out _ _ _⟩
      | false=>
       go_wp2_with (go_at_call 130;go_must (refine (HW.out _).mono ?_;rintro e w2 ⟨rfl,hf⟩;have F2:=hD hf;(have B:=(Blk.new w 115 #[.int .i64 0,.string ⟨#[]⟩,.int .i64 0]).fr F2.out (fun x=>x));have c0:=B.cell 0;have c1:=B.cell 1;have c2:=B.cell 2;have f0:=B.frozen 0;have f1:=B.frozen 1;have f2:=B.frozen 2;clear B;clear hf))
       refine bodyPost_ret (v:= .tuple #[.agg #[.int .i64 0,.string ⟨#[]⟩,.int .i64 0],.int .i64 a,.int .i64 13]) (by simp[results,Tryz.results87,go_sem,iD,c0,c1,c2];try rfl) rfl ⟨nU (er:=13) (HNM.out.trans (by simp[h8])) _ _ _ _,Fr.rF F2.out _ _ _⟩
    · have h9:(x.size:Int)≤8:=by rw[HSZ.out];omega
      cases wb with
      | true=>
       go_wp2_with (go_at_call 130;go_must (refine (HW.out _).mono ?_;rintro e w2 ⟨rfl,hf⟩;have F2:=hD hf;(have B:=(Blk.new w 115 #[.int .i64 0,.string ⟨#[]⟩,.int .i64 0]).fr F2.out (fun x=>x));have c0:=B.cell 0;have c1:=B.cell 1;have c2:=B.cell 2;have f0:=B.frozen 0;have f1:=B.frozen 1;have f2:=B.frozen 2;clear B;clear hf))
       refine bodyPost_ret (v:= .tuple #[iD 4 x a,.int .i64 m,.int .i64 0]) (by simp[results,Tryz.results87,go_sem,iD,c0,c1,c2];try rfl) rfl ⟨lI (k:=4) (o:=0) (m:=m - a) (n:=m - a) (HNM.out.trans (by simp)) _ HX.out _ (by omega),Fr.rF F2.out _ _ _⟩
      | false=>
       go_wp2_with (go_at_call 130;go_must (refine (HW.out _).mono ?_;rintro e w2 ⟨rfl,hf⟩;have F2:=hD hf;(have B:=(Blk.new w 115 #[.int .i64 0,.string ⟨#[]⟩,.int .i64 0]).fr F2.out (fun x=>x));have c0:=B.cell 0;have c1:=B.cell 1;have c2:=B.cell 2;have f0:=B.frozen 0;have f1:=B.frozen 1;have f2:=B.frozen 2;clear B;clear hf))
       refine bodyPost_ret (v:= .tuple #[iD 3 x a,.int .i64 m,.int .i64 0]) (by simp[results,Tryz.results87,go_sem,iD,c0,c1,c2];try rfl) rfl ⟨lI (k:=3) (o:=0) (m:=m - a) (n:=m - a) (HNM.out.trans (by simp[h8])) _ HX.out _ (by omega),Fr.rF F2.out _ _ _⟩
theorem yD {l:List UInt8}{k o m n:Nat} (h:lC l = .ok k o m n):k=2∧o=1∧n=m+2:=by
 unfold lC at h;split at h
 · cases h
 · split at h
   · cases h
   · injection h with h1 h2 h3 h4;omega
theorem yJ {l:List UInt8}{k o m n:Nat} (h:iW l = .ok k o m n):k=5∧o=0∧n=m∧1≤m:=by
 unfold iW at h;split at h
 · injection h with h1 h2 h3 h4;omega
 · split at h
   · injection h with h1 h2 h3 h4;omega
   · cases h
theorem aFr {l:List UInt8}{e:Nat} (h:iW l = .err e):e=10:=by
 unfold iW at h;split at h
 · cases h
 · split at h
   · cases h
   · injection h with h;exact h.symm
theorem aCv (s:ByteArray) (hs:s.size≤281474976710656) (a:Nat) (ha:a<s.size) (w:World) (hq:aT s.data.toList a=34):
  Calls Tryz.prog 87 #[.string s,.int .i64 a] w fun e w'=>rY s.data.toList a e∧Fr nob w w':=by
 have hf:firstM (s.data.toList.drop a)=lC (s.data.toList.drop a):=by
  unfold firstM;rw[fB,Nat.add_zero,hq,if_neg (by decide),if_neg (by decide),if_pos (by decide)]
 have HF:=hD hf;have hai:(a:Int)<(s.size:Int):=by omega
 obtain⟨c,hc⟩:∃c,s[a]'ha=c:=⟨_,rfl⟩;rw[bV s a ha,hc] at hq;have HD:=hD (fun w'=>iH 34 w');rw[show bD 34=false from rfl] at HD;have HT:=hD (fun w'=>jJ 34 w');rw[show fO 34=false from rfl] at HT;have hX:=fun w'=>aGc s hs a ha w'
 clear hf;cases hx:lC (s.data.toList.drop a) with
 | ok k o m n=>
  obtain⟨rfl,rfl,rfl⟩:=yD hx;have e1:rP s.data.toList a = .returned (.tuple #[.string (bs ((s.data.toList.drop (a+1)).take m)),.int .i64 ((a+(m+2):Nat):Int),.int .i64 0]):=by
   unfold rP;rw[hx]
  rw[e1] at hX;obtain⟨x,hx1⟩:∃x,bs ((s.data.toList.drop (a+1)).take m)=x:=⟨_,rfl⟩;obtain⟨q,hq1⟩:∃q:Nat,a+(m+2)=q:=⟨_,rfl⟩;rw[hx1,hq1] at hX;have HX:=hD hX;have X1:=hD (show x=bs (((s.data.toList.drop a).drop 1).take m) by rw[List.drop_drop];exact hx1.symm);have Q1:=hD hq1.symm;have HFX:=hD (HF.out.trans hx);clear hX e1 hx1 hq1 hx;go_enter Tryz.func87,Tryz.ntmps87;go_wp2_with (first|(go_at_call 127;refine (HD.out _).mono ?_;rintro e w1 ⟨rfl,rfl⟩)|(go_at_call 129;refine (HT.out _).mono ?_;rintro e w1 ⟨rfl,rfl⟩)|(go_at_call 131;refine (HX.out _).mono ?_;rintro e w1 ⟨rfl,rfl⟩))
  refine bodyPost_ret (v:= .tuple #[iD 2 x a,.int .i64 q,.int .i64 0]) (by simp[results,Tryz.results87,go_sem,iD];try rfl) rfl ⟨lI HFX.out _ X1.out _ Q1.out,(fR w).alloc _⟩
 | err e=>
  have e1:rP s.data.toList a = .returned (.tuple #[.string ⟨#[]⟩,.int .i64 a,.int .i64 e]):=by
   unfold rP;rw[hx]
  rw[e1] at hX;have HX:=hD hX;have HFX:=hD (HF.out.trans hx);clear hX e1 hx;go_enter Tryz.func87,Tryz.ntmps87;go_wp2_with (first|(go_at_call 127;refine (HD.out _).mono ?_;rintro e w1 ⟨rfl,rfl⟩)|(go_at_call 129;refine (HT.out _).mono ?_;rintro e w1 ⟨rfl,rfl⟩)|(go_at_call 131;refine (HX.out _).mono ?_;rintro e w1 ⟨rfl,rfl⟩))
  refine bodyPost_ret (v:= .tuple #[.agg #[.int .i64 2,.string ⟨#[]⟩,.int .i64 a],.int .i64 a,.int .i64 e]) (by simp[results,Tryz.results87,go_sem,iD];try rfl) rfl ⟨nU HFX.out _ _ _ _,(fR w).alloc _⟩
theorem aGg (s:ByteArray) (hs:s.size≤281474976710656) (a:Nat) (ha:a<s.size) (w:World) (hd:bD (aT s.data.toList a)=false) (hlt:fO (aT s.data.toList a)=false) (hq:aT s.data.toList a≠34):
  Calls Tryz.prog 87 #[.string s,.int .i64 a] w fun e w'=>rY s.data.toList a e∧Fr nob w w':=by
 have hl:s.data.toList.length=s.size:=by simp
 have hf:firstM (s.data.toList.drop a)=iW (s.data.toList.drop a):=by
  unfold firstM;rw[fB,Nat.add_zero,if_neg (by rw[hd];simp),if_neg (by rw[hlt];simp),if_neg (by simpa using hq)]
 have hai:(a:Int)<(s.size:Int):=by omega
 obtain⟨c,hc⟩:∃c,s[a]'ha=c:=⟨_,rfl⟩;rw[bV s a ha,hc] at hd hlt hq;have HD:=hD (fun w'=>iH (c.toNat:Int) w');rw[hd] at HD;have HT:=hD (fun w'=>jJ (c.toNat:Int) w');rw[hlt] at HT;have hqb:((c.toNat:Int)==34)=false:=bN.2 hq;have hR:(s.extract a s.size).data.toList=s.data.toList.drop a:=Lib.extract_to_end s a;have hX:=fun w'=>aGd (s.extract a s.size) (by simp;omega) w'
 rw[hR] at hX;clear hd hlt hq hR;cases hx:iW (s.data.toList.drop a) with
 | ok k o m n=>
  obtain⟨rfl,rfl,rfl,h1⟩:=yJ hx;have hfx:=hf.trans hx;obtain⟨_,hn2,hom⟩:=gI (by rw[List.length_drop,hl];omega) hfx;rw[List.length_drop,hl] at hn2;have e1:pX (s.data.toList.drop a)=(s.data.toList.drop a).take n:=by
   unfold pX;rw[hx]
  rw[e1] at hX;obtain⟨x,hx1⟩:∃x,bs ((s.data.toList.drop a).take n)=x:=⟨_,rfl⟩;have hxs:x.size=n:=by rw[←hx1,aPz,List.length_take,List.length_drop,hl];omega
  have hxe:x.toList.isEmpty=false:=by
   rw[ByteArray.toList_eq];cases hd:x.data.toList with
   | nil=>
    have:x.data.toList.length=x.size:=by simp
    rw[hd] at this;simp at this;omega
   | cons _ _=>rfl
  rw[hx1] at hX;have HX:=hD hX;have X1:=hD (show x=bs (((s.data.toList.drop a).drop 0).take n) by rw[List.drop_zero];exact hx1.symm);have HFX:=hD hfx;have XS:=hD hxs;have hxi:(x.size:Int)≤(s.size:Int) - (a:Int):=by omega
  clear hX e1 hx1 hx hf hfx hxs hom;go_enter Tryz.func87,Tryz.ntmps87;go_wp2_with (first|(go_at_call 127;refine (HD.out _).mono ?_;rintro e w1 ⟨rfl,rfl⟩)|(go_at_call 129;refine (HT.out _).mono ?_;rintro e w1 ⟨rfl,rfl⟩)|(go_at_call 132;go_must (refine (HX.out _).mono ?_;rintro e w2 ⟨rfl,hf⟩;have F2:=hD hf;(have B:=(Blk.new w 115 #[.int .i64 0,.string ⟨#[]⟩,.int .i64 0]).fr F2.out (fun x=>x));have c0:=B.cell 0;have c1:=B.cell 1;have c2:=B.cell 2;have f0:=B.frozen 0;have f1:=B.frozen 1;have f2:=B.frozen 2;clear B;clear hf)))
  refine bodyPost_ret (v:= .tuple #[iD 5 x a,.int .i64 ((a:Int)+(x.size:Int)),.int .i64 0]) (by simp[results,Tryz.results87,go_sem,iD,c0,c1,c2];try rfl) rfl ⟨(by have:=lI HFX.out x X1.out (a+x.size) (by rw[XS.out]);rwa [Int.natCast_add] at this),Fr.rF F2.out _ _ _⟩
 | err e=>
  obtain rfl:=aFr hx;have e1:pX (s.data.toList.drop a)=[]:=by
   unfold pX;rw[hx]
  rw[e1] at hX;have HX:=hD hX;have HFX:=hD (hf.trans hx);have hxe:(bs []).toList.isEmpty=true:=by rw[ByteArray.toList_eq];rfl
  clear hX e1 hx hf;go_enter Tryz.func87,Tryz.ntmps87;go_wp2_with (first|(go_at_call 127;refine (HD.out _).mono ?_;rintro e w1 ⟨rfl,rfl⟩)|(go_at_call 129;refine (HT.out _).mono ?_;rintro e w1 ⟨rfl,rfl⟩)|(go_at_call 132;go_must (refine (HX.out _).mono ?_;rintro e w2 ⟨rfl,hf⟩;have F2:=hD hf;(have B:=(Blk.new w 115 #[.int .i64 0,.string ⟨#[]⟩,.int .i64 0]).fr F2.out (fun x=>x));have c0:=B.cell 0;have c1:=B.cell 1;have c2:=B.cell 2;have f0:=B.frozen 0;have f1:=B.frozen 1;have f2:=B.frozen 2;clear B;clear hf)))
  refine bodyPost_ret (v:= .tuple #[.agg #[.int .i64 0,.string ⟨#[]⟩,.int .i64 0],.int .i64 a,.int .i64 10]) (by simp[results,Tryz.results87,go_sem,iD,c0,c1,c2];try rfl) rfl ⟨nU HFX.out _ _ _ _,Fr.rF F2.out _ _ _⟩
theorem aKv (s:ByteArray) (hs:s.size≤281474976710656) (a:Nat) (ha:a<s.size) (w:World):
  Calls Tryz.prog 87 #[.string s,.int .i64 a] w fun e w'=>rY s.data.toList a e∧Fr nob w w':=by
 cases hd:bD (aT s.data.toList a) with
 | true=>exact aCw s hs a ha w hd
 | false=>
  cases hl:fO (aT s.data.toList a) with
  | true=>exact yM s hs a ha w hd hl
  | false=>
   by_cases hq:aT s.data.toList a=34
   · exact aCv s hs a ha w hq
   · exact aGg s hs a ha w hd hl hq
theorem aFl {l:List UInt8} (h0:0<l.length) (h:fZ l=0):eO (aT l 0)=false∧bP l=false:=by
 cases hb:eO (aT l 0) with
 | true=>rw[nI h0 hb] at h;omega
 | false=>
  cases hr:bP l with
  | true=>
   have:=nL hr;rw[lT h0 hb hr] at h;omega
  | false=>exact⟨rfl,rfl⟩
theorem aKx (s:ByteArray) (w:World) (hs:s.size≤281474976710656):
   Calls Tryz.prog 55 #[.string s] w fun e w'=>aQf w.heap.size w' e (nG s.data.toList)∧Fr nob w w':=by
 have hl:s.data.toList.length=s.size:=by simp
 unfold nG;rw[hl];have HL:=hD hl;clear hl;by_cases hbig:600<s.size
 · rw[if_pos hbig]
   have h2:(600:Int)<(s.size:Int):=by omega
   clear hbig;go_enter Tryz.func55,Tryz.ntmps55;go_wp2
   go_ret3
   exact⟨rfl,Fr.refl _ _⟩
 · rw[if_neg hbig]
   have h2:(s.size:Int)≤600:=by omega
   have h600:s.size≤600:=by omega
   clear hbig;obtain⟨a1,a2,a3⟩:=aBg _ s.data.toList 0 (Nat.le_refl _);rw[Nat.zero_add] at a3;rw[HL.out] at a1;have hS:=fun w'=>wB s hs 0 (Nat.zero_le _) w'
   rw[List.drop_zero,Nat.zero_add] at hS;generalize fZ s.data.toList=k0 at *;have HS:=hD hS;have A2:=hD a2;have A3:=hD a3;clear hS a2 a3;go_enter Tryz.func55,Tryz.ntmps55;go_wp2_with (go_at_call 86;refine (HS.out _).mono ?_;rintro e w1 ⟨rfl,rfl⟩)
   go_loopw [5,6] (fun l i w'=>∃(k:Nat) (K:List Tok),k≤s.size∧K.length≤k∧i = .int .i64 k∧Hid (xQ w.heap.size w' l K)∧Hid (Fr nob w w')∧Hid (lexFrom s.data.toList 0=(lexFrom (s.data.toList.drop k) k).pre K)∧Hid (fZ (s.data.toList.drop k)=0)) (fun _ i _=>s.size - (intOf i).toNat)
   case atStart=>
    exact⟨k0,[],a1,Nat.zero_le _,rfl,hD ⟨Own.empty _ _ _ _,fun g hg=>by simp[blk] at hg⟩,hD (by first|exact Fr.refl _ _|exact (Fr.refl _ _).alloc _),hD (by rw[pre_nil];exact A3.out),A2⟩
   case round=>
    obtain⟨k,K,hks,hKk,rfl,T,F,LX,Z⟩:=hrel;obtain⟨A,c,rfl,hc,hcm⟩:=T.out.own.cap;by_cases hlt:k<s.size
    · have hlt2:(k:Int)<(s.size:Int):=by omega
      have h0:0<(s.data.toList.drop k).length:=by rw[List.length_drop,HL.out];omega
      obtain⟨hblf,hrf⟩:=aFl h0 Z.out;have hO:=fun w'=>aKv s hs k hlt w'
      unfold rY at hO;cases hone:firstM (s.data.toList.drop k) with
      | err er=>
        have N1:=hD (jY (p:=k) h0 hblf hrf hone);have her:=nX hone;rw[hone] at hO;have HO:=hD hO;have he2:((er:Int) != 0)=true:=by simp;omega
        clear hO hone hblf hrf h0 her;go_wp2_with (go_at_call 87;go_must (refine (HO.out _).mono ?_;rintro e w2 ⟨⟨k5,p5,q5,t5,rfl⟩,hf2⟩;have F2:=hD hf2;clear hf2))
        go_ret3
        rw[LX.out,N1.out];exact⟨rfl,(F.out.tr F2.out).alloc _⟩
      | ok kd o m n=>
        have N1:=hD (mR (p:=k) h0 hblf hrf hone);obtain⟨hn1,hn2,hom⟩:=gI h0 hone;rw[List.length_drop,HL.out] at hn2;rw[hone] at hO;simp only[iD] at hO;generalize ((s.data.toList.drop k).drop o).take m=tx at *;obtain⟨q,hq⟩:∃q:Nat,k+n=q:=⟨_,rfl⟩;have hdd:(s.data.toList.drop k).drop n=s.data.toList.drop q:=by rw[List.drop_drop,hq]
        rw[hdd,hq] at N1;rw[hq] at hO;have HO:=hD hO;have hqs:q≤s.size:=by omega
        obtain⟨b1,b2,b3⟩:=aBg _ (s.data.toList.drop q) q (Nat.le_refl _);rw[List.drop_drop] at b2 b3;rw[List.length_drop,HL.out] at b1;have hS2:=fun w'=>wB s hs q hqs w'
        obtain⟨k2,hk2⟩:∃k2:Nat,q+fZ (s.data.toList.drop q)=k2:=⟨_,rfl⟩;rw[hk2] at b2 b3 hS2;have HS2:=hD hS2;have B2:=hD b2;have B3:=hD b3;have hk2s:k2≤s.size:=by omega
        have hk2k:k+1≤k2:=by omega
        clear hO hone hblf hrf h0 hS2 b2 b3 hdd hom hq hk2 b1 hn2;go_wp2_with (first|(go_at_call 87;go_must (refine (HO.out _).mono ?_;rintro e w2 ⟨rfl,hf2⟩;have F2:=hD hf2;have S2:=hD hf2.size;clear hf2))|(go_at_call 86;refine (HS2.out _).mono ?_;rintro e w5 ⟨rfl,rfl⟩)|(at_builtin;refine aL (v:= .slice A K.length c) (m:=1) (news:=[.int .i64 kd,.string (bs tx),.int .i64 k]) rfl _ _ rfl aMt rfl rfl (((T.out.no F2.out).own.alloc _).alloc _) (Rd.fC (n:=1) (cs:=[.int .i64 kd,.string (bs tx),.int .i64 k]) (Blk.new2 _ _ _ _) rfl (by decide)) (by simp[Value.oneCell']) (by omega) (by unfold maxLen;omega) ?_;intro A3 c3 w3 ho3 hf3 hv3;have O3:=hD ho3;have F3:=hD hf3;have V3:=hD hv3;clear ho3 hf3 hv3))
        go_roundw
        case rel=>
          refine⟨k2,K++[⟨kd,tx,k⟩],hk2s,by simp;omega,rfl,hD ⟨?_,fun g hg=>?_⟩,hD ?_,hD (by rw[LX.out,N1.out,zD,B3.out]),B2⟩
          · have e1:dI (K++[⟨kd,tx,k⟩])=dI K++[.int .i64 kd,.string (bs tx),.int .i64 k]:=by simp[dI]
            rw[e1,List.length_append];exact O3.out
          · have hg':blk (.slice A3 (K.length+1) c3)=some g:=hg
            rcases V3.out with h|h
            · exact T.out.new g (h ▸ hg')
            · rw[hg'] at h;injection h with h
              simp at h
              have:=F.out.size;have:=S2.out;omega
          · exact (((F.out.tr F2.out).alloc _).alloc _).trans F3.out (fun _ _ x=>x) (fun b hb h=>by have:=T.out.new b h;omega)
        case measure=>simp[intOf];omega
    · have hk:k=s.size:=by omega
      have E1:=hD (show lexFrom (s.data.toList.drop k) k = .good [⟨0,[],k⟩] by rw[List.drop_of_length_le (by rw[HL.out];omega),lex_nil]);have hge:(s.size:Int)≤(k:Int):=by omega
      clear hlt;subst hk;go_wp2_with (at_builtin;refine aL (v:= .slice A K.length c) (m:=1) (news:=[.int .i64 0,.string ⟨#[]⟩,.int .i64 s.size]) rfl _ _ rfl aMt rfl rfl (T.out.own.alloc _) (Rd.fC (n:=1) (cs:=[.int .i64 0,.string ⟨#[]⟩,.int .i64 s.size]) (Blk.new _ _ _) rfl (by decide)) (by simp[Value.oneCell']) (by omega) (by unfold maxLen;omega) ?_;intro A3 c3 w3 ho3 hf3 hv3;have O3:=hD ho3;have F3:=hD hf3;have V3:=hD hv3;clear ho3 hf3 hv3)
      go_ret3
      rw[LX.out,E1.out];refine⟨⟨_,rfl,?_,fun g hg=>?_⟩,?_⟩
      · have e1:dI (K++[⟨0,[],s.size⟩])=dI K++[.int .i64 0,.string ⟨#[]⟩,.int .i64 s.size]:=by simp[dI,bs]
        rw[e1,List.length_append];exact O3.out
      · have hg':blk (.slice A3 (K.length+1) c3)=some g:=hg
        rcases V3.out with h|h
        · exact T.out.new g (h ▸ hg')
        · rw[hg'] at h;injection h with h
          simp at h
          have:=F.out.size;omega
      · exact (F.out.alloc _).trans F3.out (fun _ _ x=>x) (fun b hb h=>by have:=T.out.new b h;omega)
structure aF where
 kind:Nat
 line:Nat
 n:Nat
 name:List UInt8
 l:List Nat
 deriving DecidableEq
structure PS where
 i:Nat
 nodes:List aF
 deep:Nat
 e:Nat
 place:Nat
abbrev lQ:Tok:=⟨0,[],0⟩
section
variable (src:List UInt8) (ts:List Tok)
def bE (s:PS):Tok:=ts.getD s.i lQ
def aO (k:Nat) (s:PS):PS:=if s.e=0 then { s with e:=k,place:=(bE ts s).place } else s
def pIs (x:List UInt8) (s:PS):Bool:=decide (s.e=0) && (decide ((bE ts s).kind=5) || decide ((bE ts s).kind=4)) && decide ((bE ts s).text=x)
def bA (k:Nat) (s:PS):Bool:=decide (s.e=0) && decide ((bE ts s).kind=k)
def pGo (s:PS):PS:={ s with i:=s.i+1 }
def aA (x:List UInt8) (s:PS):PS:=if pIs ts x s then pGo s else aO ts 20 s
def bK (s:PS):List UInt8:=if bA ts 3 s then (bE ts s).text else []
def aC (s:PS):PS:=if bA ts 3 s then pGo s else aO ts 20 s
def aS (s:PS):Nat:=iE src (bE ts s).place
def bM (kind line n:Nat) (name:List UInt8) (l:List Nat) (s:PS):List Nat×PS:=([s.nodes.length],{ s with nodes:=s.nodes++[⟨kind,line,n,name,l⟩] })
def aW (s:PS):PS:=let s:=if 16≤s.deep then aO ts 21 s else s;{ s with deep:=s.deep+1 }
def pUp (s:PS):PS:={ s with deep:=s.deep - 1 }
def dK:Nat→List (List UInt8)
 | 0=>[[124,124]]
 | 1=>[[38,38]]
 | 2=>[[60],[60,61],[61,61],[33,61]]
 | 3=>[[43],[45]]
 | _=>[[42],[47],[37]]
def eG (lv:Nat) (s:PS):List UInt8:=((dK lv).find? fun x=>pIs ts x s).getD []
def dU (s:PS):Bool:=bA ts 3 s && (decide ((ts.getD (s.i+1) lQ).kind=5) && decide ((ts.getD (s.i+1) lQ).text=[40]))
def bH (s:PS):List UInt8:=if bA ts 4 s then (bE ts s).text else []
def mH (w:List UInt8):Nat:=if w=[105,110,116] then 1 else if w=[98,111,111,108] then 2 else if w=[116,101,120,116] then 3 else if w=[108,105,115,116] then 4 else 0
def bQ (s:PS):Nat:=mH (bH ts s)
def aR (s:PS):PS:=if bQ ts s=0 then aO ts 20 s else pGo s
def aMs (l:List UInt8):Nat:=aP 0 l
inductive Task where
 | atom|factor|chain (lv:Nat)|more (lv line x:Nat)|args (l:List Nat)|call|right|block|stmts (l:List Nat)|named (line:Nat)|stmt
def run:Nat→Task→PS→Option (List Nat×PS)
 | 0,_,_=>none
 | f+1,.atom,s=>
  if s.e≠0 then some ([0],s)
  else if (bE ts s).kind=1 then some (bM 1 (aS src ts s) (aMs (bE ts s).text) [] [] (pGo s))
  else if (bE ts s).kind=2 then some (bM 3 (aS src ts s) 0 (bE ts s).text [] (pGo s))
  else if (bE ts s).kind=3 then
    if pIs ts [91] (pGo s) then
      (run f (.chain 0) (aA ts [91] (aW ts (pGo s)))).map fun r=>bM 5 (aS src ts s) 0 (bE ts s).text r.1 (pUp (aA ts [93] r.2))
    else some (bM 4 (aS src ts s) 0 (bE ts s).text [] (pGo s))
  else if pIs ts [116,114,117,101] s then some (bM 2 (aS src ts s) 1 [] [] (pGo s))
  else if pIs ts [102,97,108,115,101] s then some (bM 2 (aS src ts s) 0 [] [] (pGo s))
  else if pIs ts [108,101,110] s then
    if pIs ts [40] (pGo s) then
      (run f (.chain 0) (aA ts [40] (aW ts (pGo s)))).map fun r=>bM 6 (aS src ts s) 0 [] r.1 (pUp (aA ts [41] r.2))
    else some ([0],aO ts 20 (pGo s))
  else if pIs ts [40] s then (run f (.chain 0) (aA ts [40] (aW ts s))).map fun r=>(r.1,pUp (aA ts [41] r.2))
  else some ([0],aO ts 20 s)
 | f+1,.factor,s=>
  if pIs ts [45] s then (run f .factor (pGo (aW ts s))).map fun r=>bM 7 (aS src ts s) 0 [] r.1 (pUp r.2)
  else if pIs ts [33] s then (run f .factor (pGo (aW ts s))).map fun r=>bM 8 (aS src ts s) 0 [] r.1 (pUp r.2)
  else run f .atom s
 | f+1,.chain lv,s=>
  if lv=5 then run f .factor s
  else (run f (.chain (lv+1)) s).bind fun r=>run f (.more lv (aS src ts s) (r.1.headD 0)) r.2
 | f+1,.more lv line x,s=>
  if eG ts lv s=[] then some ([x],s)
  else (run f (.chain (lv+1)) (pGo s)).bind fun r=>
    let p:=bM 9 line 0 (eG ts lv s) [x,r.1.headD 0] r.2
    if lv=2 then some p else run f (.more lv line (p.1.headD 0)) p.2
 | f+1,.args l,s=>
  (run f (.chain 0) s).bind fun r=>if pIs ts [44] r.2 then run f (.args (l++r.1)) (pGo r.2) else some (l++r.1,r.2)
 | f+1,.call,s=>
  let s2:=aA ts [40] (aC ts s)
  (if pIs ts [41] s2=false∧s2.e=0 then run f (.args []) s2 else some ([],s2)).map fun r=>bM 21 (aS src ts s) 0 (bK ts s) r.1 (aA ts [41] r.2)
 | f+1,.right,s=>
  if pIs ts [105,110,112,117,116] s then some (bM 19 (aS src ts s) 0 [] [] (pGo s))
  else if pIs ts [110,101,119] s then
    (run f (.chain 0) (aA ts [40] (pGo s))).map fun r=>bM 20 (aS src ts s) 0 [] r.1 (aA ts [41] r.2)
  else if dU ts s then run f .call s
  else run f (.chain 0) s
 | f+1,.block,s=>
  if pIs ts [123] s then
    (run f (.stmts []) (aA ts [123] (aW ts s))).map fun r=>bM 18 (aS src ts s) 0 [] r.1 (pUp (aA ts [125] r.2))
  else some ([0],aO ts 20 s)
 | f+1,.stmts l,s=>
  if s.e≠0 then some (l,s)
  else if pIs ts [125] s then some (l,s)
  else (run f .stmt s).bind fun r=>run f (.stmts (l++r.1)) r.2
 | f+1,.named line,s=>
  if dU ts s then (run f .call s).map fun r=>bM 13 line 0 [] r.1 (aA ts [59] r.2)
  else if pIs ts [91] (aC ts s) then
    (run f (.chain 0) (aA ts [91] (aW ts (aC ts s)))).bind fun r=>
      (run f (.chain 0) (aA ts [61] (pUp (aA ts [93] r.2)))).map fun q=>bM 12 line 0 (bK ts s) (r.1++q.1) (aA ts [59] q.2)
  else (run f .right (aA ts [61] (aC ts s))).map fun r=>bM 11 line 0 (bK ts s) r.1 (aA ts [59] r.2)
 | f+1,.stmt,s=>
  if bH ts s=[108,101,116] then
    (run f .right (aA ts [61] (aC ts (pGo s)))).map fun r=>bM 10 (aS src ts s) 0 (bK ts (pGo s)) r.1 (aA ts [59] r.2)
  else if bH ts s=[112,114,105,110,116] then
    (run f (.chain 0) (pGo s)).map fun r=>bM 14 (aS src ts s) 0 [] r.1 (aA ts [59] r.2)
  else if bH ts s=[119,104,105,108,101] then
    (run f (.chain 0) (pGo s)).bind fun r=>(run f .block r.2).map fun b=>bM 16 (aS src ts s) 0 [] (r.1++b.1) b.2
  else if bH ts s=[105,102] then
    (run f (.chain 0) (pGo s)).bind fun r=>(run f .block r.2).bind fun b=>
      if pIs ts [101,108,115,101] b.2 then (run f .block (pGo b.2)).map fun c=>bM 15 (aS src ts s) 0 [] (r.1++b.1++c.1) c.2
      else some (bM 15 (aS src ts s) 0 [] (r.1++b.1) b.2)
  else if bH ts s=[114,101,116,117,114,110] then
    if pIs ts [59] (pGo s) then some (bM 17 (aS src ts s) 0 [] [] (aA ts [59] (pGo s)))
    else (run f (.chain 0) (pGo s)).map fun r=>bM 17 (aS src ts s) 0 [] r.1 (aA ts [59] r.2)
  else run f (.named (aS src ts s)) s
structure aD where
 name:List UInt8
 line:Nat
 params:List (List UInt8×Nat)
 ret:Nat
 body:Nat
def aH:Nat→List (List UInt8×Nat)→PS→Option (List (List UInt8×Nat)×PS)
 | 0,_,_=>none
 | f+1,acc,s=>
  let s1:=aC ts s
  let s2:=aR ts s1
  let acc2:=acc++[(bK ts s,bQ ts s1)]
  if pIs ts [44] s2 then aH f acc2 (pGo s2) else some (acc2,s2)
def bJ (f:Nat) (s:PS):Option (aD×PS):=
 let s1:=aA ts [102,110] s
 let s3:=aA ts [40] (aC ts s1)
 (if pIs ts [41] s3=false∧s3.e=0 then aH ts f [] s3 else some ([],s3)).bind fun p=>
   let s4:=aA ts [41] p.2
   let ret:=if pIs ts [123] s4 then 0 else bQ ts s4
   let s5:=if pIs ts [123] s4 then s4 else aR ts s4
   (run src ts f .block s5).map fun b=>(⟨bK ts s1,aS src ts s,p.1,ret,b.1.headD 0⟩,b.2)
def bC:Nat→List aD→PS→Option (List aD×PS)
 | 0,_,_=>none
 | f+1,acc,s=>
  if s.e≠0 then some (acc,s)
  else if bA ts 0 s then some (acc,s)
  else (bJ src ts f s).bind fun r=>bC f (acc++[r.1]) r.2
end
inductive tX where
 | good (nodes:List aF) (fns:List aD)
 | bad (p e:Nat)
def dY (ts:List Tok):Nat:=40*ts.length+100
def lH (src:List UInt8) (ts:List Tok):Option tX:=
 (bC src ts (dY ts) [] ⟨0,[],0,0,0⟩).map fun r=>
   if r.2.e≠0 then .bad r.2.place r.2.e
   else if 300<r.2.nodes.length∨6<r.1.length∨r.1.any (fun f=>decide (3<f.params.length))=true then .bad 0 4
   else .good r.2.nodes r.1
def parseM (src:List UInt8):Option tX:=
 match nG src with
 | .bad p e=>some (.bad p e)
 | .good ts=>lH src ts
structure Ext (s t:PS):Prop where
 i:s.i≤t.i
 err:s.e≠0→t.e=s.e∧t.place=s.place
 nodes:∃x,t.nodes=s.nodes++x
section
variable {src:List UInt8}{ts:List Tok}{s t u:PS}
theorem Ext.refl (s:PS):Ext s s:=⟨Nat.le_refl _,fun _=>⟨rfl,rfl⟩,[],by simp⟩
theorem Ext.trans (h:Ext s t) (g:Ext t u):Ext s u:=by
 refine⟨Nat.le_trans h.i g.i,fun he=>?_,?_⟩
 · obtain⟨a1,a2⟩:=h.err he
   obtain⟨b1,b2⟩:=g.err (by rw[a1];exact he);exact⟨b1.trans a1,b2.trans a2⟩
 · obtain⟨x,hx⟩:=h.nodes
   obtain⟨y,hy⟩:=g.nodes;exact⟨x++y,by rw[hy,hx,List.append_assoc]⟩
theorem Ext.fail (h:Ext s t) (k:Nat):Ext s (aO ts k t):=by
 refine h.trans ?_;unfold aO;split
 · rename_i h0;exact⟨Nat.le_refl _,fun he=>absurd h0 he,[],by simp⟩
 · exact Ext.refl _
theorem Ext.go (h:Ext s t):Ext s (pGo t):=h.trans ⟨Nat.le_succ _,fun _=>⟨rfl,rfl⟩,[],by simp[pGo]⟩
theorem Ext.up (h:Ext s t):Ext s (pUp t):=h.trans ⟨Nat.le_refl _,fun _=>⟨rfl,rfl⟩,[],by simp[pUp]⟩
theorem Ext.down (h:Ext s t):Ext s (aW ts t):=by
 unfold aW;simp only;split
 · exact (h.fail (ts:=ts) 21).trans ⟨Nat.le_refl _,fun _=>⟨rfl,rfl⟩,[],by simp⟩
 · exact h.trans ⟨Nat.le_refl _,fun _=>⟨rfl,rfl⟩,[],by simp⟩
theorem Ext.must (h:Ext s t) (x:List UInt8):Ext s (aA ts x t):=by
 unfold aA;split
 · exact h.go
 · exact h.fail _
theorem Ext.named (h:Ext s t):Ext s (aC ts t):=by
 unfold aC;split
 · exact h.go
 · exact h.fail _
theorem Ext.typed (h:Ext s t):Ext s (aR ts t):=by
 unfold aR;split
 · exact h.fail _
 · exact h.go
theorem Ext.put (h:Ext s t) (kind line n:Nat) (name:List UInt8) (l:List Nat):Ext s (bM kind line n name l t).2:=
 h.trans ⟨Nat.le_refl _,fun _=>⟨rfl,rfl⟩,[⟨kind,line,n,name,l⟩],rfl⟩
theorem vU (h:(bE ts s).kind≠0):s.i<ts.length:=by
 by_cases hl:s.i<ts.length
 · exact hl
 · refine absurd ?_ h
   unfold bE;rw[List.getD,List.getElem?_eq_none (by omega)];rfl
theorem aN {x:List UInt8} (h:pIs ts x s=true):s.e=0∧(bE ts s).kind≠0∧(bE ts s).text=x:=by
 unfold pIs at h;simp at h
 exact⟨h.1.1,by omega,h.2⟩
theorem aHi {x:List UInt8} (h:pIs ts x s=true):s.i<ts.length:=vU (aN h).2.1
theorem aM {k:Nat} (h:bA ts k s=true):s.e=0∧(bE ts s).kind=k:=by
 unfold bA at h;simpa using h
theorem zF (h:dU ts s=true):bA ts 3 s=true:=by
 unfold dU at h;simp at h
 exact h.1
theorem nR {x:List UInt8} (hx:x≠[]) (h:bH ts s=x):s.e=0∧(bE ts s).kind=4:=by
 unfold bH at h;split at h
 · rename_i hk;exact aM hk
 · exact absurd h.symm hx
theorem tC {lv:Nat} (h:eG ts lv s≠[]):s.e=0∧s.i<ts.length:=by
 unfold eG at h;cases hf:(dK lv).find? fun x=>pIs ts x s with
 | none=>rw[hf] at h;simp at h
 | some x=>
  have:=List.find?_some hf;exact⟨(aN this).1,aHi this⟩
theorem aI:∀(n:Nat) (k:Task) (s:PS) (r:List Nat×PS),run src ts n k s=some r→Ext s r.2:=by
 intro n;induction n with
 | zero=>intro k s r h;simp[run] at h
 | succ n ih=>
  intro k s r h;cases k<;>simp only[run] at h<;>
   (repeat' split at h)<;>
   (try simp only[mS,bS,Option.some.injEq] at h)<;>
   (try (obtain⟨q1,h1,h⟩:=h))<;>
   (repeat' split at h)<;>
   (try simp only[mS,bS,Option.some.injEq] at h)<;>
   (try (obtain⟨q2,h2,h⟩:=h))<;>
   (repeat' split at h)<;>
   (try simp only[mS,bS,Option.some.injEq] at h)<;>
   (try (obtain⟨q3,h3,h⟩:=h))<;>
   (try subst h)<;>
   (try subst h1)<;>
   (repeat (first
     | exact Ext.refl _
     | apply Ext.put
     | apply Ext.up
     | apply Ext.must
     | apply Ext.named
     | apply Ext.typed
     | apply Ext.go
     | apply Ext.down
     | apply Ext.fail
     | refine Ext.trans ?_ (ih _ _ _ (by assumption))
     | dsimp only))
def rem (ts:List Tok) (s:PS):Nat:=if s.e=0 then 16*(ts.length - s.i) else 0
theorem dX (h:Ext s t):rem ts t≤rem ts s:=by
 unfold rem;have hi:=h.i;by_cases h0:s.e=0
 · rw[if_pos h0];split<;>omega
 · rw[if_neg h0,if_neg (by rw[(h.err h0).1];exact h0)];omega
theorem sJ (h0:s.e=0) (hi:s.i<ts.length) (h:Ext (pGo s) t):rem ts t+16≤rem ts s:=by
 have h1:rem ts t≤rem ts (pGo s):=dX h;have h2:rem ts (pGo s)=16*(ts.length - (s.i+1)):=by unfold rem;rw[if_pos (show (pGo s).e=0 from h0)];rfl
 have h3:rem ts s=16*(ts.length - s.i):=by unfold rem;rw[if_pos h0]
 omega
theorem sI {x:List UInt8} (hx:pIs ts x s=true) (h:Ext (pGo s) t):rem ts t+16≤rem ts s:=sJ (aN hx).1 (aHi hx) h
theorem uJ {x:List UInt8} (hx:pIs ts x s=true):rem ts (aA ts x (aW ts s))+16≤rem ts s:=by
 have h0:=(aN hx).1;have hi:=aHi hx;have h3:rem ts s=16*(ts.length - s.i):=by unfold rem;rw[if_pos h0]
 unfold aW;by_cases hd:16≤s.deep
 · have he:(aW ts s).e=21:=by
    unfold aW aO;simp only;rw[if_pos hd,if_pos h0]
   have e1:=((Ext.refl (aW ts s)).must (ts:=ts) x).err (by rw[he];decide);have:rem ts (aA ts x (aW ts s))=0:=by
    unfold rem;rw[if_neg (by rw[e1.1,he];decide)]
   unfold aW at this;rw[this];omega
 · simp only
   rw[if_neg hd];have h4:pIs ts x { s with deep:=s.deep+1 }=true:=hx;unfold aA;rw[if_pos h4];have:rem ts (pGo { s with deep:=s.deep+1 })=16*(ts.length - (s.i+1)):=by
    unfold rem;rw[if_pos (show (pGo { s with deep:=s.deep+1 }).e=0 from h0)];rfl
   omega
def cost:Task→Nat
 | .atom=>1 | .factor=>2 | .chain lv=>8 - lv | .more _ _ _=>2 | .args _=>9 | .call=>10 | .right=>11 | .named _=>12 | .stmt=>13 | .stmts _=>14 | .block=>15
def fT:Task→Prop
 | .chain lv=>lv≤5
 | .more lv _ _=>lv≤4
 | _=>True
theorem qZ (s:PS):Ext (pGo s) (pGo (aW ts s)):=by
 have h:=(Ext.refl s).down (ts:=ts);exact⟨Nat.succ_le_succ h.i,fun he=>h.err he,h.nodes⟩
theorem aHo {n line:Nat}{r:List Nat×PS} (h:run src ts n (.named line) s=some r) (hc:dU ts s=false):Ext (aC ts s) r.2:=by
 cases n with
 | zero=>simp[run] at h
 | succ n=>
  simp only[run] at h;rw[if_neg (by rw[hc];simp)] at h;split at h
  · simp only[mS,bS] at h
    obtain⟨q1,h1,q2,h2,h⟩:=h;subst h
    (repeat (first
      | exact Ext.refl _
      | apply Ext.put
      | apply Ext.up
      | apply Ext.must
      | (refine Ext.trans ?_ (aI _ _ _ _ (by assumption)))
      | apply Ext.named
      | apply Ext.typed
      | apply Ext.go
      | apply Ext.down
      | apply Ext.fail
      | dsimp only))
  · simp only[mS] at h
    obtain⟨q1,h1,h⟩:=h;subst h
    (repeat (first
      | exact Ext.refl _
      | apply Ext.put
      | apply Ext.up
      | apply Ext.must
      | (refine Ext.trans ?_ (aI _ _ _ _ (by assumption)))
      | apply Ext.named
      | apply Ext.typed
      | apply Ext.go
      | apply Ext.down
      | apply Ext.fail
      | dsimp only))
theorem aMo {n:Nat}{r:List Nat×PS} (h:run src ts n .call s=some r):Ext (aC ts s) r.2:=by
 cases n with
 | zero=>simp[run] at h
 | succ n=>
  simp only[run] at h;split at h<;>
   simp only[mS,Option.some.injEq] at h<;>
   obtain⟨q1,h1,h⟩:=h<;>
   subst h<;>
   (try subst h1)<;>
   (repeat (first
     | exact Ext.refl _
     | apply Ext.put
     | apply Ext.up
     | apply Ext.must
     | (refine Ext.trans ?_ (aI _ _ _ _ (by assumption)))
     | apply Ext.named
     | apply Ext.typed
     | apply Ext.go
     | apply Ext.down
     | apply Ext.fail
     | dsimp only))
theorem tH (h:Ext (aC ts s) t) (h0:s.e=0):t.e≠0∨rem ts t+16≤rem ts s:=by
 unfold aC at h;by_cases hk:bA ts 3 s=true
 · rw[if_pos hk] at h
   exact .inr (sJ h0 (vU (by rw[(aM hk).2];decide)) h)
 · rw[if_neg hk] at h
   left
   have he:(aO ts 20 s).e=20:=by unfold aO;rw[if_pos h0]
   rw[(h.err (by rw[he];decide)).1,he];decide
theorem aFj {n:Nat}{r:List Nat×PS} (h:run src ts n .stmt s=some r) (h0:s.e=0):r.2.e≠0∨rem ts r.2+16≤rem ts s:=by
 cases n with
 | zero=>simp[run] at h
 | succ n=>
  have word:∀x,x≠[]→bH ts s=x→Ext (pGo s) r.2→rem ts r.2+16≤rem ts s:=fun x hx hw he=>by
    obtain⟨_,hk4⟩:=nR hx hw;exact sJ h0 (vU (by rw[hk4];decide)) he
  simp only[run] at h;split at h
  · rename_i hw
    refine .inr (word _ (by decide) hw ?_);simp only[mS] at h;obtain⟨q1,h1,h⟩:=h;subst h
    (repeat (first
      | exact Ext.refl _
      | apply Ext.put
      | apply Ext.up
      | apply Ext.must
      | (refine Ext.trans ?_ (aI _ _ _ _ (by assumption)))
      | apply Ext.named
      | apply Ext.typed
      | apply Ext.go
      | apply Ext.down
      | apply Ext.fail
      | dsimp only))
  · split at h
    · rename_i hw
      refine .inr (word _ (by decide) hw ?_);simp only[mS] at h;obtain⟨q1,h1,h⟩:=h;subst h
      (repeat (first
      | exact Ext.refl _
      | apply Ext.put
      | apply Ext.up
      | apply Ext.must
      | (refine Ext.trans ?_ (aI _ _ _ _ (by assumption)))
      | apply Ext.named
      | apply Ext.typed
      | apply Ext.go
      | apply Ext.down
      | apply Ext.fail
      | dsimp only))
    · split at h
      · rename_i hw
        refine .inr (word _ (by decide) hw ?_);simp only[mS,bS] at h;obtain⟨q1,h1,q2,h2,h⟩:=h;subst h
        (repeat (first
      | exact Ext.refl _
      | apply Ext.put
      | apply Ext.up
      | apply Ext.must
      | (refine Ext.trans ?_ (aI _ _ _ _ (by assumption)))
      | apply Ext.named
      | apply Ext.typed
      | apply Ext.go
      | apply Ext.down
      | apply Ext.fail
      | dsimp only))
      · split at h
        · rename_i hw
          refine .inr (word _ (by decide) hw ?_);simp only[bS] at h;obtain⟨q1,h1,q2,h2,h⟩:=h;split at h
          · simp only[mS] at h
            obtain⟨q3,h3,h⟩:=h;subst h
            (repeat (first
      | exact Ext.refl _
      | apply Ext.put
      | apply Ext.up
      | apply Ext.must
      | (refine Ext.trans ?_ (aI _ _ _ _ (by assumption)))
      | apply Ext.named
      | apply Ext.typed
      | apply Ext.go
      | apply Ext.down
      | apply Ext.fail
      | dsimp only))
          · simp only[Option.some.injEq] at h
            subst h
            (repeat (first
      | exact Ext.refl _
      | apply Ext.put
      | apply Ext.up
      | apply Ext.must
      | (refine Ext.trans ?_ (aI _ _ _ _ (by assumption)))
      | apply Ext.named
      | apply Ext.typed
      | apply Ext.go
      | apply Ext.down
      | apply Ext.fail
      | dsimp only))
        · split at h
          · rename_i hw
            refine .inr (word _ (by decide) hw ?_);split at h
            · simp only[Option.some.injEq] at h
              subst h
              (repeat (first
      | exact Ext.refl _
      | apply Ext.put
      | apply Ext.up
      | apply Ext.must
      | (refine Ext.trans ?_ (aI _ _ _ _ (by assumption)))
      | apply Ext.named
      | apply Ext.typed
      | apply Ext.go
      | apply Ext.down
      | apply Ext.fail
      | dsimp only))
            · simp only[mS] at h
              obtain⟨q1,h1,h⟩:=h;subst h
              (repeat (first
      | exact Ext.refl _
      | apply Ext.put
      | apply Ext.up
      | apply Ext.must
      | (refine Ext.trans ?_ (aI _ _ _ _ (by assumption)))
      | apply Ext.named
      | apply Ext.typed
      | apply Ext.go
      | apply Ext.down
      | apply Ext.fail
      | dsimp only))
          · by_cases hc:dU ts s=true
            · cases n with
              | zero=>simp[run] at h
              | succ n=>
                simp only[run] at h;rw[if_pos hc] at h;simp only[mS] at h;obtain⟨q1,h1,h⟩:=h;subst h;exact tH (((aMo h1).must _).put _ _ _ _ _) h0
            · exact tH (aHo h (by simpa using hc)) h0
theorem aAx:∀(n:Nat) (k:Task) (s:PS),fT k→rem ts s+cost k≤n→∃r,run src ts n k s=some r:=by
 intro n;induction n with
 | zero=>intro k s hk h;cases k<;>simp[cost] at h<;>(simp[fT] at hk)<;>omega
 | succ n ih=>
  intro k s hk h;cases k with
  | atom=>
   simp only[cost] at h;simp only[run];split
   · exact⟨_,rfl⟩
   · rename_i h0
     have h0:s.e=0:=by simpa using h0
     split
     · exact⟨_,rfl⟩
     · split
       · exact⟨_,rfl⟩
       · split
         · rename_i hk3
           split
           · rename_i hx
             have hr:=uJ hx;have hg:=sJ (ts:=ts) h0 (vU (by rw[hk3];decide)) (Ext.refl (pGo s));obtain⟨q,hq⟩:=ih (.chain 0) (aA ts [91] (aW ts (pGo s))) (by simp[fT]) (by simp only[cost];omega);rw[hq];exact⟨_,rfl⟩
           · exact⟨_,rfl⟩
         · split
           · exact⟨_,rfl⟩
           · split
             · exact⟨_,rfl⟩
             · split
               · rename_i hl
                 split
                 · rename_i hx
                   have hr:=uJ hx;have hg:=sI hl (Ext.refl (pGo s));obtain⟨q,hq⟩:=ih (.chain 0) (aA ts [40] (aW ts (pGo s))) (by simp[fT]) (by simp only[cost];omega);rw[hq];exact⟨_,rfl⟩
                 · exact⟨_,rfl⟩
               · split
                 · rename_i hx
                   have hr:=uJ hx;obtain⟨q,hq⟩:=ih (.chain 0) (aA ts [40] (aW ts s)) (by simp[fT]) (by simp only[cost];omega);rw[hq];exact⟨_,rfl⟩
                 · exact⟨_,rfl⟩
  | factor=>
   simp only[cost] at h;simp only[run];split
   · rename_i hx
     have hg:=sI hx (qZ (ts:=ts) s);obtain⟨q,hq⟩:=ih .factor (pGo (aW ts s)) trivial (by simp only[cost];omega);rw[hq];exact⟨_,rfl⟩
   · split
     · rename_i hx
       have hg:=sI hx (qZ (ts:=ts) s);obtain⟨q,hq⟩:=ih .factor (pGo (aW ts s)) trivial (by simp only[cost];omega);rw[hq];exact⟨_,rfl⟩
     · exact ih .atom s trivial (by simp only[cost];omega)
  | chain lv=>
   simp only[fT] at hk;simp only[cost] at h;simp only[run];split
   · exact ih .factor s trivial (by simp only[cost];omega)
   · obtain⟨q,hq⟩:=ih (.chain (lv+1)) s (by simp only[fT];omega) (by simp only[cost];omega)
     rw[hq];have he:=dX (ts:=ts) (aI _ _ _ _ hq);exact ih (.more lv _ _) q.2 (by simp only[fT];omega) (by simp only[cost];omega)
  | more lv line x=>
   simp only[fT] at hk;simp only[cost] at h;simp only[run];split
   · exact⟨_,rfl⟩
   · rename_i hx
     obtain⟨h0,hi⟩:=tC hx;have hg:=sJ (ts:=ts) h0 hi (Ext.refl (pGo s));obtain⟨q,hq⟩:=ih (.chain (lv+1)) (pGo s) (by simp only[fT];omega) (by simp only[cost];omega);rw[hq];have he:=dX (ts:=ts) (aI _ _ _ _ hq);simp only[Option.bind_some];split
     · exact⟨_,rfl⟩
     · have hp:=dX (ts:=ts) ((Ext.refl q.2).put 9 line 0 (eG ts lv s) [x,q.1.headD 0])
       exact ih (.more lv line _) _ (by simp only[fT];omega) (by simp only[cost];omega)
  | args l=>
   simp only[cost] at h;simp only[run];obtain⟨q,hq⟩:=ih (.chain 0) s (by simp[fT]) (by simp only[cost];omega);rw[hq];have he:=dX (ts:=ts) (aI _ _ _ _ hq);simp only[Option.bind_some];split
   · rename_i hx
     have hg:=sI hx (Ext.refl (pGo q.2));exact ih (.args _) _ trivial (by simp only[cost];omega)
   · exact⟨_,rfl⟩
  | call=>
   simp only[cost] at h;simp only[run];have he:=dX (ts:=ts) (((Ext.refl s).named (ts:=ts)).must (ts:=ts) [40]);split
   · obtain⟨q,hq⟩:=ih (.args []) (aA ts [40] (aC ts s)) trivial (by simp only[cost];omega)
     rw[hq];exact⟨_,rfl⟩
   · exact⟨_,rfl⟩
  | right=>
   simp only[cost] at h;simp only[run];split
   · exact⟨_,rfl⟩
   · split
     · have he:=dX (ts:=ts) (((Ext.refl s).go).must (ts:=ts) [40])
       obtain⟨q,hq⟩:=ih (.chain 0) (aA ts [40] (pGo s)) (by simp[fT]) (by simp only[cost];omega);rw[hq];exact⟨_,rfl⟩
     · split
       · exact ih .call s trivial (by simp only[cost];omega)
       · exact ih (.chain 0) s (by simp[fT]) (by simp only[cost];omega)
  | block=>
   simp only[cost] at h;simp only[run];split
   · have he:=dX (ts:=ts) (((Ext.refl s).down (ts:=ts)).must (ts:=ts) [123])
     obtain⟨q,hq⟩:=ih (.stmts []) (aA ts [123] (aW ts s)) trivial (by simp only[cost];omega);rw[hq];exact⟨_,rfl⟩
   · exact⟨_,rfl⟩
  | stmts l=>
   simp only[cost] at h;simp only[run];split
   · exact⟨_,rfl⟩
   · rename_i h0
     have h0:s.e=0:=by simpa using h0
     split
     · exact⟨_,rfl⟩
     · obtain⟨q,hq⟩:=ih .stmt s trivial (by simp only[cost];omega)
       rw[hq];simp only[Option.bind_some];by_cases hq0:q.2.e=0
       · have hg:=(aFj hq h0).resolve_left (fun x=>x hq0)
         exact ih (.stmts _) _ trivial (by simp only[cost];omega)
       · cases n with
         | zero=>omega
         | succ n=>exact⟨(l++q.1,q.2),by simp only[run];rw[if_pos hq0]⟩
  | named line=>
   simp only[cost] at h;simp only[run];split
   · obtain⟨q,hq⟩:=ih .call s trivial (by simp only[cost];omega)
     rw[hq];exact⟨_,rfl⟩
   · split
     · have he:=dX (ts:=ts) ((((Ext.refl s).named (ts:=ts)).down (ts:=ts)).must (ts:=ts) [91])
       obtain⟨q,hq⟩:=ih (.chain 0) (aA ts [91] (aW ts (aC ts s))) (by simp[fT]) (by simp only[cost];omega);rw[hq];have he2:=dX (ts:=ts) (((aI _ _ _ _ hq).must (ts:=ts) [93]).up.must (ts:=ts) [61]);obtain⟨q2,hq2⟩:=ih (.chain 0) (aA ts [61] (pUp (aA ts [93] q.2))) (by simp[fT]) (by simp only[cost];omega);simp only[Option.bind_some];rw[hq2];exact⟨_,rfl⟩
     · have he:=dX (ts:=ts) (((Ext.refl s).named (ts:=ts)).must (ts:=ts) [61])
       obtain⟨q,hq⟩:=ih .right (aA ts [61] (aC ts s)) trivial (by simp only[cost];omega);rw[hq];exact⟨_,rfl⟩
  | stmt=>
   simp only[cost] at h;simp only[run];have goes:∀x,x≠[]→bH ts s=x→rem ts (pGo s)+16≤rem ts s:=fun x hx hw=>by
     obtain⟨h0,hk4⟩:=nR hx hw;exact sJ h0 (vU (by rw[hk4];decide)) (Ext.refl _)
   split
   · rename_i hw
     have hg:=goes _ (by decide) hw;have he:=dX (ts:=ts) (((Ext.refl (pGo s)).named (ts:=ts)).must (ts:=ts) [61]);obtain⟨q,hq⟩:=ih .right (aA ts [61] (aC ts (pGo s))) trivial (by simp only[cost];omega);rw[hq];exact⟨_,rfl⟩
   · split
     · rename_i hw
       have hg:=goes _ (by decide) hw;obtain⟨q,hq⟩:=ih (.chain 0) (pGo s) (by simp[fT]) (by simp only[cost];omega);rw[hq];exact⟨_,rfl⟩
     · split
       · rename_i hw
         have hg:=goes _ (by decide) hw;obtain⟨q,hq⟩:=ih (.chain 0) (pGo s) (by simp[fT]) (by simp only[cost];omega);rw[hq];have he:=dX (ts:=ts) (aI _ _ _ _ hq);obtain⟨b,hb⟩:=ih .block q.2 trivial (by simp only[cost];omega);simp only[Option.bind_some];rw[hb];exact⟨_,rfl⟩
       · split
         · rename_i hw
           have hg:=goes _ (by decide) hw;obtain⟨q,hq⟩:=ih (.chain 0) (pGo s) (by simp[fT]) (by simp only[cost];omega);rw[hq];have he:=dX (ts:=ts) (aI _ _ _ _ hq);obtain⟨b,hb⟩:=ih .block q.2 trivial (by simp only[cost];omega);simp only[Option.bind_some];rw[hb];have he2:=dX (ts:=ts) (aI _ _ _ _ hb);simp only[Option.bind_some];split
           · have he3:=dX (ts:=ts) ((Ext.refl b.2).go)
             obtain⟨c,hc⟩:=ih .block (pGo b.2) trivial (by simp only[cost];omega);rw[hc];exact⟨_,rfl⟩
           · exact⟨_,rfl⟩
         · split
           · rename_i hw
             have hg:=goes _ (by decide) hw;split
             · exact⟨_,rfl⟩
             · obtain⟨q,hq⟩:=ih (.chain 0) (pGo s) (by simp[fT]) (by simp only[cost];omega)
               rw[hq];exact⟨_,rfl⟩
           · exact ih (.named _) s trivial (by simp only[cost];omega)
end
theorem aNg:vN Tryz.prog 23 50 5 64 (.agg #[.int .i64 0,.int .i64 0,.int .i64 0,.string ⟨#[]⟩,.slice none 0 0]):=vN.mk' (by kernel_rfl) (by kernel_rfl) rfl (by decide)
def aJr (w:World) (k:Nat):Prop:=∃cs f,w.heap[k]?=some (.cells cs 50 f)
def FrR (g:Nat) (w w':World):Prop:=Fr (fun k=>k=g∨(g<k∧aJr w k)) w w'
theorem FrR.trans {g:Nat}{w w1 w2:World} (h:FrR g w w1) (h2:FrR g w1 w2):FrR g w w2:=by
 refine Fr.trans h h2 (fun _ _ x=>x) (fun k hk hM=>?_);rcases hM with rfl|⟨hgk,cs,f,hc⟩
 · exact .inl rfl
 · by_cases hn:k=g∨(g<k∧aJr w k)
   · exact hn
   · have:=h.block k hk hn
     exact .inr ⟨hgk,cs,f,by rw[←this];exact hc⟩
theorem FrR.no {g:Nat}{w w1:World} (h:Fr nob w w1):FrR g w w1:=Fr.aLl h
theorem FrR.blk {g b t:Nat}{cs:Array Value}{w w':World} (h:FrR g w w') (hb:Blk w b t cs) (h1:b≠g) (h2:t≠50):Blk w' b t cs:=by
 refine hb.fr h ?_;rintro (e|⟨_,cs',f,hc⟩)
 · exact h1 e
 · unfold Blk at hb
   rw[hb] at hc;injection hc with hc;injection hc with _ ht;exact h2 ht
def jX (n:aF) (lv:Value):List Value:=[.int .i64 n.kind,.int .i64 n.line,.int .i64 n.n,.string (bs n.name),lv]
def bX:List aF→List Value→List Value
 | n :: ns,v :: vs=>jX n v++bX ns vs
 | _,_=>[]
theorem gG:∀(ns:List aF) (vs:List Value) (n:aF) (v:Value),ns.length=vs.length→bX (ns++[n]) (vs++[v])=bX ns vs++jX n v
 | [],[],n,v,_=>by simp[bX]
 | [],_ :: _,_,_,h=>by simp at h
 | _ :: _,[],_,_,h=>by simp at h
 | a :: ns,b :: vs,n,v,h=>by
  rw[List.cons_append,List.cons_append,bX,gG ns vs n v (by simpa using h),bX,List.append_assoc]
def ints (l:List Nat):List Value:=l.map fun (x:Nat)=>Value.int .i64 (x:Int)
def bG (w:World):List aF→List Value→Prop
 | [],[]=>True
 | n :: ns,v :: vs=>Own w 3 1 v n.l.length (ints n.l)∧bG w ns vs
 | _,_=>False
structure aQ (ts:List Tok):Prop where
 pos:0<ts.length
 few:ts.length≤1000
 at_:∀t∈ts,t.kind≤5∧t.place≤1000
 last:(ts.getD (ts.length - 1) lQ).kind=0
 nums:∀t∈ts,t.kind=1→t.text≠[]∧cZ t.text∧aP 0 t.text≤9223372036854775807
 short:∀t∈ts,t.text.length≤1000
structure bO (ts:List Tok) (s:PS):Prop where
 room:s.i<ts.length
 deep:s.deep≤17
 fine:s.e=0→s.deep≤16
 err:s.e≤21
 place:s.place≤1000
structure Rdr (src:ByteArray) (tb tc:Nat) (ts:List Tok) (g:Nat) (lvs:List Value) (w:World) (s:PS):Prop where
 cells:∃nv,Blk w g 88 #[.string src,.slice (some ⟨tb,0,none⟩) ts.length tc,.int .i64 s.i,nv,.int .i64 s.deep,.int .i64 s.e,.int .i64 s.place]∧Own w 50 5 nv s.nodes.length (bX s.nodes lvs)
 below:bG w s.nodes lvs
 same:s.nodes.length=lvs.length
 toks:∃b0,xQ b0 w (.slice (some ⟨tb,0,none⟩) ts.length tc) ts
 newer:∀nv,w.cell? ⟨g,3,none⟩=some nv→∀k,blk nv=some k→g<k
section
variable {src:ByteArray}{tb tc:Nat}{ts:List Tok}{g:Nat}{lvs:List Value}{w w':World}{s:PS}
theorem bG.no:∀{ns:List aF}{vs:List Value},bG w ns vs→Fr nob w w'→bG w' ns vs
 | [],[],_,_=>trivial
 | [],_ :: _,h,_=>h.elim
 | _ :: _,[],h,_=>h.elim
 | _ :: _,_ :: _,h,f=>⟨h.1.fr f (fun _ _ x=>x),bG.no h.2 f⟩
theorem Rdr.no (h:Rdr src tb tc ts g lvs w s) (f:Fr nob w w'):Rdr src tb tc ts g lvs w' s:=by
 obtain⟨nv,hb,ho⟩:=h.cells;obtain⟨b0,ht⟩:=h.toks;exact⟨⟨nv,hb.fr f (fun x=>x),ho.fr f (fun _ _ x=>x)⟩,h.below.no f,h.same,⟨b0,ht.no f⟩,fun nv h1=>h.newer nv (by rw[←f.cell (p:=⟨g,3,none⟩) hb.lt (fun x=>x)];exact h1)⟩
theorem Rdr.tok (h:Rdr src tb tc ts g lvs w s) (hk:bO ts s):ts[s.i]?=some (bE ts s)∧tb<w.heap.size ∧
  w.cell? ⟨tb,s.i*3,none⟩=some (.int .i64 (bE ts s).kind)∧w.cell? ⟨tb,s.i*3+1,none⟩=some (.string (bs (bE ts s).text))∧w.cell? ⟨tb,s.i*3+2,none⟩=some (.int .i64 (bE ts s).place):=by
 obtain⟨b0,ht⟩:=h.toks;have hi:ts[s.i]?=some (bE ts s):=by
  unfold bE;rw[List.getD,gE hk.room];rfl
 obtain⟨g2,hg,_,hlt,hat⟩:=ht.some (by have:=hk.room;omega);injection hg with hg;injection hg with hg;subst hg;exact⟨hi,hlt,hat s.i _ hi⟩
end
theorem pJ {src:ByteArray}{tb tc:Nat}{ts:List Tok}{g:Nat}{lvs:List Value}{w:World}{s:PS} (h:Rdr src tb tc ts g lvs w s) (hk:bO ts s) (k:Nat):
   Calls Tryz.prog 56 #[.pointer (some ⟨g,0,none⟩),.int .i64 k] w fun e w'=>e = .returned (.bool (bA ts k s))∧Fr nob w w':=by
 obtain⟨nv,hb,ho⟩:=h.cells;obtain⟨hi,htb,x0,x1,x2⟩:=h.tok hk;have c1:=hb.cell 1;have c2:=hb.cell 2;have c5:=hb.cell 5;have hr:(s.i:Int)<(ts.length:Int):=by have:=hk.room;omega
 unfold bA;clear x1 x2 hi ho hb h hk;simp at c1 c2 c5
 generalize (bE ts s).kind=tk at *;by_cases he:s.e=0
 · have heb:((s.e:Int)==0)=true:=by rw[he];rfl
   rw[decide_eq_true he,Bool.true_and];clear he;by_cases h2:tk=k
   · have h2b:((tk:Int)==(k:Int))=true:=by rw[h2];simp
     rw[decide_eq_true h2];clear h2;go_enter Tryz.func56,Tryz.ntmps56;go_wp2
     go_quiet (fail)
     go_wp2
     go_ret;exact⟨rfl,(fR w).drewN _⟩
   · have h2b:((tk:Int)==(k:Int))=false:=bN.2 (by omega)
     rw[decide_eq_false h2];clear h2;go_enter Tryz.func56,Tryz.ntmps56;go_wp2
     go_quiet (fail)
     go_wp2
     go_ret;exact⟨rfl,(fR w).drewN _⟩
 · have heb:((s.e:Int)==0)=false:=bN.2 (by omega)
   rw[decide_eq_false he,Bool.false_and];clear he;go_enter Tryz.func56,Tryz.ntmps56;go_wp2
   go_quiet (fail)
   go_wp2
   go_ret;exact⟨rfl,(fR w).drewN _⟩
theorem aHx {src:ByteArray}{tb tc:Nat}{ts:List Tok}{g:Nat}{lvs:List Value}{w:World}{s:PS} (h:Rdr src tb tc ts g lvs w s) (hk:bO ts s) (X:ByteArray):
   Calls Tryz.prog 91 #[.pointer (some ⟨g,0,none⟩),.string X] w fun e w'=>e = .returned (.bool (pIs ts X.data.toList s))∧Fr nob w w':=by
 obtain⟨nv,hb,ho⟩:=h.cells;obtain⟨hi,htb,x0,x1,x2⟩:=h.tok hk;have hg:=hb.lt;have c1:=hb.cell 1;have c2:=hb.cell 2;have c5:=hb.cell 5;have hr:(s.i:Int)<(ts.length:Int):=by have:=hk.room;omega
 have hx:(bs (bE ts s).text).toList=(bE ts s).text:=by rw[ByteArray.toList_eq];rfl
 have hX:X.toList=X.data.toList:=ByteArray.toList_eq X;unfold pIs;clear hi ho hb h hk;simp at c1 c2 c5
 generalize (bE ts s).kind=tk at *;generalize (bE ts s).place=tp at *;generalize (bE ts s).text=tt at *;generalize hbt:bs tt=bt at *;have n1:=World.new_ne w ⟨g,1,none⟩ c1;have n2:=World.new_ne w ⟨tb,s.i*3,none⟩ x0;obtain⟨R,hR⟩:∃R,(decide (s.e=0) && (decide (tk=5) || decide (tk=4)) && decide (tt=X.data.toList))=R:=⟨_,rfl⟩;rw[hR];have HR:=hD hR;have HX:=hD hx;have HX2:=hD hX;clear hR;clear hx hX hbt;go_enter Tryz.func91,Tryz.ntmps91;go_wp2
 go_region_held3 (fun wx=>wx.cell? ⟨g,1,none⟩=some (.slice (some ⟨tb,0,none⟩) ts.length tc)∧wx.cell? ⟨g,2,none⟩=some (.int .i64 s.i)∧wx.cell? ⟨g,5,none⟩=some (.int .i64 s.e)∧wx.cell? ⟨tb,s.i*3,none⟩=some (.int .i64 tk)∧wx.cell? ⟨tb,s.i*3+1,none⟩=some (.string bt)∧wx.cell? ⟨tb,s.i*3+2,none⟩=some (.int .i64 tp)) (go_keep) (first|fail)
 have FR:=hD (show Fr nob w (w.alloc (.cells #[.int .i64 tk,.string bt,.int .i64 tp] 115)).drew from ((fR w).alloc _).drew);clear c1 c2 x0 x1 x2 n1 n2;by_cases he:s.e=0
 · have heb:((s.e:Int)==0)=true:=by rw[he];rfl
   by_cases hT:tt=X.data.toList
   case' pos=>have htb:(bt.toList==X.toList)=true:=by rw[HX.out,HX2.out,hT];simp
   case' neg=>have htb:(bt.toList==X.toList)=false:=by rw[HX.out,HX2.out];exact bN.2 hT
   all_goals
    by_cases h5:tk=5
    · have h5b:((tk:Int)==5)=true:=by rw[h5];rfl
      obtain⟨b,hb⟩:∃b,decide (tt=X.data.toList)=b:=⟨_,rfl⟩;have hRb:R=b:=by rw[←HR.out,decide_eq_true he,decide_eq_true h5,hb];rfl
      first|(rw[decide_eq_true hT] at hb)|(rw[decide_eq_false hT] at hb)
      subst hb;subst hRb;clear h5 hT he;go_wp2
      go_ret;exact⟨rfl,FR.out⟩
    · have h5b:((tk:Int)==5)=false:=bN.2 (by omega)
      by_cases h4:tk=4
      · have h4b:((tk:Int)==4)=true:=by rw[h4];rfl
        obtain⟨b,hb⟩:∃b,decide (tt=X.data.toList)=b:=⟨_,rfl⟩;have hRb:R=b:=by rw[←HR.out,decide_eq_true he,decide_eq_false h5,decide_eq_true h4,hb];rfl
        first|(rw[decide_eq_true hT] at hb)|(rw[decide_eq_false hT] at hb)
        subst hb;subst hRb;clear h5 h4 hT he;go_wp2
        go_ret;exact⟨rfl,FR.out⟩
      · have h4b:((tk:Int)==4)=false:=bN.2 (by omega)
        have hRb:R=false:=by rw[←HR.out,decide_eq_true he,decide_eq_false h5,decide_eq_false h4];rfl
        subst hRb;clear h5 h4 hT he;go_wp2
        go_ret;exact⟨rfl,FR.out⟩
 · have heb:((s.e:Int)==0)=false:=bN.2 (by omega)
   have hRb:R=false:=by rw[←HR.out,decide_eq_false he];rfl
   subst hRb;clear he;go_wp2
   go_ret;exact⟨rfl,FR.out⟩
section
variable {src:ByteArray}{tb tc:Nat}{ts:List Tok}{g:Nat}{lvs:List Value}{w w':World}{s:PS}
theorem bG.one {cs:Array Value}{t:TypeId} (hb:Blk w g t cs) (ht:3≠t):∀{ns:List aF}{vs:List Value},bG w ns vs→Fr (bZ g) w w'→bG w' ns vs
 | [],[],_,_=>trivial
 | [],_ :: _,h,_=>h.elim
 | _ :: _,[],h,_=>h.elim
 | _ :: _,_ :: _,h,f=>⟨h.1.fr f (fun b hb' hm=>h.1.aG hb ht (by rw[hb',show b=g from hm])),bG.one hb ht h.2 f⟩
theorem Rdr.set {cs:Array Value}{nv:Value} (h:Rdr src tb tc ts g lvs w s) (hb:Blk w g 88 cs) (j:Nat) (u:Value){s':PS} (hn:s'.nodes=s.nodes)
   (hc:∀nv,cs = #[.string src,.slice (some ⟨tb,0,none⟩) ts.length tc,.int .i64 s.i,nv,.int .i64 s.deep,.int .i64 s.e,.int .i64 s.place]→cs.setIfInBounds j u = #[.string src,.slice (some ⟨tb,0,none⟩) ts.length tc,.int .i64 s'.i,nv,.int .i64 s'.deep,.int .i64 s'.e,.int .i64 s'.place]):
   Rdr src tb tc ts g lvs (w.setCell ⟨g,j,none⟩ u) s':=by
 obtain⟨nv,hb2,ho⟩:=h.cells;obtain⟨b0,ht⟩:=h.toks;have e0:=hb.symm.trans hb2;injection e0 with e0;injection e0 with e _ _;have f:Fr (bZ g) w (w.setCell ⟨g,j,none⟩ u):=(Fr.refl _ w).setCell _ _ (fun _=>rfl);refine⟨⟨nv,?_,?_⟩,?_,by rw[hn];exact h.same,⟨b0,ht.own.fr f (fun b hb' hm=>ht.own.aG hb (by decide) (by rw[hb',show b=g from hm])),ht.new⟩,fun nv2 h1=>?_⟩
 · have:=hb.setCell j u
   rwa [hc nv e] at this
 · rw[hn]
   exact ho.fr f (fun b hb' hm=>ho.aG hb (by decide) (by rw[hb',show b=g from hm]))
 · rw[hn]
   exact h.below.one hb (by decide) f
 · have hbs:=hb.setCell j u
   rw[hc nv e] at hbs;have h3:=hbs.cell 3;rw[h3] at h1;injection h1 with h1;subst h1;exact h.newer _ (hb2.cell 3)
theorem Rdr.blk (h:Rdr src tb tc ts g lvs w s):∃nv,Blk w g 88 #[.string src,.slice (some ⟨tb,0,none⟩) ts.length tc,.int .i64 s.i,nv,.int .i64 s.deep,.int .i64 s.e,.int .i64 s.place]:=by
 obtain⟨nv,hb,_⟩:=h.cells;exact⟨nv,hb⟩
theorem Rdr.aOx (h:Rdr src tb tc ts g lvs w s) (x:Nat):Rdr src tb tc ts g lvs (w.setCell ⟨g,2,none⟩ (.int .i64 x)) { s with i:=x }:=by
 obtain⟨nv,hb⟩:=h.blk;exact h.set (nv:=nv) hb 2 _ rfl (fun nv2 e=>by rw[e];rfl)
theorem Rdr.aMz (h:Rdr src tb tc ts g lvs w s) (x:Nat):Rdr src tb tc ts g lvs (w.setCell ⟨g,4,none⟩ (.int .i64 x)) { s with deep:=x }:=by
 obtain⟨nv,hb⟩:=h.blk;exact h.set (nv:=nv) hb 4 _ rfl (fun nv2 e=>by rw[e];rfl)
theorem Rdr.aQv (h:Rdr src tb tc ts g lvs w s) (x:Nat):Rdr src tb tc ts g lvs (w.setCell ⟨g,5,none⟩ (.int .i64 x)) { s with e:=x }:=by
 obtain⟨nv,hb⟩:=h.blk;exact h.set (nv:=nv) hb 5 _ rfl (fun nv2 e=>by rw[e];rfl)
theorem Rdr.aQu (h:Rdr src tb tc ts g lvs w s) (x:Nat):Rdr src tb tc ts g lvs (w.setCell ⟨g,6,none⟩ (.int .i64 x)) { s with place:=x }:=by
 obtain⟨nv,hb⟩:=h.blk;exact h.set (nv:=nv) hb 6 _ rfl (fun nv2 e=>by rw[e];rfl)
end
theorem kH {src:ByteArray}{tb tc:Nat}{ts:List Tok}{g:Nat}{lvs:List Value}{w:World}{s:PS} (h:Rdr src tb tc ts g lvs w s) (hk:bO ts s) (k:Nat):
   Calls Tryz.prog 134 #[.pointer (some ⟨g,0,none⟩),.int .i64 k] w fun e w'=>e = .returned (.tuple #[])∧Rdr src tb tc ts g lvs w' (aO ts k s)∧FrR g w w':=by
 obtain⟨nv,hb⟩:=h.blk;obtain⟨hi,htb,x0,x1,x2⟩:=h.tok hk;have H:=hD h;have hg:=hb.lt;have c1:=hb.cell 1;have c2:=hb.cell 2;have c5:=hb.cell 5;have c6:=hb.cell 6;have f5:=hb.frozen 5;have f6:=hb.frozen 6;have hr:(s.i:Int)<(ts.length:Int):=by have:=hk.room;omega
 have htg:tb≠g:=by
   obtain⟨b0,ht⟩:=h.toks;intro e;exact ht.own.aG hb (by decide) (by simp[Go.Proofs.YtlbjicjinnnboaaGreatDoor.blk,e];have:=ht.own.cap;obtain⟨A,c,e1,h1,_⟩:=this;injection e1 with _ _ e3;have:=hk.room;omega)
 simp at c1 c2 c5 c6
 by_cases he:s.e=0
 · have heb:((s.e:Int)==0)=true:=by rw[he];rfl
   have e1:aO ts k s={ s with e:=k,place:=(bE ts s).place }:=by unfold aO;rw[if_pos he]
   rw[e1];clear e1 he hi hb h hk x0 x1;generalize (bE ts s).place=tp at *;go_enter Tryz.func134,Tryz.ntmps134;have n1:(⟨g,5,none⟩:Addr)≠⟨g,1,none⟩:=by simp
   have n2:(⟨g,5,none⟩:Addr)≠⟨g,2,none⟩:=by simp
   have n3:(⟨g,5,none⟩:Addr)≠⟨g,6,none⟩:=by simp
   have n4:(⟨g,5,none⟩:Addr)≠⟨tb,s.i*3+2,none⟩:=by intro e;injection e with e;exact htg e.symm
   have d1:=(World.cell?_setCell_other w ⟨g,5,none⟩ ⟨g,1,none⟩ (.int .i64 k) n1).trans c1;have d2:=(World.cell?_setCell_other w ⟨g,5,none⟩ ⟨g,2,none⟩ (.int .i64 k) n2).trans c2;have d6:=(World.cell?_setCell_other w ⟨g,5,none⟩ ⟨g,6,none⟩ (.int .i64 k) n3).trans c6;have dx:=(World.cell?_setCell_other w ⟨g,5,none⟩ ⟨tb,s.i*3+2,none⟩ (.int .i64 k) n4).trans x2;have HB:=H.out.aQv k;have G1:Fr (bZ g) w (w.setCell ⟨g,5,none⟩ (.int .i64 k)):=(Fr.refl _ w).setCell _ _ (fun _=>rfl);have FG:=hD G1;have fz:(w.setCell ⟨g,5,none⟩ (.int .i64 k)).frozen? ⟨g,6,none⟩=false:=by
    obtain⟨nv2,hb2⟩:=HB.blk;exact hb2.frozen 6
   have HB2:=hD HB;clear n1 n2 n3 n4 G1 HB;go_wp2
   clear c1 c2 c5 c6 x2 f5 f6;generalize w.setCell ⟨g,5,none⟩ (.int .i64 k)=w1 at *;have m1:(⟨g,6,none⟩:Addr)≠⟨g,1,none⟩:=by simp
   have m2:(⟨g,6,none⟩:Addr)≠⟨g,2,none⟩:=by simp
   have m4:(⟨g,6,none⟩:Addr)≠⟨tb,s.i*3+2,none⟩:=by intro e;injection e with e;exact htg e.symm
   have D1:=hD d1;have D2:=hD d2;have DX:=hD dx;have e1:=hD ((World.cell?_setCell_other w1.drew ⟨g,6,none⟩ ⟨g,1,none⟩ (.int .i64 tp) m1).trans d1);have e2:=hD ((World.cell?_setCell_other w1.drew ⟨g,6,none⟩ ⟨g,2,none⟩ (.int .i64 tp) m2).trans d2);have ex:=hD ((World.cell?_setCell_other w1.drew ⟨g,6,none⟩ ⟨tb,s.i*3+2,none⟩ (.int .i64 tp) m4).trans dx);clear m1 m2 m4;go_region_held3 (fun wx=>wx.cell? ⟨g,1,none⟩=some (.slice (some ⟨tb,0,none⟩) ts.length tc)∧wx.cell? ⟨g,2,none⟩=some (.int .i64 s.i)∧wx.cell? ⟨tb,s.i*3+2,none⟩=some (.int .i64 tp)) (first|exact⟨D1.out,D2.out,DX.out⟩|exact⟨e1.out,e2.out,ex.out⟩) (first|fail)
   refine bodyPost_end (results_none rfl _ _ _) rfl ⟨rfl,(HB2.out.aQu tp).no ((fR _).drew),?_⟩;exact ((FG.out.setCell ⟨g,6,none⟩ _ (fun _=>rfl)).drew).mono (fun k _ e=> .inl e)
 · have heb:((s.e:Int)==0)=false:=bN.2 (by omega)
   have e1:aO ts k s=s:=by unfold aO;rw[if_neg he]
   rw[e1];clear e1 he hi hb h hk x0 x1 x2;go_enter Tryz.func134,Tryz.ntmps134;go_wp2
   refine bodyPost_end (results_none rfl _ _ _) rfl ⟨rfl,H.out,Fr.refl _ _⟩
section
variable {ts:List Tok}{s:PS}
theorem bO.fail (h:bO ts s) (ht:aQ ts) (k:Nat) (hk:k≤21) (hk0:1≤k):bO ts (aO ts k s):=by
 unfold aO;split
 · refine⟨h.room,h.deep,fun e=>?_,hk,?_⟩
   · exact absurd e (by show k≠0;omega)
   · have hm:bE ts s∈ts:=by
      unfold bE;rw[List.getD,gE h.room];exact List.getElem_mem _
     exact (ht.at_ _ hm).2
 · exact h
theorem bO.go (h:bO ts s) (ht:aQ ts) (hk:(bE ts s).kind≠0):bO ts (pGo s):=by
 refine⟨?_,h.deep,h.fine,h.err,h.place⟩;have hr:=h.room;by_cases e:s.i=ts.length - 1
 · refine absurd ?_ hk
   unfold bE;rw[e];exact ht.last
 · show s.i+1<ts.length
   omega
theorem bO.must (h:bO ts s) (ht:aQ ts) (x:List UInt8):bO ts (aA ts x s):=by
 unfold aA;split
 · rename_i hx;exact h.go ht (aN hx).2.1
 · exact h.fail ht 20 (by decide) (by decide)
theorem bO.named (h:bO ts s) (ht:aQ ts):bO ts (aC ts s):=by
 unfold aC;split
 · rename_i hx;exact h.go ht (by rw[(aM hx).2];decide)
 · exact h.fail ht 20 (by decide) (by decide)
theorem bO.typed (h:bO ts s) (ht:aQ ts):bO ts (aR ts s):=by
 unfold aR;split
 · exact h.fail ht 20 (by decide) (by decide)
 · rename_i hx
   refine h.go ht ?_;unfold bQ bH at hx;split at hx
   · rename_i hk;rw[(aM hk).2];decide
   · exact absurd rfl hx
theorem bO.down (h:bO ts s) (ht:aQ ts) (h0:s.e=0):bO ts (aW ts s):=by
 have hd:=h.fine h0;unfold aW;by_cases h16:16≤s.deep
 · have hf:=h.fail ht 21 (by decide) (by decide)
   simp only;rw[if_pos h16];have he:(aO ts 21 s).e=21:=by unfold aO;rw[if_pos h0]
   have hdd:(aO ts 21 s).deep=s.deep:=by unfold aO;rw[if_pos h0]
   exact⟨hf.room,by show (aO ts 21 s).deep+1≤17;omega,fun e=>absurd e (by show (aO ts 21 s).e≠0;omega),hf.err,hf.place⟩
 · simp only
   rw[if_neg h16];exact⟨h.room,by show s.deep+1≤17;omega,fun _=>by show s.deep+1≤16;omega,h.err,h.place⟩
theorem bO.up (h:bO ts s):bO ts (pUp s):=⟨h.room,by show s.deep - 1≤17;have:=h.deep;omega,fun e=>by show s.deep - 1≤16;have:=h.fine e;omega,h.err,h.place⟩
theorem bO.put (h:bO ts s) (k line n:Nat) (name:List UInt8) (l:List Nat):bO ts (bM k line n name l s).2:=⟨h.room,h.deep,h.fine,h.err,h.place⟩
end
theorem aQ.i_le {ts:List Tok}{s:PS} (ht:aQ ts) (h:bO ts s):(s.i:Int)≤1000:=by have:=ht.few;have:=h.room;omega
theorem aLp {src:ByteArray}{tb tc:Nat}{ts:List Tok}{g:Nat}{lvs:List Value}{w:World}{s:PS} (h:Rdr src tb tc ts g lvs w s) (hk:bO ts s) (ht:aQ ts) (X:ByteArray):
  Calls Tryz.prog 89 #[.pointer (some ⟨g,0,none⟩),.string X] w fun e w'=>e = .returned (.tuple #[])∧Rdr src tb tc ts g lvs w' (aA ts X.data.toList s)∧FrR g w w':=by
 have H:=hD h;have HK:=hD hk;have hi:=ht.i_le hk;have HI:=hD (aHx h hk X);clear h hk ht;unfold aA;generalize pIs ts X.data.toList s=b at *;cases b with
 | true=>
  go_enter Tryz.func89,Tryz.ntmps89;go_wp2_with (go_at_call 91;go_must (refine HI.out.mono ?_;rintro e w1 ⟨rfl,hf⟩;have F1:=hD hf;have H1:=hD (H.out.no hf);(obtain⟨nv,hb⟩:=H1.out.blk);have c2:=hb.cell 2;have f2:=hb.frozen 2;simp at c2;clear hf hb))
  refine bodyPost_end (results_none rfl _ _ _) rfl ⟨rfl,?_,?_⟩
  · exact H1.out.aOx (s.i+1)
  · exact FrR.trans (FrR.no F1.out) (((Fr.refl (bZ g) w1).setCell ⟨g,2,none⟩ _ (fun _=>rfl)).mono (fun k _ e=> .inl e))
 | false=>
  go_enter Tryz.func89,Tryz.ntmps89;go_wp2_with (first|(go_at_call 91;go_must (refine HI.out.mono ?_;rintro e w1 ⟨rfl,hf⟩;have F1:=hD hf;have H1:=hD (H.out.no hf);clear hf))|(go_at_call 134;go_must (refine (kH H1.out HK.out 20).mono ?_;rintro e w2 ⟨rfl,hr,hf2⟩;have H2:=hD hr;have F2:=hD hf2;clear hr hf2)))
  refine bodyPost_ret (results_none rfl _ _ _) rfl ⟨rfl,H2.out,FrR.trans (FrR.no F1.out) F2.out⟩
theorem Rdr.aNm {src:ByteArray}{tb tc:Nat}{ts:List Tok}{g:Nat}{lvs:List Value}{w:World}{s:PS} (h:Rdr src tb tc ts g lvs w s){i:Nat}{t:Tok} (hi:ts[i]?=some t):
  w.cell? ⟨tb,i*3,none⟩=some (.int .i64 t.kind)∧w.cell? ⟨tb,i*3+1,none⟩=some (.string (bs t.text))∧w.cell? ⟨tb,i*3+2,none⟩=some (.int .i64 t.place):=by
 obtain⟨b0,ht⟩:=h.toks;obtain⟨g2,hg,_,hlt,hat⟩:=ht.some (by have:=(gK hi);omega);injection hg with hg;injection hg with hg;subst hg;exact hat i _ hi
theorem uU {src:ByteArray}{tb tc:Nat}{ts:List Tok}{g:Nat}{lvs:List Value}{w:World}{s:PS} (h:Rdr src tb tc ts g lvs w s) (hk:bO ts s) (ht:aQ ts):
  Calls Tryz.prog 90 #[.pointer (some ⟨g,0,none⟩)] w fun e w'=>e = .returned (.string (bs (bK ts s)))∧Rdr src tb tc ts g lvs w' (aC ts s)∧FrR g w w':=by
 have H:=hD h;have HK:=hD hk;have hi:=ht.i_le hk;obtain⟨hti,_⟩:=h.tok hk;have HTI:=hD hti;have hr:(s.i:Int)<(ts.length:Int):=by have:=hk.room;omega
 have HI:=hD (pJ h hk 3);clear h hk ht hti;unfold aC bK;generalize bA ts 3 s=b at *;cases b with
 | true=>
  go_enter Tryz.func90,Tryz.ntmps90;go_upto_region 6 with (go_at_call 56;go_must (refine HI.out.mono ?_;rintro e w1 ⟨rfl,hf⟩;have F1:=hD hf;have H1:=hD (H.out.no hf);(obtain⟨nv,hb⟩:=H1.out.blk);have c2:=hb.cell 2;have f2:=hb.frozen 2;simp at c2;clear hf hb));have H2:=hD (H1.out.aOx (s.i+1));have F2:=hD (show FrR g w1 (w1.setCell ⟨g,2,none⟩ (.int .i64 ((s.i+1:Nat):Int))) from ((Fr.refl (bZ g) w1).setCell ⟨g,2,none⟩ _ (fun _=>rfl)).mono (fun k _ e=> .inl e));rw[show ((s.i+1:Nat):Int)=(s.i:Int)+1 by omega] at H2 F2;clear c2 f2;generalize w1.setCell ⟨g,2,none⟩ (.int .i64 ((s.i:Int)+1))=w2 at *;obtain⟨nv2,hb2⟩:=H2.out.blk;have c1:=hb2.cell 1;have c2:=hb2.cell 2;obtain⟨_,x1,_⟩:=H2.out.aNm HTI.out;simp at c1 c2
  clear hb2;go_quiet (fail)
  go_wp2
  go_ret;exact⟨rfl,H2.out.no ((fR _).drewN _),(FrR.trans (FrR.no F1.out) F2.out).trans (FrR.no ((fR _).drewN _))⟩
 | false=>
  go_enter Tryz.func90,Tryz.ntmps90;go_wp2_with (first|(go_at_call 56;go_must (refine HI.out.mono ?_;rintro e w1 ⟨rfl,hf⟩;have F1:=hD hf;have H1:=hD (H.out.no hf);clear hf))|(go_at_call 134;go_must (refine (kH H1.out HK.out 20).mono ?_;rintro e w2 ⟨rfl,hr,hf2⟩;have H2:=hD hr;have F2:=hD hf2;clear hr hf2)))
  go_ret;exact⟨rfl,H2.out,FrR.trans (FrR.no F1.out) F2.out⟩
theorem sG {src:ByteArray}{tb tc:Nat}{ts:List Tok}{g:Nat}{lvs:List Value}{w:World}{s:PS} (h:Rdr src tb tc ts g lvs w s) (hk:bO ts s):
  Calls Tryz.prog 135 #[.pointer (some ⟨g,0,none⟩)] w fun e w'=>e = .returned (.string (bs (bH ts s)))∧Fr nob w w':=by
 have H:=hD h;obtain⟨hti,_⟩:=h.tok hk;have HTI:=hD hti;have hr:(s.i:Int)<(ts.length:Int):=by have:=hk.room;omega
 have HI:=hD (pJ h hk 4);clear h hk hti;unfold bH;generalize bA ts 4 s=b at *;cases b with
 | true=>
  go_enter Tryz.func135,Tryz.ntmps135;go_upto_region 3 with (go_at_call 56;go_must (refine HI.out.mono ?_;rintro e w1 ⟨rfl,hf⟩;have F1:=hD hf;have H1:=hD (H.out.no hf);clear hf));obtain⟨nv2,hb2⟩:=H1.out.blk;have c1:=hb2.cell 1;have c2:=hb2.cell 2;obtain⟨_,x1,_⟩:=H1.out.aNm HTI.out;simp at c1 c2
  clear hb2;go_quiet (fail)
  go_wp2
  go_ret;exact⟨rfl,F1.out.drewN _⟩
 | false=>
  go_enter Tryz.func135,Tryz.ntmps135;go_wp2_with (go_at_call 56;go_must (refine HI.out.mono ?_;rintro e w1 ⟨rfl,hf⟩;have F1:=hD hf;clear hf))
  go_ret;exact⟨rfl,F1.out⟩
theorem aHb {src:ByteArray}{tb tc:Nat}{ts:List Tok}{g:Nat}{lvs:List Value}{w:World}{s:PS} (h:Rdr src tb tc ts g lvs w s) (hk:bO ts s) (hs:src.size≤281474976710656):
  Calls Tryz.prog 88 #[.pointer (some ⟨g,0,none⟩)] w fun e w'=>e = .returned (.int .i64 (aS src.data.toList ts s))∧Fr nob w w':=by
 obtain⟨nv,hb,ho⟩:=h.cells;obtain⟨hi,htb,x0,x1,x2⟩:=h.tok hk;have c0:=hb.cell 0;have c1:=hb.cell 1;have c2:=hb.cell 2;have hr:(s.i:Int)<(ts.length:Int):=by have:=hk.room;omega
 have HL:=hD (fun w'=>aGh src hs (bE ts s).place w');unfold aS;clear x0 x1 hi ho hb h hk;simp at c0 c1 c2
 generalize iE src.data.toList ((bE ts s).place:Int)=n at *;generalize (((bE ts s).place:Nat):Int)=tp at *;go_enter Tryz.func88,Tryz.ntmps88;go_wp2
 go_quiet ((go_at_call 133;exact Calls.quiet_of_same ((HL.out _).mono (fun _ _ h=>⟨h.1,h.2.symm⟩))))
 go_wp2
 go_ret;exact⟨rfl,(fR w).drewN _⟩
theorem aMk {src:ByteArray}{tb tc:Nat}{ts:List Tok}{g:Nat}{lvs:List Value}{w:World}{s:PS} (h:Rdr src tb tc ts g lvs w s) (hk:bO ts s):
   Calls Tryz.prog 137 #[.pointer (some ⟨g,0,none⟩)] w fun e w'=>e = .returned (.tuple #[])∧Rdr src tb tc ts g lvs w' (aW ts s)∧FrR g w w':=by
 have H:=hD h;have HK:=hD hk;obtain⟨nv,hb⟩:=h.blk;have c4:=hb.cell 4;have f4:=hb.frozen 4;simp at c4
 have hd:(s.deep:Int)≤17:=by have:=hk.deep;omega
 clear h hk hb;unfold aW;by_cases h16:16≤s.deep
 · simp only
   rw[if_pos h16];have h17:(16:Int)≤(s.deep:Int):=by omega
   have hdd:(aO ts 21 s).deep=s.deep:=by unfold aO;split<;>rfl
   have HD:=hD hdd;clear h16 hdd f4;go_enter Tryz.func137,Tryz.ntmps137;go_wp2_with (go_at_call 134;go_must (refine (kH H.out HK.out 21).mono ?_;rintro e w2 ⟨rfl,hr,hf2⟩;have H2:=hD hr;have F2:=hD hf2;(obtain⟨nv2,hb2⟩:=hr.blk);rw[HD.out] at hb2;have d4:=hb2.cell 4;have g4:=hb2.frozen 4;simp at d4;clear hr hf2 hb2))
   refine bodyPost_end (results_none rfl _ _ _) rfl ⟨rfl,?_,?_⟩
   · have:=H2.out.aMz (s.deep+1)
     rw[HD.out];exact this
   · exact FrR.trans F2.out (((Fr.refl (bZ g) w2).setCell ⟨g,4,none⟩ _ (fun _=>rfl)).mono (fun k _ e=> .inl e))
 · simp only
   rw[if_neg h16];have h17:(s.deep:Int)<16:=by omega
   clear h16;go_enter Tryz.func137,Tryz.ntmps137;go_wp2
   refine bodyPost_end (results_none rfl _ _ _) rfl ⟨rfl,?_,?_⟩
   · exact H.out.aMz (s.deep+1)
   · exact ((Fr.refl (bZ g) w).setCell ⟨g,4,none⟩ _ (fun _=>rfl)).mono (fun k _ e=> .inl e)
theorem aKf (X:ByteArray) (w:World):Calls Tryz.prog 136 #[.string X] w fun e w'=>e = .returned (.int .i64 (mH X.data.toList))∧w=w':=by
 have hX:X.toList=X.data.toList:=ByteArray.toList_eq X;unfold mH;generalize X.data.toList=x at *;by_cases h1:x=[105,110,116]
 · subst h1
   rw[if_pos rfl];go_enter Tryz.func136,Tryz.ntmps136;go_wp2
   go_ret;exact⟨rfl,rfl⟩
 · rw[if_neg h1]
   have b1:(x==[105,110,116])=false:=bN.2 h1;by_cases h2:x=[98,111,111,108]
   · subst h2
     rw[if_pos rfl];clear h1 b1;go_enter Tryz.func136,Tryz.ntmps136;go_wp2
     go_ret;exact⟨rfl,rfl⟩
   · rw[if_neg h2]
     have b2:(x==[98,111,111,108])=false:=bN.2 h2;by_cases h3:x=[116,101,120,116]
     · subst h3
       rw[if_pos rfl];clear h1 b1 h2 b2;go_enter Tryz.func136,Tryz.ntmps136;go_wp2
       go_ret;exact⟨rfl,rfl⟩
     · rw[if_neg h3]
       have b3:(x==[116,101,120,116])=false:=bN.2 h3;by_cases h4:x=[108,105,115,116]
       · subst h4
         rw[if_pos rfl];clear h1 b1 h2 b2 h3 b3;go_enter Tryz.func136,Tryz.ntmps136;go_wp2
         go_ret;exact⟨rfl,rfl⟩
       · rw[if_neg h4]
         have b4:(x==[108,105,115,116])=false:=bN.2 h4;clear h1 h2 h3 h4;go_enter Tryz.func136,Tryz.ntmps136;go_wp2
         go_ret;exact⟨rfl,rfl⟩
end Go.Proofs.YtlbjicjinnnboaaGreatDoor
