/- MrB: RE, RF, RG, RH, RI, PModel, PTotal, PMem, PSmall, PStep, PStepB, PStepC, PStepD. -/
import Derived.Test.YtlbjicjinnnboaaGreatDoorMrA
import Derived.Lib.IndexBytes
import Derived.StillTailTactics
set_option maxHeartbeats 8000000
set_option maxRecDepth 100000
set_option linter.unusedVariables false
set_option linter.unusedSimpArgs false
/- The reference's text. -/
namespace Go.Proofs.YtlbjicjinnnboaaGreatDoor
open Go.RowKit Go.Proofs.Tryz
variable {g tb tc n k o m:Nat}{w:World}{ts:List Tok}{src:ByteArray}{lvs:List Value}{l x:List UInt8}{cs:Array Value}
def rW (l:List UInt8) (at_:Nat):Ending:=match lX (l.drop at_) with
 | .ok _ _ m n=> .returned (.tuple #[.string (bs ((l.drop (at_+1)).take m)),.int .i64 ((at_+n:Nat):Int),.int .i64 0])
 | .err e=> .returned (.tuple #[.string ⟨#[]⟩,.int .i64 at_,.int .i64 e])
theorem qC (l:List UInt8) (at_ m:Nat) (h1:at_<l.length) (hm:runN dD (l.drop (at_+1))=m - (at_+1)) (hm2:at_+1≤m) (h:l.length≤m∨aT l m≠34):
   rW l at_ = .returned (.tuple #[.string ⟨#[]⟩,at_,(11:Int)]):=by
 unfold rW lX;rw[List.drop_drop,hm,if_pos]
 . rfl
 . rw[fT,List.length_drop,show at_+(m - (at_+1)+1)=m by omega]
   rcases h with h|h
   . exact .inl (by omega)
   . exact .inr h
theorem aJz (l:List UInt8) (at_ m:Nat) (h1:at_<l.length) (hm:runN dD (l.drop (at_+1))=m - (at_+1)) (hm2:at_+1≤m) (hm3:m<l.length) (h:aT l m=34):
   rW l at_=if 12<m - (at_+1) then .returned (.tuple #[.string ⟨#[]⟩,at_,U4])
     else .returned (.tuple #[(bs ((l.drop (at_+1)).take (m - (at_+1)))),((m+1:Nat):Int),U0]):=by
 unfold rW lX;rw[List.drop_drop,hm,if_neg]
 . by_cases h12:12<m - (at_+1)
   . rw[if_pos h12,if_pos h12];rfl
   . rw[if_neg h12,if_neg h12]
     simp only;rw[show at_+(m - (at_+1)+2)=m+1 by omega]
 . rw[fT,List.length_drop,show at_+(m - (at_+1)+1)=m by omega]
   rintro (e|e)
   . omega
   . exact e h
theorem aFw (s:ByteArray) (hs:s.size≤281474976710656) (a:Nat) (ha:a<s.size) (w:World):
  Calls prog 131 #[s,a] w λe w'=>e=rW s.data.toList a∧w=w':=by
 have hl:s.data.toList.length=s.size:=by simp
 have HL:=hD hl;clear hl;obtain⟨E,hE⟩:∃E,rW s.data.toList a=E:=⟨_,rfl⟩;rw[hE];have HE:=hD hE;clear hE;go_enter func131,ntmps131;go_wp2
 go_loopw [7] (λv w'=>∃m:Nat,a+1≤m∧m≤s.size∧v = .int .i64 m∧Hd (runN dD (s.data.toList.drop (a+1))=(m - (a+1))+runN dD (s.data.toList.drop m))∧w=w') (λv _=>s.size - (intOf v).toNat)
 case atStart=>exact⟨a+1,Nat.le_refl _,by omega,by go_num,hD (by omega),rfl⟩
 case round=>
  obtain⟨m,ham,hm,rfl,HR,rfl⟩:=hrel;have ham2:(a:Int)+1≤(m:Int):=by omega
  by_cases hms:m<s.size
  . have hms2:(m:Int)<(s.size:Int):=by omega
    obtain⟨d,hd⟩:∃d,s[m]'hms=d:=⟨_,rfl⟩;have hby:=dF s m hms;rw[hd] at hby;have hst:=gI dD s.data.toList m (by rw[HL.o];exact hms);rw[hby] at hst;have HST:=hD hst;have HBY:=hD hby;clear hst hby;rcases (by omega:(d.toNat:Int)<32∨(d.toNat:Int)=34∨(32≤(d.toNat:Int)∧(d.toNat:Int)≤126∧(d.toNat:Int)≠34)∨126<(d.toNat:Int)) with h|h|⟨h1,h2,h3⟩|h
    . have hz:runN dD (s.data.toList.drop (a+1))=m - (a+1):=by
        have h1:=HR.o;have h2:=HST.o;rw[if_neg (by simp[dD];omega)] at h2;omega
      have HF:=hD ((qC s.data.toList a m (by rw[HL.o];exact ha) hz ham (.inr (by rw[HBY.o];omega))).symm.trans HE);have hq:((d.toNat:Int) != 34)=true:=bne_iff_ne.2 (by omega);clear hz;go_wp2
      go_ret3
      exact⟨by rw[<-HF.o];first|done|rfl,rfl⟩
    . have hz:runN dD (s.data.toList.drop (a+1))=m - (a+1):=by
        have h1:=HR.o;have h2:=HST.o;rw[if_neg (by simp[dD];omega)] at h2;omega
      have hF:=(aJz s.data.toList a m (by rw[HL.o];exact ha) hz ham (by rw[HL.o];exact hms) (by rw[HBY.o];exact h)).symm.trans HE.o;have hq:((d.toNat:Int) != 34)=false:=by rw[h];rfl
      clear hz;by_cases h12:12<m - (a+1)
      . rw[if_pos h12] at hF
        have HF:=hD hF;have h13:(12:Int)<(m:Int) - (a:Int) - 1:=by omega
        clear hF h12;go_wp2
        go_ret3
        exact⟨by rw[<-HF.o];first|done|rfl,rfl⟩
      . rw[if_neg h12] at hF
        have HF:=hD hF;have h13:(m:Int) - (a:Int) - 1≤12:=by omega
        have HX:=hD (show bs ((s.data.toList.drop (a+1)).take (m - (a+1)))=s.extract (a+1) m by rw[<-Lib.extract_data,oJ]);clear hF h12;go_wp2
        go_ret3
        exact⟨by rw[<-HF.o,HX.o];first|done|rfl,rfl⟩
    . have hst:runN dD (s.data.toList.drop m)=1+runN dD (s.data.toList.drop (m+1)):=by
        have h2:=HST.o;rwa [if_pos (by simp[dD];omega)] at h2
      have HS2:=hD hst;have hq:((d.toNat:Int) != 34)=true:=bne_iff_ne.2 h3;clear hst;go_wp2
      go_roundw
      case rel=>exact⟨m+1,by omega,by omega,by go_num,hD (by (have:=HR.o);have:=HS2.o;omega),trivial⟩
      case measure=>simp[intOf];omega
    . have hz:runN dD (s.data.toList.drop (a+1))=m - (a+1):=by
        have h1:=HR.o;have h2:=HST.o;rw[if_neg (by simp[dD];omega)] at h2;omega
      have HF:=hD ((qC s.data.toList a m (by rw[HL.o];exact ha) hz ham (.inr (by rw[HBY.o];omega))).symm.trans HE);have hq:((d.toNat:Int) != 34)=true:=bne_iff_ne.2 (by omega);clear hz;go_wp2
      go_ret3
      exact⟨by rw[<-HF.o];first|done|rfl,rfl⟩
  . have hms2:(s.size:Int)≤(m:Int):=by omega
    have hz:runN dD (s.data.toList.drop (a+1))=m - (a+1):=by
      have h1:=HR.o;have h2:runN dD (s.data.toList.drop m)=0:=by rw[List.drop_of_length_le (by rw[HL.o];omega)];rfl
      omega
    have HF:=hD ((qC s.data.toList a m (by rw[HL.o];exact ha) hz ham (.inl (by rw[HL.o];omega))).symm.trans HE);clear hz hms;go_wp2
    go_ret3
    exact⟨by rw[<-HF.o];first|done|rfl,rfl⟩
def sK (l:List UInt8) (a:Nat) (e:Ending):Prop:=match firstM (l.drop a) with
 | .ok k o m n=>e = .returned (.tuple #[jC k (bs (((l.drop a).drop o).take m)) a,.int .i64 ((a+n:Nat):Int),.int .i64 0])
 | .err er=>∃(k p q:Int) (t:ByteArray),e = .returned (.tuple #[.agg #[.int .i64 k,.string t,.int .i64 p],.int .i64 q,.int .i64 er])
theorem mG {a:Nat} (h:firstM (l.drop a) = .ok k o m n) (x:ByteArray) (hx:x=bs (((l.drop a).drop o).take m)) (q:Nat) (hq:q=a+n):
  sK l a (.returned (.tuple #[jC k x a,q,U0])):=by
 unfold sK;rw[h,hx,hq]
theorem oC {a er:Nat} (h:firstM (l.drop a) = .err er) (k p q:Int) (t:ByteArray):
  sK l a (.returned (.tuple #[.agg #[k,t,p],q,er])):=by
 unfold sK;rw[h];exact⟨k,p,q,t,rfl⟩
theorem rH (s:ByteArray) (a m:Nat):(s.extract a m).data.toList=(s.data.toList.drop a).take (m - a):=Lib.extract_data s a m
theorem aCh (s:ByteArray) (hs:s.size≤281474976710656) (a:Nat) (ha:a<s.size) (w:World) (hd:bE (aT s.data.toList a)=true):
  Calls prog 87 #[s,a] w λe w'=>sK s.data.toList a e∧Fr nob w w':=by
 have hl:s.data.toList.length=s.size:=by simp
 have HL:=hD hl;clear hl;have hf:firstM (s.data.toList.drop a)=iW (s.data.toList.drop a):=by
  unfold firstM;rw[fT,Nat.add_zero,if_pos hd]
 have HF:=hD hf;have hai:(a:Int)<(s.size:Int):=by omega
 obtain⟨c,hc⟩:∃c,s[a]'ha=c:=⟨_,rfl⟩;rw[dF s a ha,hc] at hd;have HD:=hD (λw'=>jD (c.toNat:Int) w');rw[hd] at HD;clear hf hd;go_enter func87,ntmps87;go_wp2_with (go_at_call 127;refine bL (HD _) ?_)
 go_loopw [8] (λv w'=>∃m:Nat,a≤m∧m≤s.size∧v = .int .i64 m∧Hd (runN bE (s.data.toList.drop a)=(m - a)+runN bE (s.data.toList.drop m))∧w'=w.alloc (.cells #[U0,.string ⟨#[]⟩,U0] 115)) (λv _=>s.size - (intOf v).toNat)
 case atStart=>exact⟨a,Nat.le_refl _,by omega,rfl,hD (by omega),rfl⟩
 case round=>
  obtain⟨m,ham,hm,rfl,HR,rfl⟩:=hrel;have ham2:(a:Int)≤(m:Int):=by omega
  have hend:runN bE (s.data.toList.drop m)=0->(runN bE (s.data.toList.drop a)=m - a):=λh=>by have:=HR.o;omega
  have HEND:=hD hend;clear hend;have fin:runN bE (s.data.toList.drop a)=m - a->dP (s.extract a m).data.toList∧iW (s.data.toList.drop a)=if mP (s.extract a m).data.toList then .ok 1 0 (m - a) (m - a) else .err 12:=λh=>by
    have h1:=nR (s.data.toList.drop a);unfold iW;rw[rH,<-h];exact⟨h1,rfl⟩
  have FIN:=hD fin;clear fin;by_cases hms:m<s.size
  . have hms2:(m:Int)<(s.size:Int):=by omega
    have hm64:(m:Int)≤(s.size:Int):=by omega
    obtain⟨d,hdd⟩:∃d,s[m]'hms=d:=⟨_,rfl⟩;have hst:=gI bE s.data.toList m (by rw[HL.o];exact hms);rw[dF s m hms,hdd] at hst;have HST:=hD hst;have HE:=hD (λw'=>jD (d.toNat:Int) w');clear hst;generalize hdb:bE (d.toNat:Int)=db at *;clear hdb;cases db with
    | true=>
     go_wp2_with (go_at_call 127;refine bL (HE _) ?_)
     go_roundw
     case rel=>exact⟨m+1,by omega,by omega,by go_num,hD (by (have h1:=HR.o);have h2:=HST.o;(first|rw[if_pos trivial] at h2|rw[if_pos rfl] at h2);omega),trivial⟩
     case measure=>simp[intOf];omega
    | false=>
     have hz:=HEND.o (by (have h2:=HST.o);rwa [if_neg (by simp)] at h2);obtain⟨hall,hnm⟩:=FIN.o hz;have HN:=hD (λw'=>qJ (s.extract a m) hall (by simp;omega) w');have hx:s.extract a m=bs (((s.data.toList.drop a).drop 0).take (m - a)):=by rw[List.drop_zero,<-rH,oJ]
     have HX:=hD hx;have HNM:=hD (HF.o.trans hnm);clear hz hall hnm hx;generalize mP (s.extract a m).data.toList=nb at *;cases nb with
     | true=>
      go_wp2_with (first|(go_at_call 127;refine bL (HE _) ?_)|(go_at_call 128;refine bL (HN _) ?_))
      refine bodyPost_ret (v:= .tuple #[jC 1 (s.extract a m) a,m,U0]) (by simp[results,results87,go_sem,jC];try rfl) rfl ⟨mG (k:=1) (o:=0) (m:=m - a) (n:=m - a) (HNM.o.trans (by simp)) _ HX _ (by omega),(fR w).alloc _⟩
     | false=>
      go_wp2_with (first|(go_at_call 127;refine bL (HE _) ?_)|(go_at_call 128;refine bL (HN _) ?_))
      refine bodyPost_ret (v:= .tuple #[.agg #[U0,.string ⟨#[]⟩,U0],a,(12:Int)]) (by simp[results,results87,go_sem,jC];try rfl) rfl ⟨oC (er:=12) (HNM.o.trans (by simp)) _ _ _ _,(fR w).alloc _⟩
  . have hms2:(s.size:Int)≤(m:Int):=by omega
    have hm64:(m:Int)≤(s.size:Int):=by omega
    have hz:=HEND.o (by rw[List.drop_of_length_le (by rw[HL.o];omega)];rfl);obtain⟨hall,hnm⟩:=FIN.o hz;have HN:=hD (λw'=>qJ (s.extract a m) hall (by simp;omega) w');have hx:s.extract a m=bs (((s.data.toList.drop a).drop 0).take (m - a)):=by rw[List.drop_zero,<-rH,oJ]
    have HX:=hD hx;have HNM:=hD (HF.o.trans hnm);clear hz hall hnm hx hms;generalize mP (s.extract a m).data.toList=nb at *;cases nb with
    | true=>
     go_wp2_with (go_at_call 128;refine bL (HN _) ?_)
     refine bodyPost_ret (v:= .tuple #[jC 1 (s.extract a m) a,m,U0]) (by simp[results,results87,go_sem,jC];try rfl) rfl ⟨mG (k:=1) (o:=0) (m:=m - a) (n:=m - a) (HNM.o.trans (by simp)) _ HX _ (by omega),(fR w).alloc _⟩
    | false=>
     go_wp2_with (go_at_call 128;refine bL (HN _) ?_)
     refine bodyPost_ret (v:= .tuple #[.agg #[U0,.string ⟨#[]⟩,U0],a,(12:Int)]) (by simp[results,results87,go_sem,jC];try rfl) rfl ⟨oC (er:=12) (HNM.o.trans (by simp)) _ _ _ _,(fR w).alloc _⟩
theorem yH (s:ByteArray) (hs:s.size≤281474976710656) (a:Nat) (ha:a<s.size) (w:World) (hd:bE (aT s.data.toList a)=false) (hlt:gN (aT s.data.toList a)=true):
  Calls prog 87 #[s,a] w λe w'=>sK s.data.toList a e∧Fr nob w w':=by
 have hl:s.data.toList.length=s.size:=by simp
 have HL:=hD hl;clear hl;have hf:firstM (s.data.toList.drop a)=pG (s.data.toList.drop a):=by
  unfold firstM;rw[fT,Nat.add_zero,if_neg (by rw[hd];simp),if_pos hlt]
 have HF:=hD hf;have hai:(a:Int)<(s.size:Int):=by omega
 obtain⟨c,hc⟩:∃c,s[a]'ha=c:=⟨_,rfl⟩;rw[dF s a ha,hc] at hd hlt;have HD:=hD (λw'=>jD (c.toNat:Int) w');rw[hd] at HD;have HT:=hD (λw'=>kK (c.toNat:Int) w');rw[hlt] at HT;clear hf hd hlt;go_enter func87,ntmps87;go_wp2_with (first|(go_at_call 127;refine bL (HD _) ?_)|(go_at_call 129;refine bL (HT _) ?_))
 go_loopw [8] (λv w'=>∃m:Nat,a≤m∧m≤s.size∧v = .int .i64 m∧Hd (runN aY (s.data.toList.drop a)=(m - a)+runN aY (s.data.toList.drop m))∧w'=w.alloc (.cells #[U0,.string ⟨#[]⟩,U0] 115)) (λv _=>s.size - (intOf v).toNat)
 case atStart=>exact⟨a,Nat.le_refl _,by omega,rfl,hD (by omega),rfl⟩
 case round=>
  obtain⟨m,ham,hm,rfl,HR,rfl⟩:=hrel;have ham2:(a:Int)≤(m:Int):=by omega
  have HEND:=hD (show runN aY (s.data.toList.drop m)=0->(runN aY (s.data.toList.drop a)=m - a) from λh=>by have:=HR.o;omega);have FIN:=hD (show runN aY (s.data.toList.drop a)=m - a->pG (s.data.toList.drop a)=(if oZ (s.extract a m).data.toList then .ok 4 0 (m - a) (m - a) else if 8<m - a then .err 13 else .ok 3 0 (m - a) (m - a)) from λh=>by
    unfold pG;rw[rH,<-h])
  have HX:=hD (show s.extract a m=bs (((s.data.toList.drop a).drop 0).take (m - a)) by rw[List.drop_zero,<-rH,oJ]);have hm64:(m:Int)≤(s.size:Int):=by omega
  have HW:=hD (λw'=>aFp (s.extract a m) w');have HSZ:=hD (show (s.extract a m).size=m - a by simp;omega);obtain⟨x,hx⟩:∃x,s.extract a m=x:=⟨_,rfl⟩;rw[hx] at FIN HX HW HSZ;by_cases hms:m<s.size
  . have hms2:(m:Int)<(s.size:Int):=by omega
    obtain⟨d,hdd⟩:∃d,s[m]'hms=d:=⟨_,rfl⟩;have hst:=gI aY s.data.toList m (by rw[HL.o];exact hms);rw[dF s m hms,hdd] at hst;have HST:=hD hst;have HE:=hD (λw'=>jD (d.toNat:Int) w');have HL2:=hD (λw'=>kK (d.toNat:Int) w');have hwi:aY (d.toNat:Int)=(gN (d.toNat:Int) || bE (d.toNat:Int) || ((d.toNat:Int)==95)):=rfl;have HWI:=hD hwi;clear hst hwi;generalize bE (d.toNat:Int)=db at *;generalize gN (d.toNat:Int)=lb at *;cases lb with
    | true=>
      have hwt:aY (d.toNat:Int)=true:=by rw[HWI.o];rfl
      have HS2:Hd (runN aY (s.data.toList.drop m)=1+runN aY (s.data.toList.drop (m+1))):=HST.o.trans (if_pos hwt);clear hwt HST HWI;go_wp2_with (first|(go_at_call 127;refine bL (HE _) ?_)|(go_at_call 129;refine bL (HL2 _) ?_))
      go_roundw
      case rel=>exact⟨m+1,by omega,by omega,by go_num,hD (by (have h1:=HR.o);have h2:=HS2.o;omega),trivial⟩
      case measure=>simp[intOf];omega
    | false=>
      cases db with
      | true=>
       have hwt:aY (d.toNat:Int)=true:=by rw[HWI.o];rfl
       have HS2:Hd (runN aY (s.data.toList.drop m)=1+runN aY (s.data.toList.drop (m+1))):=HST.o.trans (if_pos hwt);clear hwt HST HWI;go_wp2_with (first|(go_at_call 127;refine bL (HE _) ?_)|(go_at_call 129;refine bL (HL2 _) ?_))
       go_roundw
       case rel=>exact⟨m+1,by omega,by omega,by go_num,hD (by (have h1:=HR.o);have h2:=HS2.o;omega),trivial⟩
       case measure=>simp[intOf];omega
      | false=>
       by_cases h95:(d.toNat:Int)=95
       . have hu:((d.toNat:Int)==95)=true:=beq_iff_eq.2 h95
         have hwt:aY (d.toNat:Int)=true:=by rw[HWI.o,hu];rfl
         rw[h95] at HE HL2;have HS2:Hd (runN aY (s.data.toList.drop m)=1+runN aY (s.data.toList.drop (m+1))):=HST.o.trans (if_pos hwt);clear hwt HST HWI;go_wp2_with (first|(go_at_call 127;refine bL (HE _) ?_)|(go_at_call 129;refine bL (HL2 _) ?_))
         go_roundw
         case rel=>exact⟨m+1,by omega,by omega,by go_num,hD (by (have h1:=HR.o);have h2:=HS2.o;omega),trivial⟩
         case measure=>simp[intOf];omega
       . have hu:((d.toNat:Int)==95)=false:=bN.2 h95
         have hz:=HEND.o (HST.o.trans (if_neg (by rw[HWI.o,hu];simp)));have HNM:=hD (HF.o.trans (FIN hz));clear hz HR HST HWI;generalize oZ x.data.toList=wb at *;by_cases h8:8<m - a
         . have h9:(8:Int)<(x.size:Int):=by rw[HSZ.o];omega
           cases wb with
           | true=>
            go_wp2_with (first|(go_at_call 127;refine bL (HE _) ?_)|(go_at_call 129;refine bL (HL2 _) ?_)|(go_at_call 130;go_must (refine (HW _).mono ?_;rintro e w2 ⟨rfl,hf⟩;have F2:=hD hf;(have B:=(Blk.new w 115 #[U0,.string ⟨#[]⟩,U0]).fr F2 (λx=>x));have c0:=B.cell 0;have c1:=B.cell 1;have c2:=B.cell 2;have f0:=B.frozen 0;have f1:=B.frozen 1;have f2:=B.frozen 2;clear B;clear hf)))
            refine bodyPost_ret (v:= .tuple #[jC 4 x a,m,U0]) (by simp[results,results87,go_sem,jC,c0,c1,c2];try rfl) rfl ⟨mG (k:=4) (o:=0) (m:=m - a) (n:=m - a) (HNM.o.trans (by simp)) _ HX _ (by omega),Fr.vN F2 _ _ _⟩
           | false=>
            go_wp2_with (first|(go_at_call 127;refine bL (HE _) ?_)|(go_at_call 129;refine bL (HL2 _) ?_)|(go_at_call 130;go_must (refine (HW _).mono ?_;rintro e w2 ⟨rfl,hf⟩;have F2:=hD hf;(have B:=(Blk.new w 115 #[U0,.string ⟨#[]⟩,U0]).fr F2 (λx=>x));have c0:=B.cell 0;have c1:=B.cell 1;have c2:=B.cell 2;have f0:=B.frozen 0;have f1:=B.frozen 1;have f2:=B.frozen 2;clear B;clear hf)))
            refine bodyPost_ret (v:= .tuple #[.agg #[U0,.string ⟨#[]⟩,U0],a,(13:Int)]) (by simp[results,results87,go_sem,jC,c0,c1,c2];try rfl) rfl ⟨oC (er:=13) (HNM.o.trans (by simp[h8])) _ _ _ _,Fr.vN F2 _ _ _⟩
         . have h9:(x.size:Int)≤8:=by rw[HSZ.o];omega
           cases wb with
           | true=>
            go_wp2_with (first|(go_at_call 127;refine bL (HE _) ?_)|(go_at_call 129;refine bL (HL2 _) ?_)|(go_at_call 130;go_must (refine (HW _).mono ?_;rintro e w2 ⟨rfl,hf⟩;have F2:=hD hf;(have B:=(Blk.new w 115 #[U0,.string ⟨#[]⟩,U0]).fr F2 (λx=>x));have c0:=B.cell 0;have c1:=B.cell 1;have c2:=B.cell 2;have f0:=B.frozen 0;have f1:=B.frozen 1;have f2:=B.frozen 2;clear B;clear hf)))
            refine bodyPost_ret (v:= .tuple #[jC 4 x a,m,U0]) (by simp[results,results87,go_sem,jC,c0,c1,c2];try rfl) rfl ⟨mG (k:=4) (o:=0) (m:=m - a) (n:=m - a) (HNM.o.trans (by simp)) _ HX _ (by omega),Fr.vN F2 _ _ _⟩
           | false=>
            go_wp2_with (first|(go_at_call 127;refine bL (HE _) ?_)|(go_at_call 129;refine bL (HL2 _) ?_)|(go_at_call 130;go_must (refine (HW _).mono ?_;rintro e w2 ⟨rfl,hf⟩;have F2:=hD hf;(have B:=(Blk.new w 115 #[U0,.string ⟨#[]⟩,U0]).fr F2 (λx=>x));have c0:=B.cell 0;have c1:=B.cell 1;have c2:=B.cell 2;have f0:=B.frozen 0;have f1:=B.frozen 1;have f2:=B.frozen 2;clear B;clear hf)))
            refine bodyPost_ret (v:= .tuple #[jC 3 x a,m,U0]) (by simp[results,results87,go_sem,jC,c0,c1,c2];try rfl) rfl ⟨mG (k:=3) (o:=0) (m:=m - a) (n:=m - a) (HNM.o.trans (by simp[h8])) _ HX _ (by omega),Fr.vN F2 _ _ _⟩
  . have hms2:(s.size:Int)≤(m:Int):=by omega
    have hz:=HEND.o (by rw[List.drop_of_length_le (by rw[HL.o];omega)];rfl);have HNM:=hD (HF.o.trans (FIN hz));clear hz HR hms;generalize oZ x.data.toList=wb at *;by_cases h8:8<m - a
    . have h9:(8:Int)<(x.size:Int):=by rw[HSZ.o];omega
      cases wb with
      | true=>
       go_wp2_with (go_at_call 130;go_must (refine (HW _).mono ?_;rintro e w2 ⟨rfl,hf⟩;have F2:=hD hf;(have B:=(Blk.new w 115 #[U0,.string ⟨#[]⟩,U0]).fr F2 (λx=>x));have c0:=B.cell 0;have c1:=B.cell 1;have c2:=B.cell 2;have f0:=B.frozen 0;have f1:=B.frozen 1;have f2:=B.frozen 2;clear B;clear hf))
       refine bodyPost_ret (v:= .tuple #[jC 4 x a,m,U0]) (by simp[results,results87,go_sem,jC,c0,c1,c2];try rfl) rfl ⟨mG (k:=4) (o:=0) (m:=m - a) (n:=m - a) (HNM.o.trans (by simp)) _ HX _ (by omega),Fr.vN F2 _ _ _⟩
      | false=>
       go_wp2_with (go_at_call 130;go_must (refine (HW _).mono ?_;rintro e w2 ⟨rfl,hf⟩;have F2:=hD hf;(have B:=(Blk.new w 115 #[U0,.string ⟨#[]⟩,U0]).fr F2 (λx=>x));have c0:=B.cell 0;have c1:=B.cell 1;have c2:=B.cell 2;have f0:=B.frozen 0;have f1:=B.frozen 1;have f2:=B.frozen 2;clear B;clear hf))
       refine bodyPost_ret (v:= .tuple #[.agg #[U0,.string ⟨#[]⟩,U0],a,(13:Int)]) (by simp[results,results87,go_sem,jC,c0,c1,c2];try rfl) rfl ⟨oC (er:=13) (HNM.o.trans (by simp[h8])) _ _ _ _,Fr.vN F2 _ _ _⟩
    . have h9:(x.size:Int)≤8:=by rw[HSZ.o];omega
      cases wb with
      | true=>
       go_wp2_with (go_at_call 130;go_must (refine (HW _).mono ?_;rintro e w2 ⟨rfl,hf⟩;have F2:=hD hf;(have B:=(Blk.new w 115 #[U0,.string ⟨#[]⟩,U0]).fr F2 (λx=>x));have c0:=B.cell 0;have c1:=B.cell 1;have c2:=B.cell 2;have f0:=B.frozen 0;have f1:=B.frozen 1;have f2:=B.frozen 2;clear B;clear hf))
       refine bodyPost_ret (v:= .tuple #[jC 4 x a,m,U0]) (by simp[results,results87,go_sem,jC,c0,c1,c2];try rfl) rfl ⟨mG (k:=4) (o:=0) (m:=m - a) (n:=m - a) (HNM.o.trans (by simp)) _ HX _ (by omega),Fr.vN F2 _ _ _⟩
      | false=>
       go_wp2_with (go_at_call 130;go_must (refine (HW _).mono ?_;rintro e w2 ⟨rfl,hf⟩;have F2:=hD hf;(have B:=(Blk.new w 115 #[U0,.string ⟨#[]⟩,U0]).fr F2 (λx=>x));have c0:=B.cell 0;have c1:=B.cell 1;have c2:=B.cell 2;have f0:=B.frozen 0;have f1:=B.frozen 1;have f2:=B.frozen 2;clear B;clear hf))
       refine bodyPost_ret (v:= .tuple #[jC 3 x a,m,U0]) (by simp[results,results87,go_sem,jC,c0,c1,c2];try rfl) rfl ⟨mG (k:=3) (o:=0) (m:=m - a) (n:=m - a) (HNM.o.trans (by simp[h8])) _ HX _ (by omega),Fr.vN F2 _ _ _⟩
theorem xX (h:lX l = .ok k o m n):k=2∧o=1∧n=m+2:=by
 unfold lX at h;split at h
 . cases h
 . split at h
   . cases h
   . injection h with h1 h2 h3 h4;omega
theorem yD (h:jX l = .ok k o m n):k=5∧o=0∧n=m∧1≤m:=by
 unfold jX at h;split at h
 . injection h with h1 h2 h3 h4;omega
 . split at h
   . injection h with h1 h2 h3 h4;omega
   . cases h
theorem aFk {e:Nat} (h:jX l = .err e):e=10:=by
 unfold jX at h;split at h
 . cases h
 . split at h
   . cases h
   . injection h with h;exact h.symm
theorem aCg (s:ByteArray) (hs:s.size≤281474976710656) (a:Nat) (ha:a<s.size) (w:World) (hq:aT s.data.toList a=34):
  Calls prog 87 #[s,a] w λe w'=>sK s.data.toList a e∧Fr nob w w':=by
 have hf:firstM (s.data.toList.drop a)=lX (s.data.toList.drop a):=by
  unfold firstM;rw[fT,Nat.add_zero,hq,if_neg (by decide),if_neg (by decide),if_pos (by decide)]
 have HF:=hD hf;have hai:(a:Int)<(s.size:Int):=by omega
 obtain⟨c,hc⟩:∃c,s[a]'ha=c:=⟨_,rfl⟩;rw[dF s a ha,hc] at hq;have HD:=hD (λw'=>jD 34 w');rw[show bE 34=false from rfl] at HD;have HT:=hD (λw'=>kK 34 w');rw[show gN 34=false from rfl] at HT;have hX:=λw'=>aFw s hs a ha w'
 clear hf;cases hx:lX (s.data.toList.drop a) with
 | ok k o m n=>
  obtain⟨rfl,rfl,rfl⟩:=xX hx;have e1:rW s.data.toList a = .returned (.tuple #[(bs ((s.data.toList.drop (a+1)).take m)),((a+(m+2):Nat):Int),U0]):=by
   unfold rW;rw[hx]
  rw[e1] at hX;obtain⟨x,hx1⟩:∃x,bs ((s.data.toList.drop (a+1)).take m)=x:=⟨_,rfl⟩;obtain⟨q,hq1⟩:∃q:Nat,a+(m+2)=q:=⟨_,rfl⟩;rw[hx1,hq1] at hX;have HX:=hD hX;have X1:=hD (show x=bs (((s.data.toList.drop a).drop 1).take m) by rw[List.drop_drop];exact hx1.symm);have Q1:=hD hq1.symm;have HFX:=hD (HF.o.trans hx);clear hX e1 hx1 hq1 hx;go_enter func87,ntmps87;go_wp2_with (first|(go_at_call 127;refine bL (HD _) ?_)|(go_at_call 129;refine bL (HT _) ?_)|(go_at_call 131;refine bL (HX _) ?_))
  refine bodyPost_ret (v:= .tuple #[jC 2 x a,q,U0]) (by simp[results,results87,go_sem,jC];try rfl) rfl ⟨mG HFX _ X1 _ Q1,(fR w).alloc _⟩
 | err e=>
  have e1:rW s.data.toList a = .returned (.tuple #[.string ⟨#[]⟩,a,e]):=by
   unfold rW;rw[hx]
  rw[e1] at hX;have HX:=hD hX;have HFX:=hD (HF.o.trans hx);clear hX e1 hx;go_enter func87,ntmps87;go_wp2_with (first|(go_at_call 127;refine bL (HD _) ?_)|(go_at_call 129;refine bL (HT _) ?_)|(go_at_call 131;refine bL (HX _) ?_))
  refine bodyPost_ret (v:= .tuple #[.agg #[U2,.string ⟨#[]⟩,a],a,e]) (by simp[results,results87,go_sem,jC];try rfl) rfl ⟨oC HFX _ _ _ _,(fR w).alloc _⟩
theorem aGa (s:ByteArray) (hs:s.size≤281474976710656) (a:Nat) (ha:a<s.size) (w:World) (hd:bE (aT s.data.toList a)=false) (hlt:gN (aT s.data.toList a)=false) (hq:aT s.data.toList a≠34):
  Calls prog 87 #[s,a] w λe w'=>sK s.data.toList a e∧Fr nob w w':=by
 have hl:s.data.toList.length=s.size:=by simp
 have hf:firstM (s.data.toList.drop a)=jX (s.data.toList.drop a):=by
  unfold firstM;rw[fT,Nat.add_zero,if_neg (by rw[hd];simp),if_neg (by rw[hlt];simp),if_neg (by simpa using hq)]
 have hai:(a:Int)<(s.size:Int):=by omega
 obtain⟨c,hc⟩:∃c,s[a]'ha=c:=⟨_,rfl⟩;rw[dF s a ha,hc] at hd hlt hq;have HD:=hD (λw'=>jD (c.toNat:Int) w');rw[hd] at HD;have HT:=hD (λw'=>kK (c.toNat:Int) w');rw[hlt] at HT;have hqb:((c.toNat:Int)==34)=false:=bN.2 hq;have hR:(s.extract a s.size).data.toList=s.data.toList.drop a:=Lib.extract_to_end s a;have hX:=λw'=>aFx (s.extract a s.size) (by simp;omega) w'
 rw[hR] at hX;clear hd hlt hq hR;cases hx:jX (s.data.toList.drop a) with
 | ok k o m n=>
  obtain⟨rfl,rfl,rfl,h1⟩:=yD hx;have hfx:=hf.trans hx;obtain⟨_,hn2,hom⟩:=iF (by rw[List.length_drop,hl];omega) hfx;rw[List.length_drop,hl] at hn2;have e1:qF (s.data.toList.drop a)=(s.data.toList.drop a).take n:=by
   unfold qF;rw[hx]
  rw[e1] at hX;obtain⟨x,hx1⟩:∃x,bs ((s.data.toList.drop a).take n)=x:=⟨_,rfl⟩;have hxs:x.size=n:=by rw[<-hx1,aQs,List.length_take,List.length_drop,hl];omega
  have hxe:x.toList.isEmpty=false:=by
   rw[ByteArray.toList_eq];cases hd:x.data.toList with
   | nil=>
    have:x.data.toList.length=x.size:=by simp
    rw[hd] at this;simp at this;omega
   | cons _ _=>rfl
  rw[hx1] at hX;have HX:=hD hX;have X1:=hD (show x=bs (((s.data.toList.drop a).drop 0).take n) by rw[List.drop_zero];exact hx1.symm);have HFX:=hD hfx;have XS:=hD hxs;have hxi:(x.size:Int)≤(s.size:Int) - (a:Int):=by omega
  clear hX e1 hx1 hx hf hfx hxs hom;go_enter func87,ntmps87;go_wp2_with (first|(go_at_call 127;refine bL (HD _) ?_)|(go_at_call 129;refine bL (HT _) ?_)|(go_at_call 132;go_must (refine (HX _).mono ?_;rintro e w2 ⟨rfl,hf⟩;have F2:=hD hf;(have B:=(Blk.new w 115 #[U0,.string ⟨#[]⟩,U0]).fr F2 (λx=>x));have c0:=B.cell 0;have c1:=B.cell 1;have c2:=B.cell 2;have f0:=B.frozen 0;have f1:=B.frozen 1;have f2:=B.frozen 2;clear B;clear hf)))
  refine bodyPost_ret (v:= .tuple #[jC 5 x a,((a:Int)+(x.size:Int):Int),U0]) (by simp[results,results87,go_sem,jC,c0,c1,c2];try rfl) rfl ⟨(by have:=mG HFX x X1 (a+x.size) (by rw[XS.o]);rwa [Int.natCast_add] at this),Fr.vN F2 _ _ _⟩
 | err e=>
  obtain rfl:=aFk hx;have e1:qF (s.data.toList.drop a)=[]:=by
   unfold qF;rw[hx]
  rw[e1] at hX;have HX:=hD hX;have HFX:=hD (hf.trans hx);have hxe:(bs []).toList.isEmpty=true:=by rw[ByteArray.toList_eq];rfl
  clear hX e1 hx hf;go_enter func87,ntmps87;go_wp2_with (first|(go_at_call 127;refine bL (HD _) ?_)|(go_at_call 129;refine bL (HT _) ?_)|(go_at_call 132;go_must (refine (HX _).mono ?_;rintro e w2 ⟨rfl,hf⟩;have F2:=hD hf;(have B:=(Blk.new w 115 #[U0,.string ⟨#[]⟩,U0]).fr F2 (λx=>x));have c0:=B.cell 0;have c1:=B.cell 1;have c2:=B.cell 2;have f0:=B.frozen 0;have f1:=B.frozen 1;have f2:=B.frozen 2;clear B;clear hf)))
  refine bodyPost_ret (v:= .tuple #[.agg #[U0,.string ⟨#[]⟩,U0],a,(10:Int)]) (by simp[results,results87,go_sem,jC,c0,c1,c2];try rfl) rfl ⟨oC HFX _ _ _ _,Fr.vN F2 _ _ _⟩
theorem aKm (s:ByteArray) (hs:s.size≤281474976710656) (a:Nat) (ha:a<s.size) (w:World):
  Calls prog 87 #[s,a] w λe w'=>sK s.data.toList a e∧Fr nob w w':=by
 cases hd:bE (aT s.data.toList a) with
 | true=>exact aCh s hs a ha w hd
 | false=>
  cases hl:gN (aT s.data.toList a) with
  | true=>exact yH s hs a ha w hd hl
  | false=>
   by_cases hq:aT s.data.toList a=34
   . exact aCg s hs a ha w hq
   . exact aGa s hs a ha w hd hl hq
theorem aFh (h0:0<l.length) (h:gW l=0):fG (aT l 0)=false∧cO l=false:=by
 cases hb:fG (aT l 0) with
 | true=>rw[nQ h0 hb] at h;omega
 | false=>
  cases hr:cO l with
  | true=>
   have:=nU hr;rw[mM h0 hb hr] at h;omega
  | false=>exact⟨rfl,rfl⟩
theorem aKo (s:ByteArray) (w:World) (hs:s.size≤281474976710656):
   Calls prog 55 #[s] w λe w'=>aQz w.heap.size w' e (nP s.data.toList)∧Fr nob w w':=by
 have hl:s.data.toList.length=s.size:=by simp
 unfold nP;rw[hl];have HL:=hD hl;clear hl;by_cases hbig:600<s.size
 . rw[if_pos hbig]
   have h2:(600:Int)<(s.size:Int):=by omega
   clear hbig;go_enter func55,ntmps55;go_wp2
   go_ret3
   exact⟨rfl,Fr.refl _ _⟩
 . rw[if_neg hbig]
   have h2:(s.size:Int)≤600:=by omega
   have h600:s.size≤600:=by omega
   clear hbig;obtain⟨a1,a2,a3⟩:=aAt _ s.data.toList 0 (Nat.le_refl _);rw[Nat.zero_add] at a3;rw[HL.o] at a1;have hS:=λw'=>wD s hs 0 (Nat.zero_le _) w'
   rw[List.drop_zero,Nat.zero_add] at hS;generalize gW s.data.toList=k0 at *;have HS:=hD hS;have A2:=hD a2;have A3:=hD a3;clear hS a2 a3;go_enter func55,ntmps55;go_wp2_with (go_at_call 86;refine bL (HS _) ?_)
   go_loopw [5,6] (λl i w'=>∃(k:Nat) (K:List Tok),k≤s.size∧K.length≤k∧i = .int .i64 k∧Hd (xM w.heap.size w' l K)∧Hd (Fr nob w w')∧Hd (lexFrom s.data.toList 0=(lexFrom (s.data.toList.drop k) k).pre K)∧Hd (gW (s.data.toList.drop k)=0)) (λ_ i _=>s.size - (intOf i).toNat)
   case atStart=>
    exact⟨k0,[],a1,Nat.zero_le _,rfl,hD ⟨Own.empty _ _ _ _,λg hg=>by simp[blk] at hg⟩,hD (by first|exact Fr.refl _ _|exact (Fr.refl _ _).alloc _),hD (by rw[pre_nil];exact A3),A2⟩
   case round=>
    obtain⟨k,K,hks,hKk,rfl,T,F,LX,Z⟩:=hrel;obtain⟨A,c,rfl,hc,hcm⟩:=T.o.own.cap;by_cases hlt:k<s.size
    . have hlt2:(k:Int)<(s.size:Int):=by omega
      have h0:0<(s.data.toList.drop k).length:=by rw[List.length_drop,HL.o];omega
      obtain⟨hblf,hrf⟩:=aFh h0 Z.o;have hO:=λw'=>aKm s hs k hlt w'
      unfold sK at hO;cases hone:firstM (s.data.toList.drop k) with
      | err er=>
        have N1:=hD (kX (p:=k) h0 hblf hrf hone);have her:=oG hone;rw[hone] at hO;have HO:=hD hO;have he2:((er:Int) != 0)=true:=by simp;omega
        clear hO hone hblf hrf h0 her;go_wp2_with (go_at_call 87;go_must (refine (HO _).mono ?_;rintro e w2 ⟨⟨k5,p5,q5,t5,rfl⟩,hf2⟩;have F2:=hD hf2;clear hf2))
        go_ret3
        rw[LX.o,N1.o];exact⟨rfl,(F.o.tr F2).alloc _⟩
      | ok kd o m n=>
        have N1:=hD (nJ (p:=k) h0 hblf hrf hone);obtain⟨hn1,hn2,hom⟩:=iF h0 hone;rw[List.length_drop,HL.o] at hn2;rw[hone] at hO;simp only[jC] at hO;generalize ((s.data.toList.drop k).drop o).take m=tx at *;obtain⟨q,hq⟩:∃q:Nat,k+n=q:=⟨_,rfl⟩;have hdd:(s.data.toList.drop k).drop n=s.data.toList.drop q:=by rw[List.drop_drop,hq]
        rw[hdd,hq] at N1;rw[hq] at hO;have HO:=hD hO;have hqs:q≤s.size:=by omega
        obtain⟨b1,b2,b3⟩:=aAt _ (s.data.toList.drop q) q (Nat.le_refl _);rw[List.drop_drop] at b2 b3;rw[List.length_drop,HL.o] at b1;have hS2:=λw'=>wD s hs q hqs w'
        obtain⟨k2,hk2⟩:∃k2:Nat,q+gW (s.data.toList.drop q)=k2:=⟨_,rfl⟩;rw[hk2] at b2 b3 hS2;have HS2:=hD hS2;have B2:=hD b2;have B3:=hD b3;have hk2s:k2≤s.size:=by omega
        have hk2k:k+1≤k2:=by omega
        clear hO hone hblf hrf h0 hS2 b2 b3 hdd hom hq hk2 b1 hn2;go_wp2_with (first|(go_at_call 87;go_must (refine (HO _).mono ?_;rintro e w2 ⟨rfl,hf2⟩;have F2:=hD hf2;have S2:=hD hf2.size;clear hf2))|(go_at_call 86;refine bL (HS2 _) ?_)|(at_builtin;refine aN (v:= .slice A K.length c) (m:=1) (news:=[kd,bs tx,k]) rfl _ _ rfl aMs rfl rfl (((T.o.no F2).own.alloc _).alloc _) (Rd.gG (n:=1) (cs:=[kd,bs tx,k]) (Blk.new2 _ _ _ _) rfl (by decide)) (by simp[Value.oneCell']) (by omega) (by unfold maxLen;omega) ?_;intro A3 c3 w3 ho3 hf3 hv3;have O3:=hD ho3;have F3:=hD hf3;have V3:=hD hv3;clear ho3 hf3 hv3))
        go_roundw
        case rel=>
          refine⟨k2,K++[⟨kd,tx,k⟩],hk2s,by simp;omega,rfl,hD ⟨?_,λg hg=>?_⟩,hD ?_,hD (by rw[LX.o,N1.o,yX,B3.o]),B2⟩
          . have e1:dW (K++[⟨kd,tx,k⟩])=dW K++[.int .i64 kd,.string (bs tx),.int .i64 k]:=by simp[dW]
            rw[e1,List.length_append];exact O3.o
          . have hg':blk (.slice A3 (K.length+1) c3)=some g:=hg
            rcases V3.o with h|h
            . exact T.o.new g (h ▸ hg')
            . rw[hg'] at h;injection h with h
              simp at h
              have:=F.o.size;have:=S2.o;omega
          . exact (((F.o.tr F2).alloc _).alloc _).trans F3 (λ_ _ x=>x) (λb hb h=>by have:=T.o.new b h;omega)
        case measure=>simp[intOf];omega
    . have hk:k=s.size:=by omega
      have E1:=hD (show lexFrom (s.data.toList.drop k) k = .good [⟨0,[],k⟩] by rw[List.drop_of_length_le (by rw[HL.o];omega),lex_nil]);have hge:(s.size:Int)≤(k:Int):=by omega
      clear hlt;subst hk;go_wp2_with (at_builtin;refine aN (v:= .slice A K.length c) (m:=1) (news:=[U0,.string ⟨#[]⟩,s.size]) rfl _ _ rfl aMs rfl rfl (T.o.own.alloc _) (Rd.gG (n:=1) (cs:=[U0,.string ⟨#[]⟩,s.size]) (Blk.new _ _ _) rfl (by decide)) (by simp[Value.oneCell']) (by omega) (by unfold maxLen;omega) ?_;intro A3 c3 w3 ho3 hf3 hv3;have O3:=hD ho3;have F3:=hD hf3;have V3:=hD hv3;clear ho3 hf3 hv3)
      go_ret3
      rw[LX.o,E1.o];refine⟨⟨_,rfl,?_,λg hg=>?_⟩,?_⟩
      . have e1:dW (K++[⟨0,[],s.size⟩])=dW K++[.int .i64 0,.string ⟨#[]⟩,.int .i64 s.size]:=by simp[dW,bs]
        rw[e1,List.length_append];exact O3.o
      . have hg':blk (.slice A3 (K.length+1) c3)=some g:=hg
        rcases V3.o with h|h
        . exact T.o.new g (h ▸ hg')
        . rw[hg'] at h;injection h with h
          simp at h
          have:=F.o.size;omega
      . exact (F.o.alloc _).trans F3 (λ_ _ x=>x) (λb hb h=>by have:=T.o.new b h;omega)
structure aH where
 kind:Nat
 line:Nat
 n:Nat
 name:List UInt8
 l:List Nat
 deriving DecidableEq
structure PS where
 i:Nat
 nodes:List aH
 deep:Nat
 e:Nat
 place:Nat
variable {s:PS}{r:List Nat×PS}
abbrev mK:Tok:=⟨0,[],0⟩
section
variable (src:List UInt8) (ts:List Tok)
def bF (s:PS):Tok:=ts.getD s.i mK
def aQ (k:Nat) (s:PS):PS:=if s.e=0 then { s with e:=k,place:=(bF ts s).place } else s
def pIs (x:List UInt8) (s:PS):Bool:=decide (s.e=0) && (decide ((bF ts s).kind=5) || decide ((bF ts s).kind=4)) && decide ((bF ts s).text=x)
def bB (k:Nat) (s:PS):Bool:=decide (s.e=0) && decide ((bF ts s).kind=k)
def pGo (s:PS):PS:={ s with i:=s.i+1 }
def aA (x:List UInt8) (s:PS):PS:=if pIs ts x s then pGo s else aQ ts 20 s
def dH (s:PS):List UInt8:=if bB ts 3 s then (bF ts s).text else []
def aF (s:PS):PS:=if bB ts 3 s then pGo s else aQ ts 20 s
def aR (s:PS):Nat:=iC src (bF ts s).place
def bY (kind line n:Nat) (name:List UInt8) (l:List Nat) (s:PS):List Nat×PS:=([s.nodes.length],{ s with nodes:=s.nodes++[⟨kind,line,n,name,l⟩] })
def aU (s:PS):PS:=let s:=if 16≤s.deep then aQ ts 21 s else s;{ s with deep:=s.deep+1 }
def pUp (s:PS):PS:={ s with deep:=s.deep - 1 }
def dX:Nat->List (List UInt8)
 | 0=>[[124,124]]
 | 1=>[[38,38]]
 | 2=>[[60],[60,61],[61,61],[33,61]]
 | 3=>[[43],[45]]
 | _=>[[42],[47],[37]]
def fC (lv:Nat) (s:PS):List UInt8:=((dX lv).find? λx=>pIs ts x s).getD []
def eP (s:PS):Bool:=bB ts 3 s && (decide ((ts.getD (s.i+1) mK).kind=5) && decide ((ts.getD (s.i+1) mK).text=[40]))
def bQ (s:PS):List UInt8:=if bB ts 4 s then (bF ts s).text else []
def mX (w:List UInt8):Nat:=if w=[105,110,116] then 1 else if w=[98,111,111,108] then 2 else if w=[116,101,120,116] then 3 else if w=[108,105,115,116] then 4 else 0
def eF (s:PS):Nat:=mX (bQ ts s)
def bC (s:PS):PS:=if eF ts s=0 then aQ ts 20 s else pGo s
def aMq (l:List UInt8):Nat:=aS 0 l
inductive Task where
 | atom|factor|chain (lv:Nat)|more (lv line x:Nat)|args (l:List Nat)|call|right|block|stmts (l:List Nat)|named (line:Nat)|stmt
def run:Nat->Task->PS->Option (List Nat×PS)
 | 0,_,_=>none
 | f+1,.atom,s=>
  if s.e≠0 then some ([0],s)
  else if (bF ts s).kind=1 then some (bY 1 (aR src ts s) (aMq (bF ts s).text) [] [] (pGo s))
  else if (bF ts s).kind=2 then some (bY 3 (aR src ts s) 0 (bF ts s).text [] (pGo s))
  else if (bF ts s).kind=3 then
    if pIs ts [91] (pGo s) then
      (run f (.chain 0) (aA ts [91] (aU ts (pGo s)))).map λr=>bY 5 (aR src ts s) 0 (bF ts s).text r.1 (pUp (aA ts [93] r.2))
    else some (bY 4 (aR src ts s) 0 (bF ts s).text [] (pGo s))
  else if pIs ts [116,114,117,101] s then some (bY 2 (aR src ts s) 1 [] [] (pGo s))
  else if pIs ts [102,97,108,115,101] s then some (bY 2 (aR src ts s) 0 [] [] (pGo s))
  else if pIs ts [108,101,110] s then
    if pIs ts [40] (pGo s) then
      (run f (.chain 0) (aA ts [40] (aU ts (pGo s)))).map λr=>bY 6 (aR src ts s) 0 [] r.1 (pUp (aA ts [41] r.2))
    else some ([0],aQ ts 20 (pGo s))
  else if pIs ts [40] s then (run f (.chain 0) (aA ts [40] (aU ts s))).map λr=>(r.1,pUp (aA ts [41] r.2))
  else some ([0],aQ ts 20 s)
 | f+1,.factor,s=>
  if pIs ts [45] s then (run f .factor (pGo (aU ts s))).map λr=>bY 7 (aR src ts s) 0 [] r.1 (pUp r.2)
  else if pIs ts [33] s then (run f .factor (pGo (aU ts s))).map λr=>bY 8 (aR src ts s) 0 [] r.1 (pUp r.2)
  else run f .atom s
 | f+1,.chain lv,s=>
  if lv=5 then run f .factor s
  else (run f (.chain (lv+1)) s).bind λr=>run f (.more lv (aR src ts s) (r.1.headD 0)) r.2
 | f+1,.more lv line x,s=>
  if fC ts lv s=[] then some ([x],s)
  else (run f (.chain (lv+1)) (pGo s)).bind λr=>
    let p:=bY 9 line 0 (fC ts lv s) [x,r.1.headD 0] r.2
    if lv=2 then some p else run f (.more lv line (p.1.headD 0)) p.2
 | f+1,.args l,s=>
  (run f (.chain 0) s).bind λr=>if pIs ts [44] r.2 then run f (.args (l++r.1)) (pGo r.2) else some (l++r.1,r.2)
 | f+1,.call,s=>
  let s2:=aA ts [40] (aF ts s)
  (if pIs ts [41] s2=false∧s2.e=0 then run f (.args []) s2 else some ([],s2)).map λr=>bY 21 (aR src ts s) 0 (dH ts s) r.1 (aA ts [41] r.2)
 | f+1,.right,s=>
  if pIs ts [105,110,112,117,116] s then some (bY 19 (aR src ts s) 0 [] [] (pGo s))
  else if pIs ts [110,101,119] s then
    (run f (.chain 0) (aA ts [40] (pGo s))).map λr=>bY 20 (aR src ts s) 0 [] r.1 (aA ts [41] r.2)
  else if eP ts s then run f .call s
  else run f (.chain 0) s
 | f+1,.block,s=>
  if pIs ts [123] s then
    (run f (.stmts []) (aA ts [123] (aU ts s))).map λr=>bY 18 (aR src ts s) 0 [] r.1 (pUp (aA ts [125] r.2))
  else some ([0],aQ ts 20 s)
 | f+1,.stmts l,s=>
  if s.e≠0 then some (l,s)
  else if pIs ts [125] s then some (l,s)
  else (run f .stmt s).bind λr=>run f (.stmts (l++r.1)) r.2
 | f+1,.named line,s=>
  if eP ts s then (run f .call s).map λr=>bY 13 line 0 [] r.1 (aA ts [59] r.2)
  else if pIs ts [91] (aF ts s) then
    (run f (.chain 0) (aA ts [91] (aU ts (aF ts s)))).bind λr=>
      (run f (.chain 0) (aA ts [61] (pUp (aA ts [93] r.2)))).map λq=>bY 12 line 0 (dH ts s) (r.1++q.1) (aA ts [59] q.2)
  else (run f .right (aA ts [61] (aF ts s))).map λr=>bY 11 line 0 (dH ts s) r.1 (aA ts [59] r.2)
 | f+1,.stmt,s=>
  if bQ ts s=[108,101,116] then
    (run f .right (aA ts [61] (aF ts (pGo s)))).map λr=>bY 10 (aR src ts s) 0 (dH ts (pGo s)) r.1 (aA ts [59] r.2)
  else if bQ ts s=[112,114,105,110,116] then
    (run f (.chain 0) (pGo s)).map λr=>bY 14 (aR src ts s) 0 [] r.1 (aA ts [59] r.2)
  else if bQ ts s=[119,104,105,108,101] then
    (run f (.chain 0) (pGo s)).bind λr=>(run f .block r.2).map λb=>bY 16 (aR src ts s) 0 [] (r.1++b.1) b.2
  else if bQ ts s=[105,102] then
    (run f (.chain 0) (pGo s)).bind λr=>(run f .block r.2).bind λb=>
      if pIs ts [101,108,115,101] b.2 then (run f .block (pGo b.2)).map λc=>bY 15 (aR src ts s) 0 [] (r.1++b.1++c.1) c.2
      else some (bY 15 (aR src ts s) 0 [] (r.1++b.1) b.2)
  else if bQ ts s=[114,101,116,117,114,110] then
    if pIs ts [59] (pGo s) then some (bY 17 (aR src ts s) 0 [] [] (aA ts [59] (pGo s)))
    else (run f (.chain 0) (pGo s)).map λr=>bY 17 (aR src ts s) 0 [] r.1 (aA ts [59] r.2)
  else run f (.named (aR src ts s)) s
structure aD where
 name:List UInt8
 line:Nat
 params:List (List UInt8×Nat)
 ret:Nat
 body:Nat
def aJ:Nat->List (List UInt8×Nat)->PS->Option (List (List UInt8×Nat)×PS)
 | 0,_,_=>none
 | f+1,acc,s=>
  let s1:=aF ts s
  let s2:=bC ts s1
  let acc2:=acc++[(dH ts s,eF ts s1)]
  if pIs ts [44] s2 then aJ f acc2 (pGo s2) else some (acc2,s2)
def bO (f:Nat) (s:PS):Option (aD×PS):=
 let s1:=aA ts [102,110] s
 let s3:=aA ts [40] (aF ts s1)
 (if pIs ts [41] s3=false∧s3.e=0 then aJ ts f [] s3 else some ([],s3)).bind λp=>
   let s4:=aA ts [41] p.2
   let ret:=if pIs ts [123] s4 then 0 else eF ts s4
   let s5:=if pIs ts [123] s4 then s4 else bC ts s4
   (run src ts f .block s5).map λb=>(⟨dH ts s1,aR src ts s,p.1,ret,b.1.headD 0⟩,b.2)
def bA:Nat->List aD->PS->Option (List aD×PS)
 | 0,_,_=>none
 | f+1,acc,s=>
  if s.e≠0 then some (acc,s)
  else if bB ts 0 s then some (acc,s)
  else (bO src ts f s).bind λr=>bA f (acc++[r.1]) r.2
end
inductive xO where
 | good (nodes:List aH) (fns:List aD)
 | bad (p e:Nat)
def eY (ts:List Tok):Nat:=40*ts.length+100
def mF (src:List UInt8) (ts:List Tok):Option xO:=
 (bA src ts (eY ts) [] ⟨0,[],0,0,0⟩).map λr=>
   if r.2.e≠0 then .bad r.2.place r.2.e
   else if 300<r.2.nodes.length∨6<r.1.length∨r.1.any (λf=>decide (3<f.params.length))=true then .bad 0 4
   else .good r.2.nodes r.1
def parseM (src:List UInt8):Option xO:=
 match nP src with
 | .bad p e=>some (.bad p e)
 | .good ts=>mF src ts
structure Ext (s t:PS):Prop where
 i:s.i≤t.i
 err:s.e≠0->t.e=s.e∧t.place=s.place
 nodes:∃x,t.nodes=s.nodes++x
section
variable {src:List UInt8}{ts:List Tok}{s t u:PS}
theorem Ext.refl (s:PS):Ext s s:=⟨Nat.le_refl _,λ_=>⟨rfl,rfl⟩,[],by simp⟩
theorem Ext.trans (h:Ext s t) (g:Ext t u):Ext s u:=by
 refine⟨Nat.le_trans h.i g.i,λhe=>?_,?_⟩
 . obtain⟨a1,a2⟩:=h.err he
   obtain⟨b1,b2⟩:=g.err (by rw[a1];exact he);exact⟨b1.trans a1,b2.trans a2⟩
 . obtain⟨x,hx⟩:=h.nodes
   obtain⟨y,hy⟩:=g.nodes;exact⟨x++y,by rw[hy,hx,List.append_assoc]⟩
theorem Ext.fail (h:Ext s t) (k:Nat):Ext s (aQ ts k t):=by
 refine h.trans ?_;unfold aQ;split
 . rename_i h0;exact⟨Nat.le_refl _,λhe=>absurd h0 he,[],by simp⟩
 . exact Ext.refl _
theorem Ext.go (h:Ext s t):Ext s (pGo t):=h.trans ⟨Nat.le_succ _,λ_=>⟨rfl,rfl⟩,[],by simp[pGo]⟩
theorem Ext.up (h:Ext s t):Ext s (pUp t):=h.trans ⟨Nat.le_refl _,λ_=>⟨rfl,rfl⟩,[],by simp[pUp]⟩
theorem Ext.down (h:Ext s t):Ext s (aU ts t):=by
 unfold aU;simp only;split
 . exact (h.fail (ts:=ts) 21).trans ⟨Nat.le_refl _,λ_=>⟨rfl,rfl⟩,[],by simp⟩
 . exact h.trans ⟨Nat.le_refl _,λ_=>⟨rfl,rfl⟩,[],by simp⟩
theorem Ext.must (h:Ext s t) (x:List UInt8):Ext s (aA ts x t):=by
 unfold aA;split
 . exact h.go
 . exact h.fail _
theorem Ext.named (h:Ext s t):Ext s (aF ts t):=by
 unfold aF;split
 . exact h.go
 . exact h.fail _
theorem Ext.typed (h:Ext s t):Ext s (bC ts t):=by
 unfold bC;split
 . exact h.fail _
 . exact h.go
theorem Ext.put (h:Ext s t) (kind line n:Nat) (name:List UInt8) (l:List Nat):Ext s (bY kind line n name l t).2:=
 h.trans ⟨Nat.le_refl _,λ_=>⟨rfl,rfl⟩,[⟨kind,line,n,name,l⟩],rfl⟩
theorem vX (h:(bF ts s).kind≠0):s.i<ts.length:=by
 by_cases hl:s.i<ts.length
 . exact hl
 . refine absurd ?_ h
   unfold bF;rw[List.getD,List.getElem?_eq_none (by omega)];rfl
theorem aL (h:pIs ts x s=true):s.e=0∧(bF ts s).kind≠0∧(bF ts s).text=x:=by
 unfold pIs at h;simp at h
 exact⟨h.1.1,by omega,h.2⟩
theorem aHc (h:pIs ts x s=true):s.i<ts.length:=vX (aL h).2.1
theorem aM (h:bB ts k s=true):s.e=0∧(bF ts s).kind=k:=by
 unfold bB at h;simpa using h
theorem zA (h:eP ts s=true):bB ts 3 s=true:=by
 unfold eP at h;simp at h
 exact h.1
theorem nY (hx:x≠[]) (h:bQ ts s=x):s.e=0∧(bF ts s).kind=4:=by
 unfold bQ at h;split at h
 . rename_i hk;exact aM hk
 . exact absurd h.symm hx
theorem tQ {lv:Nat} (h:fC ts lv s≠[]):s.e=0∧s.i<ts.length:=by
 unfold fC at h;cases hf:(dX lv).find? λx=>pIs ts x s with
 | none=>rw[hf] at h;simp at h
 | some x=>
  have:=List.find?_some hf;exact⟨(aL this).1,aHc this⟩
theorem aI:∀(n:Nat) (k:Task) (s:PS) (r:List Nat×PS),run src ts n k s=some r->Ext s r.2:=by
 intro n;induction n with
 | zero=>intro k s r h;simp[run] at h
 | succ n ih=>
  intro k s r h;cases k<;>simp only[run] at h<;>
   (repeat' split at h)<;>
   (try simp only[mS,bS,Option.some.injEq] at h)<;>
   (try (obtain⟨q1,h1,h⟩:=h))<;>
   (repeat' split at h)<;>
   (try simp only[mS,bS,Option.some.injEq] at h)<;>
   (try (obtain⟨q2,h2,h⟩:=h))<;>
   (repeat' split at h)<;>
   (try simp only[mS,bS,Option.some.injEq] at h)<;>
   (try (obtain⟨q3,h3,h⟩:=h))<;>
   (try subst h)<;>
   (try subst h1)<;>
   (repeat (first
     | exact Ext.refl _
     | apply Ext.put
     | apply Ext.up
     | apply Ext.must
     | apply Ext.named
     | apply Ext.typed
     | apply Ext.go
     | apply Ext.down
     | apply Ext.fail
     | refine Ext.trans ?_ (ih _ _ _ (by assumption))
     | dsimp only))
def rem (ts:List Tok) (s:PS):Nat:=if s.e=0 then 16*(ts.length - s.i) else 0
theorem eX (h:Ext s t):rem ts t≤rem ts s:=by
 unfold rem;have hi:=h.i;by_cases h0:s.e=0
 . rw[if_pos h0];split<;>omega
 . rw[if_neg h0,if_neg (by rw[(h.err h0).1];exact h0)];omega
theorem sW (h0:s.e=0) (hi:s.i<ts.length) (h:Ext (pGo s) t):rem ts t+16≤rem ts s:=by
 have h1:rem ts t≤rem ts (pGo s):=eX h;have h2:rem ts (pGo s)=16*(ts.length - (s.i+1)):=by unfold rem;rw[if_pos (show (pGo s).e=0 from h0)];rfl
 have h3:rem ts s=16*(ts.length - s.i):=by unfold rem;rw[if_pos h0]
 omega
theorem sV (hx:pIs ts x s=true) (h:Ext (pGo s) t):rem ts t+16≤rem ts s:=sW (aL hx).1 (aHc hx) h
theorem uQ (hx:pIs ts x s=true):rem ts (aA ts x (aU ts s))+16≤rem ts s:=by
 have h0:=(aL hx).1;have hi:=aHc hx;have h3:rem ts s=16*(ts.length - s.i):=by unfold rem;rw[if_pos h0]
 unfold aU;by_cases hd:16≤s.deep
 . have he:(aU ts s).e=21:=by
    unfold aU aQ;simp only;rw[if_pos hd,if_pos h0]
   have e1:=((Ext.refl (aU ts s)).must (ts:=ts) x).err (by rw[he];decide);have:rem ts (aA ts x (aU ts s))=0:=by
    unfold rem;rw[if_neg (by rw[e1.1,he];decide)]
   unfold aU at this;rw[this];omega
 . simp only
   rw[if_neg hd];have h4:pIs ts x { s with deep:=s.deep+1 }=true:=hx;unfold aA;rw[if_pos h4];have:rem ts (pGo { s with deep:=s.deep+1 })=16*(ts.length - (s.i+1)):=by
    unfold rem;rw[if_pos (show (pGo { s with deep:=s.deep+1 }).e=0 from h0)];rfl
   omega
def cost:Task->Nat
 | .atom=>1 | .factor=>2 | .chain lv=>8 - lv | .more _ _ _=>2 | .args _=>9 | .call=>10 | .right=>11 | .named _=>12 | .stmt=>13 | .stmts _=>14 | .block=>15
def gU:Task->Prop
 | .chain lv=>lv≤5
 | .more lv _ _=>lv≤4
 | _=>True
theorem rE (s:PS):Ext (pGo s) (pGo (aU ts s)):=by
 have h:=(Ext.refl s).down (ts:=ts);exact⟨Nat.succ_le_succ h.i,λhe=>h.err he,h.nodes⟩
theorem aHi {line:Nat} (h:run src ts n (.named line) s=some r) (hc:eP ts s=false):Ext (aF ts s) r.2:=by
 cases n with
 | zero=>simp[run] at h
 | succ n=>
  simp only[run] at h;rw[if_neg (by rw[hc];simp)] at h;split at h
  focus
   simp only[mS,bS] at h
   obtain⟨q1,h1,q2,h2,h⟩:=h
  rotate_left
  focus
   simp only[mS] at h
   obtain⟨q1,h1,h⟩:=h
  all_goals
   subst h
   (repeat (first
     | exact Ext.refl _
     | apply Ext.put
     | apply Ext.up
     | apply Ext.must
     | (refine Ext.trans ?_ (aI _ _ _ _ (by assumption)))
     | apply Ext.named
     | apply Ext.typed
     | apply Ext.go
     | apply Ext.down
     | apply Ext.fail
     | dsimp only))
theorem aMo (h:run src ts n .call s=some r):Ext (aF ts s) r.2:=by
 cases n with
 | zero=>simp[run] at h
 | succ n=>
  simp only[run] at h;split at h<;>
   simp only[mS,Option.some.injEq] at h<;>
   obtain⟨q1,h1,h⟩:=h<;>
   subst h<;>
   (try subst h1)<;>
   (repeat (first
     | exact Ext.refl _
     | apply Ext.put
     | apply Ext.up
     | apply Ext.must
     | (refine Ext.trans ?_ (aI _ _ _ _ (by assumption)))
     | apply Ext.named
     | apply Ext.typed
     | apply Ext.go
     | apply Ext.down
     | apply Ext.fail
     | dsimp only))
theorem tV (h:Ext (aF ts s) t) (h0:s.e=0):t.e≠0∨rem ts t+16≤rem ts s:=by
 unfold aF at h;by_cases hk:bB ts 3 s=true
 . rw[if_pos hk] at h
   exact .inr (sW h0 (vX (by rw[(aM hk).2];decide)) h)
 . rw[if_neg hk] at h
   left
   have he:(aQ ts 20 s).e=20:=by unfold aQ;rw[if_pos h0]
   rw[(h.err (by rw[he];decide)).1,he];decide
theorem aFe (h:run src ts n .stmt s=some r) (h0:s.e=0):r.2.e≠0∨rem ts r.2+16≤rem ts s:=by
 cases n with
 | zero=>simp[run] at h
 | succ n=>
  have word:∀x,x≠[]->bQ ts s=x->Ext (pGo s) r.2->rem ts r.2+16≤rem ts s:=λx hx hw he=>by
    obtain⟨_,hk4⟩:=nY hx hw;exact sW h0 (vX (by rw[hk4];decide)) he
  simp only[run] at h;split at h
  . rename_i hw
    refine .inr (word _ (by decide) hw ?_);simp only[mS] at h;obtain⟨q1,h1,h⟩:=h;subst h
    (repeat (first
      | exact Ext.refl _
      | apply Ext.put
      | apply Ext.up
      | apply Ext.must
      | (refine Ext.trans ?_ (aI _ _ _ _ (by assumption)))
      | apply Ext.named
      | apply Ext.typed
      | apply Ext.go
      | apply Ext.down
      | apply Ext.fail
      | dsimp only))
  . split at h
    . rename_i hw
      refine .inr (word _ (by decide) hw ?_);simp only[mS] at h;obtain⟨q1,h1,h⟩:=h;subst h
      (repeat (first
      | exact Ext.refl _
      | apply Ext.put
      | apply Ext.up
      | apply Ext.must
      | (refine Ext.trans ?_ (aI _ _ _ _ (by assumption)))
      | apply Ext.named
      | apply Ext.typed
      | apply Ext.go
      | apply Ext.down
      | apply Ext.fail
      | dsimp only))
    . split at h
      . rename_i hw
        refine .inr (word _ (by decide) hw ?_);simp only[mS,bS] at h;obtain⟨q1,h1,q2,h2,h⟩:=h;subst h
        (repeat (first
      | exact Ext.refl _
      | apply Ext.put
      | apply Ext.up
      | apply Ext.must
      | (refine Ext.trans ?_ (aI _ _ _ _ (by assumption)))
      | apply Ext.named
      | apply Ext.typed
      | apply Ext.go
      | apply Ext.down
      | apply Ext.fail
      | dsimp only))
      . split at h
        . rename_i hw
          refine .inr (word _ (by decide) hw ?_);simp only[bS] at h;obtain⟨q1,h1,q2,h2,h⟩:=h;split at h
          . simp only[mS] at h
            obtain⟨q3,h3,h⟩:=h;subst h
            (repeat (first
      | exact Ext.refl _
      | apply Ext.put
      | apply Ext.up
      | apply Ext.must
      | (refine Ext.trans ?_ (aI _ _ _ _ (by assumption)))
      | apply Ext.named
      | apply Ext.typed
      | apply Ext.go
      | apply Ext.down
      | apply Ext.fail
      | dsimp only))
          . simp only[Option.some.injEq] at h
            subst h
            (repeat (first
      | exact Ext.refl _
      | apply Ext.put
      | apply Ext.up
      | apply Ext.must
      | (refine Ext.trans ?_ (aI _ _ _ _ (by assumption)))
      | apply Ext.named
      | apply Ext.typed
      | apply Ext.go
      | apply Ext.down
      | apply Ext.fail
      | dsimp only))
        . split at h
          . rename_i hw
            refine .inr (word _ (by decide) hw ?_);split at h
            . simp only[Option.some.injEq] at h
              subst h
              (repeat (first
      | exact Ext.refl _
      | apply Ext.put
      | apply Ext.up
      | apply Ext.must
      | (refine Ext.trans ?_ (aI _ _ _ _ (by assumption)))
      | apply Ext.named
      | apply Ext.typed
      | apply Ext.go
      | apply Ext.down
      | apply Ext.fail
      | dsimp only))
            . simp only[mS] at h
              obtain⟨q1,h1,h⟩:=h;subst h
              (repeat (first
      | exact Ext.refl _
      | apply Ext.put
      | apply Ext.up
      | apply Ext.must
      | (refine Ext.trans ?_ (aI _ _ _ _ (by assumption)))
      | apply Ext.named
      | apply Ext.typed
      | apply Ext.go
      | apply Ext.down
      | apply Ext.fail
      | dsimp only))
          . by_cases hc:eP ts s=true
            . cases n with
              | zero=>simp[run] at h
              | succ n=>
                simp only[run] at h;rw[if_pos hc] at h;simp only[mS] at h;obtain⟨q1,h1,h⟩:=h;subst h;exact tV (((aMo h1).must _).put _ _ _ _ _) h0
            . exact tV (aHi h (by simpa using hc)) h0
theorem aAk:∀(n:Nat) (k:Task) (s:PS),gU k->rem ts s+cost k≤n->∃r,run src ts n k s=some r:=by
 intro n;induction n with
 | zero=>intro k s hk h;cases k<;>simp[cost] at h<;>(simp[gU] at hk)<;>omega
 | succ n ih=>
  intro k s hk h;cases k with
  | atom=>
   simp only[cost] at h;simp only[run];split
   . exact⟨_,rfl⟩
   . rename_i h0
     have h0:s.e=0:=by simpa using h0
     split
     . exact⟨_,rfl⟩
     . split
       . exact⟨_,rfl⟩
       . split
         . rename_i hk3
           split
           . rename_i hx
             have hr:=uQ hx;have hg:=sW (ts:=ts) h0 (vX (by rw[hk3];decide)) (Ext.refl (pGo s));obtain⟨q,hq⟩:=ih (.chain 0) (aA ts [91] (aU ts (pGo s))) (by simp[gU]) (by simp only[cost];omega);rw[hq];exact⟨_,rfl⟩
           . exact⟨_,rfl⟩
         . split
           . exact⟨_,rfl⟩
           . split
             . exact⟨_,rfl⟩
             . split
               . rename_i hl
                 split
                 . rename_i hx
                   have hr:=uQ hx;have hg:=sV hl (Ext.refl (pGo s));obtain⟨q,hq⟩:=ih (.chain 0) (aA ts [40] (aU ts (pGo s))) (by simp[gU]) (by simp only[cost];omega);rw[hq];exact⟨_,rfl⟩
                 . exact⟨_,rfl⟩
               . split
                 . rename_i hx
                   have hr:=uQ hx;obtain⟨q,hq⟩:=ih (.chain 0) (aA ts [40] (aU ts s)) (by simp[gU]) (by simp only[cost];omega);rw[hq];exact⟨_,rfl⟩
                 . exact⟨_,rfl⟩
  | factor=>
   simp only[cost] at h;simp only[run];split
   . rename_i hx
     have hg:=sV hx (rE (ts:=ts) s);obtain⟨q,hq⟩:=ih .factor (pGo (aU ts s)) trivial (by simp only[cost];omega);rw[hq];exact⟨_,rfl⟩
   . split
     . rename_i hx
       have hg:=sV hx (rE (ts:=ts) s);obtain⟨q,hq⟩:=ih .factor (pGo (aU ts s)) trivial (by simp only[cost];omega);rw[hq];exact⟨_,rfl⟩
     . exact ih .atom s trivial (by simp only[cost];omega)
  | chain lv=>
   simp only[gU] at hk;simp only[cost] at h;simp only[run];split
   . exact ih .factor s trivial (by simp only[cost];omega)
   . obtain⟨q,hq⟩:=ih (.chain (lv+1)) s (by simp only[gU];omega) (by simp only[cost];omega)
     rw[hq];have he:=eX (ts:=ts) (aI _ _ _ _ hq);exact ih (.more lv _ _) q.2 (by simp only[gU];omega) (by simp only[cost];omega)
  | more lv line x=>
   simp only[gU] at hk;simp only[cost] at h;simp only[run];split
   . exact⟨_,rfl⟩
   . rename_i hx
     obtain⟨h0,hi⟩:=tQ hx;have hg:=sW (ts:=ts) h0 hi (Ext.refl (pGo s));obtain⟨q,hq⟩:=ih (.chain (lv+1)) (pGo s) (by simp only[gU];omega) (by simp only[cost];omega);rw[hq];have he:=eX (ts:=ts) (aI _ _ _ _ hq);simp only[Option.bind_some];split
     . exact⟨_,rfl⟩
     . have hp:=eX (ts:=ts) ((Ext.refl q.2).put 9 line 0 (fC ts lv s) [x,q.1.headD 0])
       exact ih (.more lv line _) _ (by simp only[gU];omega) (by simp only[cost];omega)
  | args l=>
   simp only[cost] at h;simp only[run];obtain⟨q,hq⟩:=ih (.chain 0) s (by simp[gU]) (by simp only[cost];omega);rw[hq];have he:=eX (ts:=ts) (aI _ _ _ _ hq);simp only[Option.bind_some];split
   . rename_i hx
     have hg:=sV hx (Ext.refl (pGo q.2));exact ih (.args _) _ trivial (by simp only[cost];omega)
   . exact⟨_,rfl⟩
  | call=>
   simp only[cost] at h;simp only[run];have he:=eX (ts:=ts) (((Ext.refl s).named (ts:=ts)).must (ts:=ts) [40]);split
   . obtain⟨q,hq⟩:=ih (.args []) (aA ts [40] (aF ts s)) trivial (by simp only[cost];omega)
     rw[hq];exact⟨_,rfl⟩
   . exact⟨_,rfl⟩
  | right=>
   simp only[cost] at h;simp only[run];split
   . exact⟨_,rfl⟩
   . split
     . have he:=eX (ts:=ts) (((Ext.refl s).go).must (ts:=ts) [40])
       obtain⟨q,hq⟩:=ih (.chain 0) (aA ts [40] (pGo s)) (by simp[gU]) (by simp only[cost];omega);rw[hq];exact⟨_,rfl⟩
     . split
       . exact ih .call s trivial (by simp only[cost];omega)
       . exact ih (.chain 0) s (by simp[gU]) (by simp only[cost];omega)
  | block=>
   simp only[cost] at h;simp only[run];split
   . have he:=eX (ts:=ts) (((Ext.refl s).down (ts:=ts)).must (ts:=ts) [123])
     obtain⟨q,hq⟩:=ih (.stmts []) (aA ts [123] (aU ts s)) trivial (by simp only[cost];omega);rw[hq];exact⟨_,rfl⟩
   . exact⟨_,rfl⟩
  | stmts l=>
   simp only[cost] at h;simp only[run];split
   . exact⟨_,rfl⟩
   . rename_i h0
     have h0:s.e=0:=by simpa using h0
     split
     . exact⟨_,rfl⟩
     . obtain⟨q,hq⟩:=ih .stmt s trivial (by simp only[cost];omega)
       rw[hq];simp only[Option.bind_some];by_cases hq0:q.2.e=0
       . have hg:=(aFe hq h0).resolve_left (λx=>x hq0)
         exact ih (.stmts _) _ trivial (by simp only[cost];omega)
       . cases n with
         | zero=>omega
         | succ n=>exact⟨(l++q.1,q.2),by simp only[run];rw[if_pos hq0]⟩
  | named line=>
   simp only[cost] at h;simp only[run];split
   . obtain⟨q,hq⟩:=ih .call s trivial (by simp only[cost];omega)
     rw[hq];exact⟨_,rfl⟩
   . split
     . have he:=eX (ts:=ts) ((((Ext.refl s).named (ts:=ts)).down (ts:=ts)).must (ts:=ts) [91])
       obtain⟨q,hq⟩:=ih (.chain 0) (aA ts [91] (aU ts (aF ts s))) (by simp[gU]) (by simp only[cost];omega);rw[hq];have he2:=eX (ts:=ts) (((aI _ _ _ _ hq).must (ts:=ts) [93]).up.must (ts:=ts) [61]);obtain⟨q2,hq2⟩:=ih (.chain 0) (aA ts [61] (pUp (aA ts [93] q.2))) (by simp[gU]) (by simp only[cost];omega);simp only[Option.bind_some];rw[hq2];exact⟨_,rfl⟩
     . have he:=eX (ts:=ts) (((Ext.refl s).named (ts:=ts)).must (ts:=ts) [61])
       obtain⟨q,hq⟩:=ih .right (aA ts [61] (aF ts s)) trivial (by simp only[cost];omega);rw[hq];exact⟨_,rfl⟩
  | stmt=>
   simp only[cost] at h;simp only[run];have goes:∀x,x≠[]->bQ ts s=x->rem ts (pGo s)+16≤rem ts s:=λx hx hw=>by
     obtain⟨h0,hk4⟩:=nY hx hw;exact sW h0 (vX (by rw[hk4];decide)) (Ext.refl _)
   split
   . rename_i hw
     have hg:=goes _ (by decide) hw;have he:=eX (ts:=ts) (((Ext.refl (pGo s)).named (ts:=ts)).must (ts:=ts) [61]);obtain⟨q,hq⟩:=ih .right (aA ts [61] (aF ts (pGo s))) trivial (by simp only[cost];omega);rw[hq];exact⟨_,rfl⟩
   . split
     . rename_i hw
       have hg:=goes _ (by decide) hw;obtain⟨q,hq⟩:=ih (.chain 0) (pGo s) (by simp[gU]) (by simp only[cost];omega);rw[hq];exact⟨_,rfl⟩
     . split
       . rename_i hw
         have hg:=goes _ (by decide) hw;obtain⟨q,hq⟩:=ih (.chain 0) (pGo s) (by simp[gU]) (by simp only[cost];omega);rw[hq];have he:=eX (ts:=ts) (aI _ _ _ _ hq);obtain⟨b,hb⟩:=ih .block q.2 trivial (by simp only[cost];omega);simp only[Option.bind_some];rw[hb];exact⟨_,rfl⟩
       . split
         . rename_i hw
           have hg:=goes _ (by decide) hw;obtain⟨q,hq⟩:=ih (.chain 0) (pGo s) (by simp[gU]) (by simp only[cost];omega);rw[hq];have he:=eX (ts:=ts) (aI _ _ _ _ hq);obtain⟨b,hb⟩:=ih .block q.2 trivial (by simp only[cost];omega);simp only[Option.bind_some];rw[hb];have he2:=eX (ts:=ts) (aI _ _ _ _ hb);simp only[Option.bind_some];split
           . have he3:=eX (ts:=ts) ((Ext.refl b.2).go)
             obtain⟨c,hc⟩:=ih .block (pGo b.2) trivial (by simp only[cost];omega);rw[hc];exact⟨_,rfl⟩
           . exact⟨_,rfl⟩
         . split
           . rename_i hw
             have hg:=goes _ (by decide) hw;split
             . exact⟨_,rfl⟩
             . obtain⟨q,hq⟩:=ih (.chain 0) (pGo s) (by simp[gU]) (by simp only[cost];omega)
               rw[hq];exact⟨_,rfl⟩
           . exact ih (.named _) s trivial (by simp only[cost];omega)
end
theorem aNm:vT prog 23 50 5 64 (.agg #[U0,U0,U0,.string ⟨#[]⟩,Un]):=vT.mk' (by kernel_rfl) (by kernel_rfl) rfl (by decide)
def aJk (w:World) (k:Nat):Prop:=∃cs f,w.heap[k]?=some (.cells cs 50 f)
def FrR (g:Nat) (w w':World):Prop:=Fr (λk=>k=g∨(g<k∧aJk w k)) w w'
theorem FrR.trans {w1 w2:World} (h:FrR g w w1) (h2:FrR g w1 w2):FrR g w w2:=by
 refine Fr.trans h h2 (λ_ _ x=>x) (λk hk hM=>?_);rcases hM with rfl|⟨hgk,cs,f,hc⟩
 . exact .inl rfl
 . by_cases hn:k=g∨(g<k∧aJk w k)
   . exact hn
   . have:=h.block k hk hn
     exact .inr ⟨hgk,cs,f,by rw[<-this];exact hc⟩
theorem FrR.no {w1:World} (h:Fr nob w w1):FrR g w w1:=Fr.aEv h
theorem FrR.blk {b t:Nat}{w':World} (h:FrR g w w') (hb:Blk w b t cs) (h1:b≠g) (h2:t≠50):Blk w' b t cs:=by
 refine hb.fr h ?_;rintro (e|⟨_,cs',f,hc⟩)
 . exact h1 e
 . unfold Blk at hb
   rw[hb] at hc;injection hc with hc;injection hc with _ ht;exact h2 ht
def kW (n:aH) (lv:Value):List Value:=[n.kind,n.line,n.n,bs n.name,lv]
def dI:List aH->List Value->List Value
 | n :: ns,v :: vs=>kW n v++dI ns vs
 | _,_=>[]
theorem iB:∀(ns:List aH) (vs:List Value) (n:aH) (v:Value),ns.length=vs.length->dI (ns++[n]) (vs++[v])=dI ns vs++kW n v
 | [],[],n,v,_=>by simp[dI]
 | [],_ :: _,_,_,h=>by simp at h
 | _ :: _,[],_,_,h=>by simp at h
 | a :: ns,b :: vs,n,v,h=>by
  rw[List.cons_append,List.cons_append,dI,iB ns vs n v (by simpa using h),dI,List.append_assoc]
def ints (l:List Nat):List Value:=l.map λ(x:Nat)=>Value.int .i64 (x:Int)
def bJ (w:World):List aH->List Value->Prop
 | [],[]=>True
 | n :: ns,v :: vs=>Own w 3 1 v n.l.length (ints n.l)∧bJ w ns vs
 | _,_=>False
structure aO (ts:List Tok):Prop where
 pos:0<ts.length
 few:ts.length≤1000
 at_:∀t∈ts,t.kind≤5∧t.place≤1000
 last:(ts.getD (ts.length - 1) mK).kind=0
 nums:∀t∈ts,t.kind=1->t.text≠[]∧dP t.text∧aS 0 t.text≤9223372036854775807
 short:∀t∈ts,t.text.length≤1000
structure bT (ts:List Tok) (s:PS):Prop where
 room:s.i<ts.length
 deep:s.deep≤17
 fine:s.e=0->s.deep≤16
 err:s.e≤21
 place:s.place≤1000
structure Rdr (src:ByteArray) (tb tc:Nat) (ts:List Tok) (g:Nat) (lvs:List Value) (w:World) (s:PS):Prop where
 cells:∃nv,Blk w g 88 #[src,(tb,ts.length,tc),s.i,nv,s.deep,s.e,s.place]∧Own w 50 5 nv s.nodes.length (dI s.nodes lvs)
 below:bJ w s.nodes lvs
 same:s.nodes.length=lvs.length
 toks:∃b0,xM b0 w (tb,ts.length,tc) ts
 newer:∀nv,w.cell? (g,3)=some nv->∀k,blk nv=some k->g<k
section
variable {src:ByteArray}{tb tc:Nat}{ts:List Tok}{g:Nat}{lvs:List Value}{w w':World}{s:PS}
theorem bJ.no:∀{ns:List aH}{vs:List Value},bJ w ns vs->Fr nob w w'->bJ w' ns vs
 | [],[],_,_=>trivial
 | [],_ :: _,h,_=>h.elim
 | _ :: _,[],h,_=>h.elim
 | _ :: _,_ :: _,h,f=>⟨h.1.fr f (λ_ _ x=>x),bJ.no h.2 f⟩
theorem Rdr.no (h:Rdr src tb tc ts g lvs w s) (f:Fr nob w w'):Rdr src tb tc ts g lvs w' s:=by
 obtain⟨nv,hb,ho⟩:=h.cells;obtain⟨b0,ht⟩:=h.toks;exact⟨⟨nv,hb.fr f (λx=>x),ho.fr f (λ_ _ x=>x)⟩,h.below.no f,h.same,⟨b0,ht.no f⟩,λnv h1=>h.newer nv (by rw[<-f.cell (p:=(g,U3)) hb.lt (λx=>x)];exact h1)⟩
theorem Rdr.tok (h:Rdr src tb tc ts g lvs w s) (hk:bT ts s):ts[s.i]?=some (bF ts s)∧tb<w.heap.size ∧
  w.cell? (tb,s.i*3)=(bF ts s).kind∧w.cell? (tb,s.i*3+1)=(bs (bF ts s).text)∧w.cell? (tb,s.i*3+2)=(bF ts s).place:=by
 obtain⟨b0,ht⟩:=h.toks;have hi:ts[s.i]?=some (bF ts s):=by
  unfold bF;rw[List.getD,gE hk.room];rfl
 obtain⟨g2,hg,_,hlt,hat⟩:=ht.some (by have:=hk.room;omega);injection hg with hg;injection hg with hg;subst hg;exact⟨hi,hlt,hat s.i _ hi⟩
end
theorem pV (h:Rdr src tb tc ts g lvs w s) (hk:bT ts s) (k:Nat):
   Calls prog 56 #[(g,()),k] w λe w'=>e = .returned (bB ts k s)∧Fr nob w w':=by
 obtain⟨nv,hb,ho⟩:=h.cells;obtain⟨hi,htb,x0,x1,x2⟩:=h.tok hk;have c1:=hb.cell 1;have c2:=hb.cell 2;have c5:=hb.cell 5;have hr:(s.i:Int)<(ts.length:Int):=by have:=hk.room;omega
 unfold bB;clear x1 x2 hi ho hb h hk;simp at c1 c2 c5
 generalize (bF ts s).kind=tk at *;by_cases he:s.e=0
 case' neg=>
  have heb:((s.e:Int)==0)=false:=bN.2 (by omega)
  rw[decide_eq_false he,Bool.false_and];clear he
 case' pos=>
  have heb:((s.e:Int)==0)=true:=by rw[he];rfl
  rw[decide_eq_true he,Bool.true_and];clear he;by_cases h2:tk=k
  case' pos=>
   have h2b:((tk:Int)==(k:Int))=true:=by rw[h2];simp
   rw[decide_eq_true h2]
  case' neg=>
   have h2b:((tk:Int)==(k:Int))=false:=bN.2 (by omega)
   rw[decide_eq_false h2]
  all_goals
   clear h2
 all_goals
  go_enter func56,ntmps56;go_wp2
  go_quiet (fail)
  go_wp2
  go_ret;exact⟨rfl,(fR w).drewN _⟩
theorem aHq (h:Rdr src tb tc ts g lvs w s) (hk:bT ts s) (X:ByteArray):
   Calls prog 91 #[(g,()),X] w λe w'=>e = .returned (pIs ts X.data.toList s)∧Fr nob w w':=by
 obtain⟨nv,hb,ho⟩:=h.cells;obtain⟨hi,htb,x0,x1,x2⟩:=h.tok hk;have hg:=hb.lt;have c1:=hb.cell 1;have c2:=hb.cell 2;have c5:=hb.cell 5;have hr:(s.i:Int)<(ts.length:Int):=by have:=hk.room;omega
 have hx:(bs (bF ts s).text).toList=(bF ts s).text:=by rw[ByteArray.toList_eq];rfl
 have hX:X.toList=X.data.toList:=ByteArray.toList_eq X;unfold pIs;clear hi ho hb h hk;simp at c1 c2 c5
 generalize (bF ts s).kind=tk at *;generalize (bF ts s).place=tp at *;generalize (bF ts s).text=tt at *;generalize hbt:bs tt=bt at *;have n1:=World.new_ne w (g,U1) c1;have n2:=World.new_ne w (tb,s.i*3) x0;obtain⟨R,hR⟩:∃R,(decide (s.e=0) && (decide (tk=5) || decide (tk=4)) && decide (tt=X.data.toList))=R:=⟨_,rfl⟩;rw[hR];have HR:=hD hR;have HX:=hD hx;have HX2:=hD hX;clear hR;clear hx hX hbt;go_enter func91,ntmps91;go_wp2
 go_region_held3 (λwx=>wx.cell? (g,1)=(tb,ts.length,tc)∧wx.cell? (g,2)=s.i∧wx.cell? (g,5)=s.e∧wx.cell? (tb,s.i*3)=tk∧wx.cell? (tb,s.i*3+1)=bt∧wx.cell? (tb,s.i*3+2)=tp) (go_keep) (first|fail)
 have FR:Hd (Fr nob w (w.alloc (.cells #[tk,bt,tp] 115)).drew):=((fR w).alloc _).drew;clear c1 c2 x0 x1 x2 n1 n2;by_cases he:s.e=0
 . have heb:((s.e:Int)==0)=true:=by rw[he];rfl
   by_cases hT:tt=X.data.toList
   case' pos=>have htb:(bt.toList==X.toList)=true:=by rw[HX.o,HX2.o,hT];simp
   case' neg=>have htb:(bt.toList==X.toList)=false:=by rw[HX.o,HX2.o];exact bN.2 hT
   all_goals
    by_cases h5:tk=5
    . have h5b:((tk:Int)==5)=true:=by rw[h5];rfl
      obtain⟨b,hb⟩:∃b,decide (tt=X.data.toList)=b:=⟨_,rfl⟩;have hRb:R=b:=by rw[<-HR.o,decide_eq_true he,decide_eq_true h5,hb];rfl
      first|(rw[decide_eq_true hT] at hb)|(rw[decide_eq_false hT] at hb)
      subst hb;subst hRb;clear h5 hT he;go_wp2
      go_ret;exact⟨rfl,FR⟩
    . have h5b:((tk:Int)==5)=false:=bN.2 (by omega)
      by_cases h4:tk=4
      . have h4b:((tk:Int)==4)=true:=by rw[h4];rfl
        obtain⟨b,hb⟩:∃b,decide (tt=X.data.toList)=b:=⟨_,rfl⟩;have hRb:R=b:=by rw[<-HR.o,decide_eq_true he,decide_eq_false h5,decide_eq_true h4,hb];rfl
        first|(rw[decide_eq_true hT] at hb)|(rw[decide_eq_false hT] at hb)
        subst hb;subst hRb;clear h5 h4 hT he;go_wp2
        go_ret;exact⟨rfl,FR⟩
      . have h4b:((tk:Int)==4)=false:=bN.2 (by omega)
        have hRb:R=false:=by rw[<-HR.o,decide_eq_true he,decide_eq_false h5,decide_eq_false h4];rfl
        subst hRb;clear h5 h4 hT he;go_wp2
        go_ret;exact⟨rfl,FR⟩
 . have heb:((s.e:Int)==0)=false:=bN.2 (by omega)
   have hRb:R=false:=by rw[<-HR.o,decide_eq_false he];rfl
   subst hRb;clear he;go_wp2
   go_ret;exact⟨rfl,FR⟩
section
variable {src:ByteArray}{tb tc:Nat}{ts:List Tok}{g:Nat}{lvs:List Value}{w w':World}{s:PS}
theorem bJ.one {t:TypeId} (hb:Blk w g t cs) (ht:3≠t):∀{ns:List aH}{vs:List Value},bJ w ns vs->Fr (dG g) w w'->bJ w' ns vs
 | [],[],_,_=>trivial
 | [],_ :: _,h,_=>h.elim
 | _ :: _,[],h,_=>h.elim
 | _ :: _,_ :: _,h,f=>⟨h.1.fr f (λb hb' hm=>h.1.aG hb ht (by rw[hb',show b=g from hm])),bJ.one hb ht h.2 f⟩
theorem Rdr.set {nv:Value} (h:Rdr src tb tc ts g lvs w s) (hb:Blk w g 88 cs) (j:Nat) (u:Value){s':PS} (hn:s'.nodes=s.nodes)
   (hc:∀nv,cs = #[.string src,.slice (some ⟨tb,0,none⟩) ts.length tc,.int .i64 s.i,nv,.int .i64 s.deep,.int .i64 s.e,.int .i64 s.place]->cs.setIfInBounds j u = #[.string src,.slice (some ⟨tb,0,none⟩) ts.length tc,.int .i64 s'.i,nv,.int .i64 s'.deep,.int .i64 s'.e,.int .i64 s'.place]):
   Rdr src tb tc ts g lvs (w.setCell (g,j) u) s':=by
 obtain⟨nv,hb2,ho⟩:=h.cells;obtain⟨b0,ht⟩:=h.toks;have e0:=hb.symm.trans hb2;injection e0 with e0;injection e0 with e _ _;have f:Fr (dG g) w (w.setCell (g,j) u):=(Fr.refl _ w).setCell _ _ (λ_=>rfl);refine⟨⟨nv,?_,?_⟩,?_,by rw[hn];exact h.same,⟨b0,ht.own.fr f (λb hb' hm=>ht.own.aG hb (by decide) (by rw[hb',show b=g from hm])),ht.new⟩,λnv2 h1=>?_⟩
 . have:=hb.setCell j u
   rwa [hc nv e] at this
 . rw[hn]
   exact ho.fr f (λb hb' hm=>ho.aG hb (by decide) (by rw[hb',show b=g from hm]))
 . rw[hn]
   exact h.below.one hb (by decide) f
 . have hbs:=hb.setCell j u
   rw[hc nv e] at hbs;have h3:=hbs.cell 3;rw[h3] at h1;injection h1 with h1;subst h1;exact h.newer _ (hb2.cell 3)
theorem Rdr.blk (h:Rdr src tb tc ts g lvs w s):∃nv,Blk w g 88 #[src,(tb,ts.length,tc),s.i,nv,s.deep,s.e,s.place]:=by
 obtain⟨nv,hb,_⟩:=h.cells;exact⟨nv,hb⟩
theorem Rdr.aPk (h:Rdr src tb tc ts g lvs w s) (x:Nat):Rdr src tb tc ts g lvs (w.setCell (g,U2) x) { s with i:=x }:=by
 obtain⟨nv,hb⟩:=h.blk;exact h.set (nv:=nv) hb 2 _ rfl (λnv2 e=>by rw[e];rfl)
theorem Rdr.aMy (h:Rdr src tb tc ts g lvs w s) (x:Nat):Rdr src tb tc ts g lvs (w.setCell (g,U4) x) { s with deep:=x }:=by
 obtain⟨nv,hb⟩:=h.blk;exact h.set (nv:=nv) hb 4 _ rfl (λnv2 e=>by rw[e];rfl)
theorem Rdr.aRq (h:Rdr src tb tc ts g lvs w s) (x:Nat):Rdr src tb tc ts g lvs (w.setCell (g,U5) x) { s with e:=x }:=by
 obtain⟨nv,hb⟩:=h.blk;exact h.set (nv:=nv) hb 5 _ rfl (λnv2 e=>by rw[e];rfl)
theorem Rdr.aRp (h:Rdr src tb tc ts g lvs w s) (x:Nat):Rdr src tb tc ts g lvs (w.setCell (g,U6) x) { s with place:=x }:=by
 obtain⟨nv,hb⟩:=h.blk;exact h.set (nv:=nv) hb 6 _ rfl (λnv2 e=>by rw[e];rfl)
end
theorem lD (h:Rdr src tb tc ts g lvs w s) (hk:bT ts s) (k:Nat):
   Calls prog 134 #[(g,()),k] w λe w'=>e = .returned (.tuple #[])∧Rdr src tb tc ts g lvs w' (aQ ts k s)∧FrR g w w':=by
 obtain⟨nv,hb⟩:=h.blk;obtain⟨hi,htb,x0,x1,x2⟩:=h.tok hk;have H:=hD h;have hg:=hb.lt;have c1:=hb.cell 1;have c2:=hb.cell 2;have c5:=hb.cell 5;have c6:=hb.cell 6;have f5:=hb.frozen 5;have f6:=hb.frozen 6;have hr:(s.i:Int)<(ts.length:Int):=by have:=hk.room;omega
 have htg:tb≠g:=by
   obtain⟨b0,ht⟩:=h.toks;intro e;exact ht.own.aG hb (by decide) (by simp[Go.Proofs.YtlbjicjinnnboaaGreatDoor.blk,e];have:=ht.own.cap;obtain⟨A,c,e1,h1,_⟩:=this;injection e1 with _ _ e3;have:=hk.room;omega)
 simp at c1 c2 c5 c6
 by_cases he:s.e=0
 . have heb:((s.e:Int)==0)=true:=by rw[he];rfl
   have e1:aQ ts k s={ s with e:=k,place:=(bF ts s).place }:=by unfold aQ;rw[if_pos he]
   rw[e1];clear e1 he hi hb h hk x0 x1;generalize (bF ts s).place=tp at *;go_enter func134,ntmps134;have n1:((g,U5):Addr)≠(g,U1):=by simp
   have n2:((g,U5):Addr)≠(g,U2):=by simp
   have n3:((g,U5):Addr)≠(g,U6):=by simp
   have n4:((g,U5):Addr)≠(tb,s.i*3+2):=by intro e;injection e with e;exact htg e.symm
   have d1:=(World.cell?_setCell_other w (g,U5) (g,U1) k n1).trans c1;have d2:=(World.cell?_setCell_other w (g,U5) (g,U2) k n2).trans c2;have d6:=(World.cell?_setCell_other w (g,U5) (g,U6) k n3).trans c6;have dx:=(World.cell?_setCell_other w (g,U5) (tb,s.i*3+2) k n4).trans x2;have HB:=H.o.aRq k;have G1:Fr (dG g) w (w.setCell (g,U5) k):=(Fr.refl _ w).setCell _ _ (λ_=>rfl);have FG:=hD G1;have fz:(w.setCell (g,U5) k).frozen? (g,U6)=false:=by
    obtain⟨nv2,hb2⟩:=HB.blk;exact hb2.frozen 6
   have HB2:=hD HB;clear n1 n2 n3 n4 G1 HB;go_wp2
   clear c1 c2 c5 c6 x2 f5 f6;generalize w.setCell (g,U5) k=w1 at *;have m1:((g,U6):Addr)≠(g,U1):=by simp
   have m2:((g,U6):Addr)≠(g,U2):=by simp
   have m4:((g,U6):Addr)≠(tb,s.i*3+2):=by intro e;injection e with e;exact htg e.symm
   have D1:=hD d1;have D2:=hD d2;have DX:=hD dx;have e1:=hD ((World.cell?_setCell_other w1.drew (g,U6) (g,U1) tp m1).trans d1);have e2:=hD ((World.cell?_setCell_other w1.drew (g,U6) (g,U2) tp m2).trans d2);have ex:=hD ((World.cell?_setCell_other w1.drew (g,U6) (tb,s.i*3+2) tp m4).trans dx);clear m1 m2 m4;go_region_held3 (λwx=>wx.cell? (g,1)=(tb,ts.length,tc)∧wx.cell? (g,2)=s.i∧wx.cell? (tb,s.i*3+2)=tp) (first|exact⟨D1,D2,DX⟩|exact⟨e1.o,e2.o,ex.o⟩) (first|fail)
   refine gF rfl rfl ⟨rfl,(HB2.o.aRp tp).no ((fR _).drew),?_⟩;exact ((FG.o.setCell (g,U6) _ (λ_=>rfl)).drew).mono (λk _ e=> .inl e)
 . have heb:((s.e:Int)==0)=false:=bN.2 (by omega)
   have e1:aQ ts k s=s:=by unfold aQ;rw[if_neg he]
   rw[e1];clear e1 he hi hb h hk x0 x1 x2;go_enter func134,ntmps134;go_wp2
   refine gF rfl rfl ⟨rfl,H,Fr.refl _ _⟩
section
variable {ts:List Tok}{s:PS}
theorem bT.fail (h:bT ts s) (ht:aO ts) (k:Nat) (hk:k≤21) (hk0:1≤k):bT ts (aQ ts k s):=by
 unfold aQ;split
 . refine⟨h.room,h.deep,λe=>?_,hk,?_⟩
   . exact absurd e (by show k≠0;omega)
   . have hm:bF ts s∈ts:=by
      unfold bF;rw[List.getD,gE h.room];exact List.getElem_mem _
     exact (ht.at_ _ hm).2
 . exact h
theorem bT.go (h:bT ts s) (ht:aO ts) (hk:(bF ts s).kind≠0):bT ts (pGo s):=by
 refine⟨?_,h.deep,h.fine,h.err,h.place⟩;have hr:=h.room;by_cases e:s.i=ts.length - 1
 . refine absurd ?_ hk
   unfold bF;rw[e];exact ht.last
 . show s.i+1<ts.length
   omega
theorem bT.must (h:bT ts s) (ht:aO ts) (x:List UInt8):bT ts (aA ts x s):=by
 unfold aA;split
 . rename_i hx;exact h.go ht (aL hx).2.1
 . exact h.fail ht 20 (by decide) (by decide)
theorem bT.named (h:bT ts s) (ht:aO ts):bT ts (aF ts s):=by
 unfold aF;split
 . rename_i hx;exact h.go ht (by rw[(aM hx).2];decide)
 . exact h.fail ht 20 (by decide) (by decide)
theorem bT.typed (h:bT ts s) (ht:aO ts):bT ts (bC ts s):=by
 unfold bC;split
 . exact h.fail ht 20 (by decide) (by decide)
 . rename_i hx
   refine h.go ht ?_;unfold eF bQ at hx;split at hx
   . rename_i hk;rw[(aM hk).2];decide
   . exact absurd rfl hx
theorem bT.down (h:bT ts s) (ht:aO ts) (h0:s.e=0):bT ts (aU ts s):=by
 have hd:=h.fine h0;unfold aU;by_cases h16:16≤s.deep
 . have hf:=h.fail ht 21 (by decide) (by decide)
   simp only;rw[if_pos h16];have he:(aQ ts 21 s).e=21:=by unfold aQ;rw[if_pos h0]
   have hdd:(aQ ts 21 s).deep=s.deep:=by unfold aQ;rw[if_pos h0]
   exact⟨hf.room,by show (aQ ts 21 s).deep+1≤17;omega,λe=>absurd e (by show (aQ ts 21 s).e≠0;omega),hf.err,hf.place⟩
 . simp only
   rw[if_neg h16];exact⟨h.room,by show s.deep+1≤17;omega,λ_=>by show s.deep+1≤16;omega,h.err,h.place⟩
theorem bT.up (h:bT ts s):bT ts (pUp s):=⟨h.room,by show s.deep - 1≤17;have:=h.deep;omega,λe=>by show s.deep - 1≤16;have:=h.fine e;omega,h.err,h.place⟩
theorem bT.put (h:bT ts s) (k line n:Nat) (name:List UInt8) (l:List Nat):bT ts (bY k line n name l s).2:=⟨h.room,h.deep,h.fine,h.err,h.place⟩
end
theorem aO.i_le (ht:aO ts) (h:bT ts s):(s.i:Int)≤1000:=by have:=ht.few;have:=h.room;omega
theorem aLe (h:Rdr src tb tc ts g lvs w s) (hk:bT ts s) (ht:aO ts) (X:ByteArray):
  Calls prog 89 #[(g,()),X] w λe w'=>e = .returned (.tuple #[])∧Rdr src tb tc ts g lvs w' (aA ts X.data.toList s)∧FrR g w w':=by
 have H:=hD h;have HK:=hD hk;have hi:=ht.i_le hk;have HI:=hD (aHq h hk X);clear h hk ht;unfold aA;generalize pIs ts X.data.toList s=b at *;cases b with
 | true=>
  go_enter func89,ntmps89;go_wp2_with (go_at_call 91;go_must (refine HI.o.mono ?_;rintro e w1 ⟨rfl,hf⟩;have F1:=hD hf;have H1:=hD (H.o.no hf);(obtain⟨nv,hb⟩:=H1.o.blk);have c2:=hb.cell 2;have f2:=hb.frozen 2;simp at c2;clear hf hb))
  refine gF rfl rfl ⟨rfl,?_,?_⟩
  . exact H1.o.aPk (s.i+1)
  . exact FrR.trans (FrR.no F1) (((Fr.refl (dG g) w1).setCell (g,U2) _ (λ_=>rfl)).mono (λk _ e=> .inl e))
 | false=>
  go_enter func89,ntmps89;go_wp2_with (first|(go_at_call 91;go_must (refine HI.o.mono ?_;rintro e w1 ⟨rfl,hf⟩;have F1:=hD hf;have H1:=hD (H.o.no hf);clear hf))|(go_at_call 134;go_must (refine dY (lD H1 HK 20) λw2 H2 F2=>?_)))
  refine aPa rfl rfl ⟨rfl,H2,FrR.trans (FrR.no F1) F2⟩
theorem Rdr.aNt (h:Rdr src tb tc ts g lvs w s){i:Nat}{t:Tok} (hi:ts[i]?=some t):
  w.cell? (tb,i*3)=t.kind∧w.cell? (tb,i*3+1)=(bs t.text)∧w.cell? (tb,i*3+2)=t.place:=by
 obtain⟨b0,ht⟩:=h.toks;obtain⟨g2,hg,_,hlt,hat⟩:=ht.some (by have:=(gK hi);omega);injection hg with hg;injection hg with hg;subst hg;exact hat i _ hi
theorem vB (h:Rdr src tb tc ts g lvs w s) (hk:bT ts s) (ht:aO ts):
  Calls prog 90 #[(g,())] w λe w'=>e = .returned (bs (dH ts s))∧Rdr src tb tc ts g lvs w' (aF ts s)∧FrR g w w':=by
 have H:=hD h;have HK:=hD hk;have hi:=ht.i_le hk;obtain⟨hti,_⟩:=h.tok hk;have HTI:=hD hti;have hr:(s.i:Int)<(ts.length:Int):=by have:=hk.room;omega
 have HI:=hD (pV h hk 3);clear h hk ht hti;unfold aF dH;generalize bB ts 3 s=b at *;cases b with
 | true=>
  go_enter func90,ntmps90;go_upto_region 6 with (go_at_call 56;go_must (refine HI.o.mono ?_;rintro e w1 ⟨rfl,hf⟩;have F1:=hD hf;have H1:=hD (H.o.no hf);(obtain⟨nv,hb⟩:=H1.o.blk);have c2:=hb.cell 2;have f2:=hb.frozen 2;simp at c2;clear hf hb));have H2:=hD (H1.o.aPk (s.i+1));have F2:Hd (FrR g w1 (w1.setCell (g,U2) ((s.i+1:Nat):Int))):=((Fr.refl (dG g) w1).setCell (g,U2) _ (λ_=>rfl)).mono (λk _ e=> .inl e);rw[show ((s.i+1:Nat):Int)=(s.i:Int)+1 by omega] at H2 F2;clear c2 f2;generalize w1.setCell (g,U2) ((s.i:Int)+1:Int)=w2 at *;obtain⟨nv2,hb2⟩:=H2.o.blk;have c1:=hb2.cell 1;have c2:=hb2.cell 2;obtain⟨_,x1,_⟩:=H2.o.aNt HTI.o;simp at c1 c2
  clear hb2;go_quiet (fail)
  go_wp2
  go_ret;exact⟨rfl,H2.o.no ((fR _).drewN _),(FrR.trans (FrR.no F1) F2).trans (FrR.no ((fR _).drewN _))⟩
 | false=>
  go_enter func90,ntmps90;go_wp2_with (first|(go_at_call 56;go_must (refine HI.o.mono ?_;rintro e w1 ⟨rfl,hf⟩;have F1:=hD hf;have H1:=hD (H.o.no hf);clear hf))|(go_at_call 134;go_must (refine dY (lD H1 HK 20) λw2 H2 F2=>?_)))
  go_ret;exact⟨rfl,H2,FrR.trans (FrR.no F1) F2⟩
theorem sS (h:Rdr src tb tc ts g lvs w s) (hk:bT ts s):
  Calls prog 135 #[(g,())] w λe w'=>e = .returned (bs (bQ ts s))∧Fr nob w w':=by
 have H:=hD h;obtain⟨hti,_⟩:=h.tok hk;have HTI:=hD hti;have hr:(s.i:Int)<(ts.length:Int):=by have:=hk.room;omega
 have HI:=hD (pV h hk 4);clear h hk hti;unfold bQ;generalize bB ts 4 s=b at *;cases b with
 | true=>
  go_enter func135,ntmps135;go_upto_region 3 with (go_at_call 56;go_must (refine HI.o.mono ?_;rintro e w1 ⟨rfl,hf⟩;have F1:=hD hf;have H1:=hD (H.o.no hf);clear hf));obtain⟨nv2,hb2⟩:=H1.o.blk;have c1:=hb2.cell 1;have c2:=hb2.cell 2;obtain⟨_,x1,_⟩:=H1.o.aNt HTI.o;simp at c1 c2
  clear hb2;go_quiet (fail)
  go_wp2
  go_ret;exact⟨rfl,F1.o.drewN _⟩
 | false=>
  go_enter func135,ntmps135;go_wp2_with (go_at_call 56;go_must (refine HI.o.mono ?_;rintro e w1 ⟨rfl,hf⟩;have F1:=hD hf;clear hf))
  go_ret;exact⟨rfl,F1⟩
theorem aGw (h:Rdr src tb tc ts g lvs w s) (hk:bT ts s) (hs:src.size≤281474976710656):
  Calls prog 88 #[(g,())] w λe w'=>e = .returned (aR src.data.toList ts s)∧Fr nob w w':=by
 obtain⟨nv,hb,ho⟩:=h.cells;obtain⟨hi,htb,x0,x1,x2⟩:=h.tok hk;have c0:=hb.cell 0;have c1:=hb.cell 1;have c2:=hb.cell 2;have hr:(s.i:Int)<(ts.length:Int):=by have:=hk.room;omega
 have HL:=hD (λw'=>aGb src hs (bF ts s).place w');unfold aR;clear x0 x1 hi ho hb h hk;simp at c0 c1 c2
 generalize iC src.data.toList ((bF ts s).place:Int)=n at *;generalize (((bF ts s).place:Nat):Int)=tp at *;go_enter func88,ntmps88;go_wp2
 go_quiet ((go_at_call 133;exact Calls.quiet_of_same ((HL _).mono (λ_ _ h=>⟨h.1,h.2.symm⟩))))
 go_wp2
 go_ret;exact⟨rfl,(fR w).drewN _⟩
theorem aMd (h:Rdr src tb tc ts g lvs w s) (hk:bT ts s):
   Calls prog 137 #[(g,())] w λe w'=>e = .returned (.tuple #[])∧Rdr src tb tc ts g lvs w' (aU ts s)∧FrR g w w':=by
 have H:=hD h;have HK:=hD hk;obtain⟨nv,hb⟩:=h.blk;have c4:=hb.cell 4;have f4:=hb.frozen 4;simp at c4
 have hd:(s.deep:Int)≤17:=by have:=hk.deep;omega
 clear h hk hb;unfold aU;by_cases h16:16≤s.deep
 . simp only
   rw[if_pos h16];have h17:(16:Int)≤(s.deep:Int):=by omega
   have hdd:(aQ ts 21 s).deep=s.deep:=by unfold aQ;split<;>rfl
   have HD:=hD hdd;clear h16 hdd f4;go_enter func137,ntmps137;go_wp2_with (go_at_call 134;go_must (refine (lD H HK 21).mono ?_;rintro e w2 ⟨rfl,hr,hf2⟩;have H2:=hD hr;have F2:=hD hf2;(obtain⟨nv2,hb2⟩:=hr.blk);rw[HD.o] at hb2;have d4:=hb2.cell 4;have g4:=hb2.frozen 4;simp at d4;clear hr hf2 hb2))
   refine gF rfl rfl ⟨rfl,?_,?_⟩
   . have:=H2.o.aMy (s.deep+1)
     rw[HD.o];exact this
   . exact FrR.trans F2 (((Fr.refl (dG g) w2).setCell (g,U4) _ (λ_=>rfl)).mono (λk _ e=> .inl e))
 . simp only
   rw[if_neg h16];have h17:(s.deep:Int)<16:=by omega
   clear h16;go_enter func137,ntmps137;go_wp2
   refine gF rfl rfl ⟨rfl,?_,?_⟩
   . exact H.o.aMy (s.deep+1)
   . exact ((Fr.refl (dG g) w).setCell (g,U4) _ (λ_=>rfl)).mono (λk _ e=> .inl e)
theorem aJw (X:ByteArray) (w:World):Calls prog 136 #[X] w λe w'=>e = .returned (mX X.data.toList)∧w=w':=by
 have hX:X.toList=X.data.toList:=ByteArray.toList_eq X;unfold mX;generalize X.data.toList=x at *;by_cases h1:x=[105,110,116]
 . subst h1
   rw[if_pos rfl];go_enter func136,ntmps136;go_wp2
   go_ret;exact⟨rfl,rfl⟩
 . rw[if_neg h1]
   have b1:(x==[105,110,116])=false:=bN.2 h1;by_cases h2:x=[98,111,111,108]
   . subst h2
     rw[if_pos rfl];clear h1 b1;go_enter func136,ntmps136;go_wp2
     go_ret;exact⟨rfl,rfl⟩
   . rw[if_neg h2]
     have b2:(x==[98,111,111,108])=false:=bN.2 h2;by_cases h3:x=[116,101,120,116]
     . subst h3
       rw[if_pos rfl];clear h1 b1 h2 b2;go_enter func136,ntmps136;go_wp2
       go_ret;exact⟨rfl,rfl⟩
     . rw[if_neg h3]
       have b3:(x==[116,101,120,116])=false:=bN.2 h3;by_cases h4:x=[108,105,115,116]
       . subst h4
         rw[if_pos rfl];clear h1 b1 h2 b2 h3 b3;go_enter func136,ntmps136;go_wp2
         go_ret;exact⟨rfl,rfl⟩
       . rw[if_neg h4]
         have b4:(x==[108,105,115,116])=false:=bN.2 h4;clear h1 h2 h3 h4;go_enter func136,ntmps136;go_wp2
         go_ret;exact⟨rfl,rfl⟩
end Go.Proofs.YtlbjicjinnnboaaGreatDoor
