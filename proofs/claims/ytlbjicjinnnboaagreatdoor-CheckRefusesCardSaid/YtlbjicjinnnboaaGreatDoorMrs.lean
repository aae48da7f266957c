/- Mrs: KsQA, KsRf. -/
import Derived.Test.YtlbjicjinnnboaaGreatDoorMrP
import Derived.Test.YtlbjicjinnnboaaGreatDoorMrF
import Derived.Test.YtlbjicjinnnboaaGreatDoorMrT
import Derived.Test.YtlbjicjinnnboaaGreatDoorMrU
import Derived.BigQuiet
import Derived.Deep.DeepCutAuto
set_option maxHeartbeats 8000000
set_option maxRecDepth 100000
set_option linter.unusedVariables false
set_option linter.unusedSimpArgs false
/- The checkers and parsers, as CheckAll's walk asks for them. -/
namespace Go.Proofs.YtlbjicjinnnboaaGreatDoor
open Go.RowKit Go.Proofs.Tryz
theorem aRr:aNn:=λsrc w hs _ hr=>aBy src w hs hr
open Pw
theorem aQr (a:List UInt8):(bs a).toList=a:=by rw[ByteArray.toList_eq];rfl
theorem aJp:((bs zzL).toList==[122,122])=true:=by kernel_rfl
theorem aEw {nm:List UInt8} (h:nm≠zzL):((bs nm).toList==[122,122])=false:=by rw[aQr];exact bN.2 h
theorem aRx (s:ByteArray):s.extract 0 560=bs (s.data.toList.take 560):=by
 have h:(s.extract 0 560).data.toList=s.data.toList.take 560:=by rw[Lib.extract_data];simp
 rw[<-h]
 show s.extract 0 560=⟨(s.extract 0 560).data.toList.toArray⟩
 rw[Array.toArray_toList]
theorem oI {V:World->Prop} (HQ:aSe V) (HRS:aNn) (s:ByteArray) (w:World) (hv:V w):Calls prog 10 #[s] w λe w'=>e = .returned true∧Fr nob w w':=by
 have HSH:=hD (aCb HQ w hv);obtain⟨T,hT⟩:∃T,s.data.toList.take 560=T:=⟨_,rfl⟩;have hTl:T.length≤560:=by rw[<-hT,List.length_take];omega
 obtain⟨S,hS⟩:∃S,bs T=S:=⟨_,rfl⟩;have hSD:S.data.toList=T:=by rw[<-hS];rfl
 have hsz:S.size=T.length:=by rw[<-hS];show T.toArray.size=_;rw[List.size_toArray]
 obtain⟨r,hr⟩:=qE T;have HR:=hD (λw'=>HRS S w' (by omega) (r:=r) (by rw[hSD];exact hr));have HRR:=hD hr;have HT:=hD hT;have HTL:=hD hTl;have HSZ:=hD hsz;have HSD:=hD hSD;have HS:=hD (λ(t lit:List UInt8) (a:ByteArray) (ha:a.data.toList=10 :: t) (hl:a.size≤100) (r:fD) (hr:dJ (T++10 :: t)=some r) w' (f:Fr nob w w')=>HQ.src (S++a) w' (HQ.no _ _ hv f) (by rw[ByteArray.size_append];omega) r (by rw[aMm,hSD,ha];exact hr));clear hTl hr hv HQ HRS hsz hSD;go_enter func10,ntmps10;go_wp2_with fail
 refine HSH.o.mono ?_;rintro e w1 ⟨rfl,hf1⟩;have F1:=hD hf1;clear hf1 HSH;go_upto_if 31 with fail;go_cut [0] (λv wx=>v = .string S∧wx=w1)
 case first=>
  by_cases h:s.size≤560
  . have e:S=s:=by
      rw[<-hS,<-hT,List.take_of_length_le (by simpa using h)]
      show (⟨s.data.toList.toArray⟩:ByteArray)=s
      simp
    have HE:=hD e;clear e hT hS;go_wp2_with fail
    go_meet
    exact⟨by rw[HE.o],rfl⟩
  . have h2:560<s.size:=by omega
    have HE:=hD (aRx s);have HSS:=hD hS;clear hT hS;go_wp2_with fail
    go_meet
    exact⟨by rw[<-HSS.o,<-HT.o,<-HE.o],rfl⟩
 case rest=>
  obtain⟨rfl,rfl⟩:=hcut;clear hT hS;go_wp2_with fail
  refine (HR _).mono ?_;rintro e w2 ⟨hsa,hf2⟩;have F2:=hD (F1.o.tr hf2);clear hf2 HR F1;cases r with
  | bad p er=>
    obtain⟨rfl,he⟩:=hsa;unfold zD;have heb:((er:Int)==0)=false:=bN.2 (by omega);have hne:((er:Int) != 0)=true:=by rw[bne,heb];rfl
    clear he;go_wp2
    go_ret;exact⟨rfl,F2.o.alloc _⟩
  | good p=>
    obtain⟨nv,fv,tv,sv,uv,zv,lvs,pvs,rfl,pa⟩:=hsa;obtain⟨n,hn⟩:∃n,p.ns.length=n:=⟨_,rfl⟩;obtain⟨m,hm⟩:∃m,p.fs.length=m:=⟨_,rfl⟩;have hok:=aOm HRR.o;have hn3:n≤1000:=by rw[<-hn];exact hok.1
    have hf6:m≤1000:=by rw[<-hm];exact hok.2.1
    obtain⟨A1,C1,rfl,-,-⟩:=pa.tree.nodes.cap;obtain⟨A2,C2,rfl,-,-⟩:=pa.tree.fns.cap;obtain⟨⟨_,_,_,-⟩,⟨_,_,_,-⟩,⟨A3,N3,C3,rfl⟩,⟨A4,N4,C4,rfl⟩,⟨A5,N5,C5,rfl⟩,⟨A6,N6,C6,rfl⟩⟩:=pa.sl;have TA:=hD (pa.tree.no ((fR w2).alloc (.cells #[.slice A1 p.ns.length C1,.slice A2 p.fs.length C2,.slice A3 N3 C3,.slice A4 N4 C4,.slice A5 N5 C5,.slice A6 N6 C6] 29)));have BT:=hD (Blk.new w2 29 #[.slice A1 p.ns.length C1,.slice A2 p.fs.length C2,.slice A3 N3 C3,.slice A4 N4 C4,.slice A5 N5 C5,.slice A6 N6 C6]);have F3:=hD (F2.o.alloc (.cells #[.slice A1 p.ns.length C1,.slice A2 p.fs.length C2,.slice A3 N3 C3,.slice A4 N4 C4,.slice A5 N5 C5,.slice A6 N6 C6] 29));have HN:=hD hn;have HM:=hD hm;rw[hn,hm] at TA BT F3;rw[hn,hm];clear pa F2 hn hm hok;go_upto_region 5 with fail;generalize w2.alloc (.cells #[.slice A1 n C1,.slice A2 m C2,.slice A3 N3 C3,.slice A4 N4 C4,.slice A5 N5 C5,.slice A6 N6 C6] 29)=w3 at *;generalize w2.heap.size=TB at *;have b0:=(BT.o.cell 0).trans rfl;have b1:=(BT.o.cell 1).trans rfl;by_cases h6:6≤m
    . have i6:(6:Int)≤(m:Int):=by omega
      clear h6;go_wp2
      go_ret;exact⟨rfl,F3⟩
    by_cases h290:280<n
    . have i6:¬(6:Int)≤(m:Int):=by omega
      have i7:(m:Int)<6:=by omega
      have i290:(280:Int)<(n:Int):=by omega
      clear h6 h290;go_wp2
      go_ret;exact⟨rfl,F3⟩
    have i6:¬(6:Int)≤(m:Int):=by omega
    have i7:(m:Int)<6:=by omega
    have i290:¬(280:Int)<(n:Int):=by omega
    have i291:(n:Int)≤280:=by omega
    have H6:=hD h6;have H290:=hD h290;clear h6 h290 hf6 hn3;go_wp2
    clear i6 i7 i290 i291;go_loopw [7] (λi wr=>∃j:Nat,j≤m∧i = .int .i64 j∧wr=w3∧Hd (∀x f,x<j->p.fs[x]?=some f->f.name≠zzL)) (λi _=>m - (intOf i).toNat)
    case atStart=>exact⟨0,Nat.zero_le _,rfl,rfl,hD (λx f h=>by omega)⟩
    case round=>
      obtain⟨j,hj,rfl,rfl,HF⟩:=hrel;by_cases hlt:j<m
      . obtain⟨f,hf⟩:∃f,p.fs[j]?=some f:=⟨_,gE (by rw[HM.o];exact hlt)⟩
        have hlt2:(j:Int)<(m:Int):=by omega
        have TA2:=TA.o;rw[<-HM.o] at TA2;obtain⟨fb,e,-⟩:=TA2.fns.some (by have:=HM.o;omega);subst e;obtain⟨pv,-,d0,-⟩:=TA2.fn hf;clear TA2;have HJ:=hD hlt;have hj6:(j:Int)≤6:=by have:=H6.o;omega
        by_cases hz:f.name=zzL
        . have e1:((bs f.name).toList==[122,122])=true:=by rw[hz];exact aJp
          clear hf hlt hj hz;go_wp2
          go_ret;exact⟨rfl,F3⟩
        . have e1:((bs f.name).toList==[122,122])=false:=aEw hz
          have HF2:=hD (show ∀x f,x<j+1->p.fs[x]?=some f->f.name≠zzL from λx g hx hg=>by
            by_cases e:x=j
            . subst e;rw[hf] at hg;injection hg with hg;subst hg;exact hz
            . exact HF x g (by omega) hg)
          clear hf hlt hj hz HF;go_wp2
          go_roundw
          case rel=>exact⟨j+1,by have:=HJ.o;omega,by go_num,trivial,HF2⟩
          case measure=>simp[intOf];have:=HJ.o;omega
      . have hjm:j=m:=by omega
        subst hjm;have hlt2:¬(j:Int)<(j:Int):=by omega
        have LAW:=hD (yJ HRR (by rw[HM.o];have:=H6.o;omega) (by rw[HN.o];have:=H290.o;omega) HTL (λf hf=>by
          obtain⟨x,hx,rfl⟩:=List.getElem_of_mem hf;exact HF x _ (by have:=HM.o;omega) (gE hx)))
        rw[HM.o] at LAW;clear hlt hj HF;go_wp2
        clear b0;go_loopw [8,9] (λv i wq=>∃k:Nat,k≤S.size∧v = .int .i64 ((1+iC T (k:Nat):Nat))∧i = .int .i64 k∧wq=wr) (λ_ i _=>S.size - (intOf i).toNat)
        case atStart=>exact⟨0,Nat.zero_le _,by rw[pU _ _ (by omega)];rfl,rfl,rfl⟩
        case round=>
          obtain⟨k,hk,rfl,rfl,rfl⟩:=hrel;have hle:=(zI T (k:Int)).2;have h560:=HTL.o;have hs5:(S.size:Int)≤560:=by have:=HSZ.o;omega
          by_cases hlt:k<S.size
          . have hlt2:(k:Int)<(S.size:Int):=by omega
            obtain⟨c,hc⟩:∃c,S[k]'hlt=c:=⟨_,rfl⟩;have HK:=hD (wU T k c (by rw[<-HSD.o,gE (by simpa using hlt)];exact congrArg some hc));generalize iC T (k:Int)=q at *;have hq:(q:Int)≤561:=by omega
            clear hle h560;by_cases h10:c=10
            . have hcb:((c.toNat:Int)==10)=true:=by rw[h10];rfl
              have HC:=hD h10;have HL:=hD hlt;clear h10;go_wp2
              go_roundw
              case rel=>exact⟨k+1,by have:=HL.o;omega,by (have:=HK.o);rw[if_pos HC.o] at this;rw[show ((k+1:Nat):Int)=(k:Int)+1 by omega,this];go_num,by go_num,trivial⟩
              case measure=>simp[intOf];have:=HL.o;omega
            . have hcb:((c.toNat:Int)==10)=false:=bN.2 (λe=>h10 (UInt8.toNat_inj.1 (by (have:(10:UInt8).toNat=10:=rfl);omega)))
              have HC:=hD h10;have HL:=hD hlt;clear h10;go_wp2
              go_roundw
              case rel=>exact⟨k+1,by have:=HL.o;omega,by (have:=HK.o);rw[if_neg HC.o] at this;rw[show ((k+1:Nat):Int)=(k:Int)+1 by omega,this];rfl,by go_num,trivial⟩
              case measure=>simp[intOf];have:=HL.o;omega
          . have hks:k=S.size:=by omega
            subst hks;have hlt2:¬(S.size:Int)<(S.size:Int):=by omega
            have hlL:1+iC T (S.size:Nat)=2+T.count 10:=by rw[qZ _ _ (by have:=HSZ.o;omega)];omega
            rw[hlL];obtain⟨L,hL⟩:∃L,2+T.count 10=L:=⟨_,rfl⟩;have hL5:L≤562:=by rw[<-hL,<-hlL];omega
            rw[hL] at LAW;rw[hL];obtain⟨r6,hr6⟩:=qE (T++10 :: t6);have R6:=hD hr6;have G1:=hD (HS t1 [] ⟨#[10,102,110,32,122,122,40,41,123,112,114,105,110,116,32,113,59,125]⟩ rfl (by decide) _ LAW.o.1);have G2:=hD (HS t2 [] ⟨#[10,102,110,32,122,122,40,41,123,108,101,116,32,113,61,49,59,108,101,116,32,113,61,50,59,125]⟩ rfl (by decide) _ LAW.o.2.1);have G3:=hD (HS t3 [] ⟨#[10,102,110,32,122,122,40,41,123,105,102,32,49,123,125,125]⟩ rfl (by decide) _ LAW.o.2.2.1);have G4:=hD (HS t4 [] ⟨#[10,102,110,32,122,122,40,41,123,122,122,40,49,41,59,125]⟩ rfl (by decide) _ LAW.o.2.2.2.1);obtain⟨q5,h5⟩:=LAW.o.2.2.2.2.1;have G5:=hD (HS t5 [] ⟨#[10,102,110,32,122,122,40,41,123,122,122,40,41,59,125]⟩ rfl (by decide) _ h5);have G6:=hD (HS t6 [] ⟨#[10,102,110,32,122,122,40,41,123,125,102,110,32,122,122,40,41,123,125]⟩ rfl (by decide) _ hr6);have Z:∀a:ByteArray,a.size≤100->S.size+a.size≤9223372036854775807:=λa ha=>by omega
            have z1:=Z ⟨#[10,102,110,32,122,122,40,41,123,112,114,105,110,116,32,113,59,125]⟩ (by decide);have z2:=Z ⟨#[10,102,110,32,122,122,40,41,123,108,101,116,32,113,61,49,59,108,101,116,32,113,61,50,59,125]⟩ (by decide);have z3:=Z ⟨#[10,102,110,32,122,122,40,41,123,105,102,32,49,123,125,125]⟩ (by decide);have z4:=Z ⟨#[10,102,110,32,122,122,40,41,123,122,122,40,49,41,59,125]⟩ (by decide);have z5:=Z ⟨#[10,102,110,32,122,122,40,41,123,122,122,40,41,59,125]⟩ (by decide);have z6:=Z ⟨#[10,102,110,32,122,122,40,41,123,125,102,110,32,122,122,40,41,123,125]⟩ (by decide);clear hlt hk hlL hL hL5 h560 hle hr6 h5 HS Z b1;have FF0:=hD (fR wr);go_wp2_with fail
            refine (G1 _ F3).mono ?_;rintro e v1 ⟨hsa,hf⟩;obtain⟨rfl,-⟩:=hsa;unfold zD;have E1:=hD ((F3.o.tr hf).alloc (.cells #[Un,Un,Un,Un,Un,Un] 29));have FF1:=hD ((FF0.o.tr hf).alloc (.cells #[Un,Un,Un,Un,Un,Un] 29));clear hf G1 F3 FF0;go_wp2_with fail
            clear z1;refine (G2 _ E1).mono ?_;rintro e v2 ⟨hsa,hf⟩;obtain⟨rfl,-⟩:=hsa;unfold zD;have E2:=hD ((E1.o.tr hf).alloc (.cells #[Un,Un,Un,Un,Un,Un] 29));have FF2:=hD ((FF1.o.tr hf).alloc (.cells #[Un,Un,Un,Un,Un,Un] 29));clear hf G2 E1 FF1;go_wp2_with fail
            clear z2;refine (G3 _ E2).mono ?_;rintro e v3 ⟨hsa,hf⟩;obtain⟨rfl,-⟩:=hsa;unfold zD;have E3:=hD ((E2.o.tr hf).alloc (.cells #[Un,Un,Un,Un,Un,Un] 29));have FF3:=hD ((FF2.o.tr hf).alloc (.cells #[Un,Un,Un,Un,Un,Un] 29));clear hf G3 E2 FF2;go_wp2_with fail
            clear z3;refine (G4 _ E3).mono ?_;rintro e v4 ⟨hsa,hf⟩;obtain⟨rfl,-⟩:=hsa;unfold zD;have E4:=hD ((E3.o.tr hf).alloc (.cells #[Un,Un,Un,Un,Un,Un] 29));have FF4:=hD ((FF3.o.tr hf).alloc (.cells #[Un,Un,Un,Un,Un,Un] 29));clear hf G4 E3 FF3;go_wp2_with fail
            clear z4;refine (G5 _ E4).mono ?_;rintro e v5 ⟨hsa,hf⟩;obtain⟨nv,fv,tv,sv,uv,zv,lvs5,pvs5,rfl,pa⟩:=hsa;obtain⟨⟨H0,g0,c0,rfl⟩,⟨H1,g1,c1,rfl⟩,⟨H2,g2,c2,rfl⟩,⟨H3,g3,c3,rfl⟩,⟨H4,g4,c4,rfl⟩,⟨H5,g5,c5,rfl⟩⟩:=pa.sl;have E5:=hD ((E4.o.tr hf).alloc (.cells #[.slice H0 g0 c0,.slice H1 g1 c1,.slice H2 g2 c2,.slice H3 g3 c3,.slice H4 g4 c4,.slice H5 g5 c5] 29));have FF5:=hD ((FF4.o.tr hf).alloc (.cells #[.slice H0 g0 c0,.slice H1 g1 c1,.slice H2 g2 c2,.slice H3 g3 c3,.slice H4 g4 c4,.slice H5 g5 c5] 29));clear hf pa G5 E4 FF4;go_wp2_with fail
            clear z5;refine (G6 _ E5).mono ?_;rintro e v6 ⟨hsa,hf⟩;obtain⟨nv,fv,tv,sv,uv,zv,lvs6,pvs6,rfl,pa⟩:=hsa.uni;obtain⟨⟨J0,j0,k0,rfl⟩,⟨J1,j1,k1,rfl⟩,⟨J2,j2,k2,rfl⟩,⟨J3,j3,k3,rfl⟩,⟨J4,j4,k4,rfl⟩,⟨J5,j5,k5,rfl⟩⟩:=pa.sl;obtain⟨x6,hx6⟩:∃x,(aPj r6).2.1=x:=⟨_,rfl⟩;obtain⟨y6,hy6⟩:∃y,(aPj r6).2.2=y:=⟨_,rfl⟩;rw[hx6,hy6];have E6:=hD ((E5.o.tr hf).alloc (.cells #[.slice J0 j0 k0,.slice J1 j1 k1,.slice J2 j2 k2,.slice J3 j3 k3,.slice J4 j4 k4,.slice J5 j5 k5] 29));have FF6:=hD ((FF5.o.tr hf).alloc (.cells #[.slice J0 j0 k0,.slice J1 j1 k1,.slice J2 j2 k2,.slice J3 j3 k3,.slice J4 j4 k4,.slice J5 j5 k5] 29));have b1:=((BT.o.fr FF6 (λx=>x)).cell 1).trans rfl;have Y6:=hD (show j<5->x6=L∧y6=41 from λh=>by
              have h2:=LAW.o.2.2.2.2.2 h;rw[R6.o] at h2;injection h2 with h2;subst h2;exact⟨hx6.symm,hy6.symm⟩)
            clear hf pa G6 E5 FF5 FF6 hx6 hy6;go_upto_region 24 with fail;generalize v6.alloc (.cells #[.slice J0 j0 k0,.slice J1 j1 k1,.slice J2 j2 k2,.slice J3 j3 k3,.slice J4 j4 k4,.slice J5 j5 k5] 29)=v7 at *;have hLL:((L:Int) != (L:Int))=false:=by simp
            have hLE:((L:Int)==(L:Int))=true:=by simp
            by_cases h5:j<5
            . obtain⟨rfl,rfl⟩:=Y6.o h5
              have i5:(j:Int)<5:=by omega
              clear h5;go_wp2
              go_ret;exact⟨rfl,E6⟩
            . have i5:¬(j:Int)<5:=by omega
              clear h5;go_wp2
              go_ret;exact⟨rfl,E6⟩
end Go.Proofs.YtlbjicjinnnboaaGreatDoor
