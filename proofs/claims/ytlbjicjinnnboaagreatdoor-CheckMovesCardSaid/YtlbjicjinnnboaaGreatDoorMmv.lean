/- Mmv: KsN, KsMv, KsP. -/
import Derived.Test.YtlbjicjinnnboaaGreatDoorMmP
import Derived.Test.YtlbjicjinnnboaaGreatDoorMmR
import Derived.BigQuiet
import Derived.Deep.DeepCutAuto
import Derived.Test.YtlbjicjinnnboaaGreatDoorMmF
set_option maxHeartbeats 8000000
set_option maxRecDepth 100000
set_option linter.unusedVariables false
set_option linter.unusedSimpArgs false
/- CheckSizes: the row of next slots in memory. -/
namespace Go.Proofs.YtlbjicjinnnboaaGreatDoor
open Go.RowKit
open Pw
section
variable {w0 w w1:World}{A:Option Addr}{n c:Nat}{ls:List Nat}
theorem oJ (l:List Nat):ints l=eH (l.map fun x:Nat=>(x:Int)):=by unfold ints eH;rw[List.map_map];rfl
end
def aRq:Prop:=∀(src:ByteArray) (w:World),src.size≤281474976710656→∀r:tX,parseM src.data.toList=some r→Calls Tryz.prog 30 #[.string src] w fun e w'=>aAf w.heap.size w' e r∧Fr nob w w'
theorem yO {w:World}{e b n c:Nat}{xs:List Value} (h:Own w e 1 (.slice (some ⟨b,0,none⟩) (n+1) c) (n+1) xs):Rd w 1 (.slice (some ⟨b,1,none⟩) n (c - 1)) n (xs.drop 1):=by
 have hl:=h.len;obtain⟨_,_,hv,h1,h2⟩:=h.cap;injection hv with _ _ hv;subst hv;obtain⟨b',e,hc⟩:=h.some (by omega);injection e with e;injection e with e;subst e;refine⟨by rw[List.length_drop];omega,_,_,rfl,by omega,by omega,fun _=>⟨_,rfl,rfl,fun j u hu=>?_⟩⟩;rw[List.getElem?_drop] at hu;exact hc (1+j) u hu
theorem aPy (a:List UInt8):(bs a).toList=a:=by rw[ByteArray.toList_eq];rfl
theorem aBt (a:List UInt8):(bs a).data.toList=a:=rfl
theorem aEx:((bs zzN).toList==[122,122])=true:=by kernel_rfl
theorem aAj {nm:List UInt8} (h:nm≠zzN):((bs nm).toList==[122,122])=false:=by rw[aPy];exact bN.2 h
theorem aPx (T:List UInt8):((⟨#[102,110,32,122,122,40,41,123,125,10]⟩:ByteArray)++bs T).data.toList=zzE++10 :: T:=by rw[aBs,aBt];simp[zzE]
theorem aPa (T:List UInt8):(bs T++(⟨#[10,102,110,32,122,122,40,41,123,125]⟩:ByteArray)).data.toList=T++10 :: zzE:=by rw[aBs,aBt];simp[zzE]
theorem aRx (s:ByteArray):s.extract 0 500=bs (s.data.toList.take 500):=by
 have h:(s.extract 0 500).data.toList=s.data.toList.take 500:=by rw[Lib.extract_data];simp
 rw[←h]
 show s.extract 0 500=⟨(s.extract 0 500).data.toList.toArray⟩
 rw[Array.toArray_toList]
theorem kC {A B:Option Addr}{n m c d:Nat}{w:World} (L:List Int) (h1:Rd w 1 (.slice A n c) n (eH L)) (h2:Rd w 1 (.slice B m d) m (eH L)) (k:Nat):
   Calls Tryz.prog 37 #[.slice A n c,.slice B m d] (w.drewN k) fun e w'=>e = .returned (.bool true)∧∃m,w'=(w.drewN k).drewN m:=
 (aHy A B n m c d L L (w.drewN k) (h1.no (by decide) ((Fr.refl _ _).drewN k)) (h2.no (by decide) ((Fr.refl _ _).drewN k))).mono fun e w' ⟨h,r⟩=>⟨by rw[h,decide_eq_true rfl],r⟩
theorem rE {V:World→Prop} (HQ:aRg V) (HP:aRq) (s:ByteArray) (w:World) (hv:V w):Calls Tryz.prog 12 #[.string s] w fun e w'=>e = .returned (.bool true)∧Fr nob w w':=by
 have HSH:=hD (aCr HQ w hv);obtain⟨T,hT⟩:∃T,s.data.toList.take 500=T:=⟨_,rfl⟩;have hTl:T.length≤500:=by rw[←hT,List.length_take];omega
 have hsz:(bs T).size=T.length:=by show T.toArray.size=_;rw[List.size_toArray]
 obtain⟨r0,hr0⟩:=nQ T;have HP0:=hD (fun w'=>HP (bs T) w' (by omega) r0 hr0);have HR0:=hD hr0;have HT:=hD hT;have HTL:=hD hTl;have HV:=hD (fun w' (f:Fr nob w w')=>HQ.no _ _ hv f);have HS:=hD HQ.src;clear hTl hr0 hv HQ HP hsz;go_enter Tryz.func12,Tryz.ntmps12;go_wp2_with fail
 refine HSH.out.mono ?_;rintro e w1 ⟨rfl,hf1⟩;have F1:=hD hf1;clear hf1 HSH;go_upto_if 22 with fail;go_cut [0] (fun v wx=>v = .string (bs T)∧wx=w1)
 case first=>
  by_cases h:s.size≤500
  · have e:bs T=s:=by
      rw[←hT,List.take_of_length_le (by simpa using h)]
      show (⟨s.data.toList.toArray⟩:ByteArray)=s
      simp
    have HE:=hD e;clear e hT;go_wp2_with fail
    go_meet
    exact⟨by rw[HE.out],rfl⟩
  · have h2:500<s.size:=by omega
    have HE:=hD (aRx s);clear hT;go_wp2_with fail
    go_meet
    exact⟨by rw[←HT.out,←HE.out],rfl⟩
 case rest=>
  obtain⟨rfl,rfl⟩:=hcut;clear hT;go_wp2_with fail
  refine (HP0.out _).mono ?_;rintro e w2 ⟨hpa,hf2⟩;have F2:=hD (F1.out.tr hf2);clear hf2 HP0 F1;cases r0 with
  | bad p er=>
    have hpa:e = .returned (.tuple #[.agg #[.slice none 0 0,.slice none 0 0],.int .i64 p,.int .i64 er]):=hpa;subst hpa;have he:er≠0:=by have:=sQ HR0.out;omega
    have heb:((er:Int)==0)=false:=bN.2 (by omega);have hne:((er:Int) != 0)=true:=by rw[bne,heb];rfl
    clear he;go_wp2_with fail
    go_ret;exact⟨rfl,F2.out.alloc _⟩
  | good ns fs=>
    obtain⟨nv,fv,lvs,pvs,rfl,ht⟩:=hpa;have TI:=hD (kP HR0.out);have hf6:=TI.out.ok.fewf;have hn3:=TI.out.ok.few;obtain⟨NA,NC,rfl,-,-⟩:=ht.nodes.cap;obtain⟨FA,FC,rfl,-,-⟩:=ht.fns.cap;have TA:=hD (ht.zero.no ((fR w2).alloc (.cells #[.slice NA ns.length NC,.slice FA fs.length FC] 26)));have BT:=hD (Blk.new w2 26 #[.slice NA ns.length NC,.slice FA fs.length FC]);have F3:=hD (F2.out.alloc (.cells #[.slice NA ns.length NC,.slice FA fs.length FC] 26));obtain⟨n,hn⟩:∃n,ns.length=n:=⟨_,rfl⟩;obtain⟨m,hm⟩:∃m,fs.length=m:=⟨_,rfl⟩;have HN:=hD hn;have HM:=hD hm;rw[hn,hm] at TA BT F3;rw[hn] at hn3;rw[hm] at hf6;rw[hn,hm];clear ht F2 hn hm;go_upto_region 5 with fail;generalize w2.alloc (.cells #[.slice NA n NC,.slice FA m FC] 26)=w3 at *;generalize w2.heap.size=TB at *;have b0:=(BT.out.cell 0).trans rfl;have b1:=(BT.out.cell 1).trans rfl;by_cases h6:6≤m
    · have i6:(6:Int)≤(m:Int):=by omega
      clear h6;go_wp2_with fail
      go_ret;exact⟨rfl,F3.out⟩
    by_cases h290:290<n
    · have i6:¬(6:Int)≤(m:Int):=by omega
      have i7:(m:Int)<6:=by omega
      have i290:(290:Int)<(n:Int):=by omega
      clear h6 h290;go_wp2_with fail
      go_ret;exact⟨rfl,F3.out⟩
    have i6:¬(6:Int)≤(m:Int):=by omega
    have i7:(m:Int)<6:=by omega
    have i290:¬(290:Int)<(n:Int):=by omega
    have i291:(n:Int)≤290:=by omega
    have H6:=hD h6;have H290:=hD h290;clear h6 h290 hf6 hn3;go_wp2_with fail
    clear i6 i7 i290 i291;go_loopw [7] (fun i wr=>∃j:Nat,j≤m∧i = .int .i64 j∧wr=w3∧Hid (∀x f,x<j→fs[x]?=some f→f.name≠zzN)) (fun i _=>m - (intOf i).toNat)
    case atStart=>exact⟨0,Nat.zero_le _,rfl,rfl,hD (fun x f h=>by omega)⟩
    case round=>
      obtain⟨j,hj,rfl,rfl,HF⟩:=hrel;by_cases hlt:j<m
      · obtain⟨f,hf⟩:∃f,fs[j]?=some f:=⟨_,gE (by rw[HM.out];exact hlt)⟩
        have hlt2:(j:Int)<(m:Int):=by omega
        have TA2:=TA.out;rw[←HM.out] at TA2;obtain⟨fb,e,-⟩:=TA2.fns.some (by have:=HM.out;omega);subst e;obtain⟨pv,-,d0,-⟩:=TA2.fn hf;clear TA2;have HJ:=hD hlt;have hj6:(j:Int)≤6:=by have:=H6.out;omega
        by_cases hz:f.name=zzN
        · have e1:((bs f.name).toList==[122,122])=true:=by rw[hz];exact aEx
          clear hf hlt hj hz;go_wp2_with fail
          go_ret;exact⟨rfl,F3.out⟩
        · have e1:((bs f.name).toList==[122,122])=false:=aAj hz
          have HF2:=hD (show ∀x f,x<j+1→fs[x]?=some f→f.name≠zzN from fun x g hx hg=>by
            by_cases e:x=j
            · subst e;rw[hf] at hg;injection hg with hg;subst hg;exact hz
            · exact HF.out x g (by omega) hg)
          clear hf hlt hj hz HF;go_wp2_with fail
          go_roundw
          case rel=>exact⟨j+1,by have:=HJ.out;omega,by go_num,trivial,HF2⟩
          case measure=>simp[intOf];have:=HJ.out;omega
      · have hjm:j=m:=by omega
        subst hjm;have hlt2:¬(j:Int)<(j:Int):=by omega
        have HFN:=hD (show ∀f∈fs,f.name≠zzN from fun f hf=>by
          obtain⟨x,hx,rfl⟩:=List.getElem_of_mem hf;exact HF.out x _ (by have:=HM.out;omega) (gE hx))
        clear hlt hj HF;go_wp2_with fail
        clear b1;go_loopw [8] (fun i wq=>∃j:Nat,j≤n∧i = .int .i64 j∧wq=wr∧Hid (∀x f,x<j→ns[x]?=some f→f.name≠zzN)) (fun i _=>n - (intOf i).toNat)
        case atStart=>exact⟨0,Nat.zero_le _,rfl,rfl,hD (fun x f h=>by omega)⟩
        case round=>
          obtain⟨x,hx,rfl,rfl,HF⟩:=hrel;by_cases hlt:x<n
          · obtain⟨nd,hnd⟩:∃nd,ns[x]?=some nd:=⟨_,gE (by rw[HN.out];exact hlt)⟩
            have hlt2:(x:Int)<(n:Int):=by omega
            have TA2:=TA.out;rw[←HN.out] at TA2;obtain⟨nb,e,-⟩:=TA2.nodes.some (by have:=HN.out;omega);subst e;obtain⟨lv,hlv⟩:∃lv,lvs[x]?=some lv:=⟨_,gE (by have:=TA2.same;have:=HN.out;omega)⟩;obtain⟨-,-,-,-,d3,-⟩:=TA2.node3 hnd hlv;clear TA2;have HJ:=hD hlt;have hj6:(x:Int)≤290:=by have:=H290.out;omega
            by_cases hz:nd.name=zzN
            · have e1:((bs nd.name).toList==[122,122])=true:=by rw[hz];exact aEx
              clear hnd hlv hlt hx hz;go_wp2_with fail
              go_ret;exact⟨rfl,F3.out⟩
            · have e1:((bs nd.name).toList==[122,122])=false:=aAj hz
              have HF2:=hD (show ∀y f,y<x+1→ns[y]?=some f→f.name≠zzN from fun y g hy hg=>by
               by_cases e:y=x
               · subst e;rw[hnd] at hg;injection hg with hg;subst hg;exact hz
               · exact HF.out y g (by omega) hg)
              clear hnd hlv hlt hx hz HF;go_wp2_with fail
              go_roundw
              case rel=>exact⟨x+1,by have:=HJ.out;omega,by go_num,trivial,HF2⟩
              case measure=>simp[intOf];have:=HJ.out;omega
          · have hjm:x=n:=by omega
            subst hjm;have hlt2:¬(x:Int)<(x:Int):=by omega
            have HNN:=hD (show ∀f∈ns,f.name≠zzN from fun f hf=>by
              obtain⟨y,hy,rfl⟩:=List.getElem_of_mem hf;exact HF.out y _ (by have:=HN.out;omega) (gE hy))
            clear hlt hx HF;go_upto_region 17 with fail;clear b0;obtain⟨r1,hr1⟩:=lS T;obtain⟨r2,hr2⟩:=lS (zzE++10 :: T);obtain⟨r3,hr3⟩:=lS (T++10 :: zzE);have MA:=hD (zL HR0.out (by have:=HM.out;have:=H6.out;omega) (by have:=HN.out;have:=H290.out;omega) HTL.out HFN.out HNN.out hr1 hr2);have MB:=hD (wQ HR0.out (by have:=HM.out;have:=H6.out;omega) (by have:=HN.out;have:=H290.out;omega) HTL.out HFN.out HNN.out hr1 hr3);have hsz:(bs T).size≤500:=by have:=HTL.out;show T.toArray.size≤_;rw[List.size_toArray];exact this
            have z1:(⟨#[102,110,32,122,122,40,41,123,125,10]⟩:ByteArray).size+(bs T).size≤9223372036854775807:=by
              have:(⟨#[102,110,32,122,122,40,41,123,125,10]⟩:ByteArray).size=10:=rfl;omega
            have z2:(bs T).size+(⟨#[10,102,110,32,122,122,40,41,123,125]⟩:ByteArray).size≤9223372036854775807:=by
              have:(⟨#[10,102,110,32,122,122,40,41,123,125]⟩:ByteArray).size=10:=rfl;omega
            have S1:=hD (fun w' hv=>HS.out (bs T) w' hv (by omega) r1 hr1);have S2:=hD (fun w' hv=>HS.out ((⟨#[102,110,32,122,122,40,41,123,125,10]⟩:ByteArray)++bs T) w' hv (by rw[ByteArray.size_append];have:(⟨#[102,110,32,122,122,40,41,123,125,10]⟩:ByteArray).size=10:=rfl;omega) r2 (by rw[aPx];exact hr2));have S3:=hD (fun w' hv=>HS.out (bs T++(⟨#[10,102,110,32,122,122,40,41,123,125]⟩:ByteArray)) w' hv (by rw[ByteArray.size_append];have:(⟨#[10,102,110,32,122,122,40,41,123,125]⟩:ByteArray).size=10:=rfl;omega) r3 (by rw[aPa];exact hr3));have R1:=hD hr1;have R2:=hD hr2;have R3:=hD hr3;have H29:=hD H290.out;clear hr1 hr2 hr3 hsz TA BT HS HR0 HNN HFN H6 H290;go_wp2_with fail
            refine (S1.out _ (HV.out _ F3.out)).mono ?_;rintro e w5 ⟨h1,hf5⟩;have F5:=hD (F3.out.tr hf5);clear hf5 F3 S1;cases r1 with
            | bad p1 er=>
              obtain⟨he,he0⟩:=h1;have he:e = .returned (.tuple #[.agg #[.slice none 0 0,.slice none 0 0,.slice none 0 0,.slice none 0 0,.slice none 0 0,.slice none 0 0],.int .i64 (p1:Nat),.int .i64 (er:Nat)]):=he;subst he;have F6:=hD (F5.out.alloc (.cells #[.slice none 0 0,.slice none 0 0,.slice none 0 0,.slice none 0 0,.slice none 0 0,.slice none 0 0] 29));cases r2 with
              | good q=>exact MA.out.elim
              | bad p2 er2=>
               obtain rfl:er=er2:=MA.out;cases r3 with
               | good q=>exact MB.out.elim
               | bad p3 er3=>
                 obtain rfl:er=er3:=MB.out;have HE:=hD he0;clear he0 F5;go_upto_region 18 with fail;generalize w5.alloc (.cells #[.slice none 0 0,.slice none 0 0,.slice none 0 0,.slice none 0 0,.slice none 0 0,.slice none 0 0] 29)=w6 at *;generalize w5.heap.size=B5 at *;go_wp2_with fail
                 refine (S2.out _ (HV.out _ F6.out)).mono ?_;rintro e w7 ⟨⟨h2,-⟩,hf7⟩;have h2:e = .returned (.tuple #[.agg #[.slice none 0 0,.slice none 0 0,.slice none 0 0,.slice none 0 0,.slice none 0 0,.slice none 0 0],.int .i64 (p2:Nat),.int .i64 (er:Nat)]):=h2;subst h2;have F8:=hD ((F6.out.tr hf7).alloc (.cells #[.slice none 0 0,.slice none 0 0,.slice none 0 0,.slice none 0 0,.slice none 0 0,.slice none 0 0] 29));clear hf7 F6 S2;go_upto_region 19 with fail;generalize w7.alloc (.cells #[.slice none 0 0,.slice none 0 0,.slice none 0 0,.slice none 0 0,.slice none 0 0,.slice none 0 0] 29)=w8 at *;generalize w7.heap.size=B7 at *;go_wp2_with fail
                 refine (S3.out _ (HV.out _ F8.out)).mono ?_;rintro e w9 ⟨⟨h3,-⟩,hf9⟩;have h3:e = .returned (.tuple #[.agg #[.slice none 0 0,.slice none 0 0,.slice none 0 0,.slice none 0 0,.slice none 0 0,.slice none 0 0],.int .i64 (p3:Nat),.int .i64 (er:Nat)]):=h3;subst h3;have F10:=hD ((F8.out.tr hf9).alloc (.cells #[.slice none 0 0,.slice none 0 0,.slice none 0 0,.slice none 0 0,.slice none 0 0,.slice none 0 0] 29));clear hf9 F8 S3;have heb:((er:Int)==0)=false:=bN.2 (by have:=HE.out;omega);have hne:((er:Int) != 0)=true:=by rw[bne,heb];rfl
                 have hee:((er:Int) != (er:Int))=false:=by simp
                 go_wp2_with fail
                 go_ret;exact⟨rfl,F10.out⟩
            | good p=>
              cases r2 with
              | bad p2 er2=>exact MA.out.elim
              | good q=>
               cases r3 with
               | bad p3 er3=>exact MB.out.elim
               | good r=>
                 obtain⟨ma1,ma2,ma3,ma4,ma5⟩:=MA.out;obtain⟨-,mb2,mb3,mb4⟩:=MB.out;have IP:=hD (mI R1.out).1;have IQ:=hD (mI R2.out).1;have IR:=hD (mI R3.out).1;obtain⟨g1,ub1,zb1,hg1,pf1,rfl⟩:=jG h1 IP.out;subst hg1;rw[pf1.val];obtain⟨m1,hm1⟩:∃m1,g1.p.fs.length=m1:=⟨_,rfl⟩;have hm12:q.fs.length=m1+1:=by
                   have:=congrArg List.length ma5;rw[List.length_drop,jU IQ.out,jU IP.out,hm1] at this;have:=(uQ IQ.out).1;omega
                 rw[HN.out] at ma1 ma2 mb2 mb3 mb4;have P1:=hD (pf1.no ((fR w5).alloc (.cells #[.slice (some ⟨g1.nb,0,none⟩) g1.p.ns.length g1.nc,.slice (some ⟨g1.fb,0,none⟩) g1.p.fs.length g1.fc,.slice (some ⟨g1.tb,0,none⟩) g1.p.ns.length g1.tc,.slice (some ⟨g1.sb,0,none⟩) g1.p.ns.length g1.sc,.slice (some ⟨ub1,0,none⟩) g1.p.ns.length g1.uc,.slice (some ⟨zb1,0,none⟩) g1.p.fs.length g1.zc] 29)));have F6:=hD (F5.out.alloc (.cells #[.slice (some ⟨g1.nb,0,none⟩) g1.p.ns.length g1.nc,.slice (some ⟨g1.fb,0,none⟩) g1.p.fs.length g1.fc,.slice (some ⟨g1.tb,0,none⟩) g1.p.ns.length g1.tc,.slice (some ⟨g1.sb,0,none⟩) g1.p.ns.length g1.sc,.slice (some ⟨ub1,0,none⟩) g1.p.ns.length g1.uc,.slice (some ⟨zb1,0,none⟩) g1.p.fs.length g1.zc] 29));have BP1:=hD (Blk.new w5 29 #[.slice (some ⟨g1.nb,0,none⟩) g1.p.ns.length g1.nc,.slice (some ⟨g1.fb,0,none⟩) g1.p.fs.length g1.fc,.slice (some ⟨g1.tb,0,none⟩) g1.p.ns.length g1.tc,.slice (some ⟨g1.sb,0,none⟩) g1.p.ns.length g1.sc,.slice (some ⟨ub1,0,none⟩) g1.p.ns.length g1.uc,.slice (some ⟨zb1,0,none⟩) g1.p.fs.length g1.zc]);rw[ma1,hm1] at P1 F6 BP1;rw[ma1,hm1];have N1:=hD ma1;have M1:=hD hm1;clear pf1 F5 MA MB;go_upto_region 18 with fail;generalize w5.alloc (.cells #[.slice (some ⟨g1.nb,0,none⟩) x g1.nc,.slice (some ⟨g1.fb,0,none⟩) m1 g1.fc,.slice (some ⟨g1.tb,0,none⟩) x g1.tc,.slice (some ⟨g1.sb,0,none⟩) x g1.sc,.slice (some ⟨ub1,0,none⟩) x g1.uc,.slice (some ⟨zb1,0,none⟩) m1 g1.zc] 29)=w6 at *;generalize w5.heap.size=B5 at *;go_wp2_with fail
                 refine (S2.out _ (HV.out _ F6.out)).mono ?_;rintro e w7 ⟨h2,hf7⟩;obtain⟨g2,ub2,zb2,hg2,pf2,rfl⟩:=jG h2 IQ.out;subst hg2;rw[pf2.val];have F7:=hD (F6.out.tr hf7);have P2:=hD (pf2.no ((fR w7).alloc (.cells #[.slice (some ⟨g2.nb,0,none⟩) g2.p.ns.length g2.nc,.slice (some ⟨g2.fb,0,none⟩) g2.p.fs.length g2.fc,.slice (some ⟨g2.tb,0,none⟩) g2.p.ns.length g2.tc,.slice (some ⟨g2.sb,0,none⟩) g2.p.ns.length g2.sc,.slice (some ⟨ub2,0,none⟩) g2.p.ns.length g2.uc,.slice (some ⟨zb2,0,none⟩) g2.p.fs.length g2.zc] 29)));have F8:=hD (F7.out.alloc (.cells #[.slice (some ⟨g2.nb,0,none⟩) g2.p.ns.length g2.nc,.slice (some ⟨g2.fb,0,none⟩) g2.p.fs.length g2.fc,.slice (some ⟨g2.tb,0,none⟩) g2.p.ns.length g2.tc,.slice (some ⟨g2.sb,0,none⟩) g2.p.ns.length g2.sc,.slice (some ⟨ub2,0,none⟩) g2.p.ns.length g2.uc,.slice (some ⟨zb2,0,none⟩) g2.p.fs.length g2.zc] 29));have FA8:=hD (hf7.alloc (.cells #[.slice (some ⟨g2.nb,0,none⟩) g2.p.ns.length g2.nc,.slice (some ⟨g2.fb,0,none⟩) g2.p.fs.length g2.fc,.slice (some ⟨g2.tb,0,none⟩) g2.p.ns.length g2.tc,.slice (some ⟨g2.sb,0,none⟩) g2.p.ns.length g2.sc,.slice (some ⟨ub2,0,none⟩) g2.p.ns.length g2.uc,.slice (some ⟨zb2,0,none⟩) g2.p.fs.length g2.zc] 29));have BP2:=hD (Blk.new w7 29 #[.slice (some ⟨g2.nb,0,none⟩) g2.p.ns.length g2.nc,.slice (some ⟨g2.fb,0,none⟩) g2.p.fs.length g2.fc,.slice (some ⟨g2.tb,0,none⟩) g2.p.ns.length g2.tc,.slice (some ⟨g2.sb,0,none⟩) g2.p.ns.length g2.sc,.slice (some ⟨ub2,0,none⟩) g2.p.ns.length g2.uc,.slice (some ⟨zb2,0,none⟩) g2.p.fs.length g2.zc]);rw[ma2,hm12] at P2 F8 FA8 BP2;rw[ma2,hm12];have N2:=hD ma2;have M2:=hD hm12;clear pf2 F7 F6 hf7 S2;go_upto_region 19 with fail
                 generalize w7.alloc (.cells #[.slice (some ⟨g2.nb,0,none⟩) (x+1) g2.nc,.slice (some ⟨g2.fb,0,none⟩) (m1+1) g2.fc,.slice (some ⟨g2.tb,0,none⟩) (x+1) g2.tc,.slice (some ⟨g2.sb,0,none⟩) (x+1) g2.sc,.slice (some ⟨ub2,0,none⟩) (x+1) g2.uc,.slice (some ⟨zb2,0,none⟩) (m1+1) g2.zc] 29)=w8 at *;generalize w7.heap.size=B7 at *;go_wp2_with fail
                 refine (S3.out _ (HV.out _ F8.out)).mono ?_;rintro e w9 ⟨h3,hf9⟩;obtain⟨g3,ub3,zb3,hg3,pf3,rfl⟩:=jG h3 IR.out;subst hg3;rw[pf3.val];have P3:=hD (pf3.no ((fR w9).alloc (.cells #[.slice (some ⟨g3.nb,0,none⟩) g3.p.ns.length g3.nc,.slice (some ⟨g3.fb,0,none⟩) g3.p.fs.length g3.fc,.slice (some ⟨g3.tb,0,none⟩) g3.p.ns.length g3.tc,.slice (some ⟨g3.sb,0,none⟩) g3.p.ns.length g3.sc,.slice (some ⟨ub3,0,none⟩) g3.p.ns.length g3.uc,.slice (some ⟨zb3,0,none⟩) g3.p.fs.length g3.zc] 29)));have F10:=hD ((F8.out.tr hf9).alloc (.cells #[.slice (some ⟨g3.nb,0,none⟩) g3.p.ns.length g3.nc,.slice (some ⟨g3.fb,0,none⟩) g3.p.fs.length g3.fc,.slice (some ⟨g3.tb,0,none⟩) g3.p.ns.length g3.tc,.slice (some ⟨g3.sb,0,none⟩) g3.p.ns.length g3.sc,.slice (some ⟨ub3,0,none⟩) g3.p.ns.length g3.uc,.slice (some ⟨zb3,0,none⟩) g3.p.fs.length g3.zc] 29));have FB10:=hD (hf9.alloc (.cells #[.slice (some ⟨g3.nb,0,none⟩) g3.p.ns.length g3.nc,.slice (some ⟨g3.fb,0,none⟩) g3.p.fs.length g3.fc,.slice (some ⟨g3.tb,0,none⟩) g3.p.ns.length g3.tc,.slice (some ⟨g3.sb,0,none⟩) g3.p.ns.length g3.sc,.slice (some ⟨ub3,0,none⟩) g3.p.ns.length g3.uc,.slice (some ⟨zb3,0,none⟩) g3.p.fs.length g3.zc] 29));have BP3:=hD (Blk.new w9 29 #[.slice (some ⟨g3.nb,0,none⟩) g3.p.ns.length g3.nc,.slice (some ⟨g3.fb,0,none⟩) g3.p.fs.length g3.fc,.slice (some ⟨g3.tb,0,none⟩) g3.p.ns.length g3.tc,.slice (some ⟨g3.sb,0,none⟩) g3.p.ns.length g3.sc,.slice (some ⟨ub3,0,none⟩) g3.p.ns.length g3.uc,.slice (some ⟨zb3,0,none⟩) g3.p.fs.length g3.zc]);obtain⟨k3,hk3⟩:∃k3,g3.p.fs.length=k3:=⟨_,rfl⟩;rw[mb2,hk3] at P3 F10 FB10 BP3;rw[mb2,hk3];have N3:=hD mb2;have T2:=hD ma3;have SL2:=hD ma4;have Z2:=hD ma5;have T3:=hD mb3;have U3:=hD mb4;clear pf3 F8 hf9 S3 ma1 ma2 ma3 ma4 ma5 mb2 mb3 mb4 hk3 hm1 hm12 h1 h2 h3;go_upto_region 20 with fail
                 generalize w9.alloc (.cells #[.slice (some ⟨g3.nb,0,none⟩) (x+1) g3.nc,.slice (some ⟨g3.fb,0,none⟩) k3 g3.fc,.slice (some ⟨g3.tb,0,none⟩) (x+1) g3.tc,.slice (some ⟨g3.sb,0,none⟩) (x+1) g3.sc,.slice (some ⟨ub3,0,none⟩) (x+1) g3.uc,.slice (some ⟨zb3,0,none⟩) k3 g3.zc] 29)=w10 at *;generalize w9.heap.size=B9 at *;have FC10:=hD (FA8.out.tr FB10.out);obtain⟨p0,-,p2,p3,p4,p5,-⟩:=(BP1.out.fr FC10.out (fun x=>x)).sixth;obtain⟨-,-,q2,q3,-,q5,-⟩:=(BP2.out.fr FB10.out (fun x=>x)).sixth;obtain⟨-,-,r2,-,r4,-,-⟩:=BP3.out.sixth;have P1':=P1.out.no FC10.out;have P2':=P2.out.no FB10.out;have x3:(x:Int)≤290:=by have:=H29.out;omega
                 have P3':=P3.out;have e1:=P1'.pg.types;have e2:=P1'.pg.slots;have e3:=P1'.fn;have e4:=P1'.sz;have f1:=P2'.pg.types;have f2:=P2'.pg.slots;have f4:=P2'.sz;have g1':=P3'.pg.types;have g3':=P3'.fn;rw[N1.out] at e1 e2 e3;rw[M1.out] at e4;rw[N2.out] at f1 f2;rw[M2.out] at f4;rw[N3.out] at g1' g3';have c1:=f1.oU.1;have c2:=f2.oU.1;have c4:=f4.oU.1;have c5:=g1'.oU.1;have c6:=g3'.oU.1;have H1:=hD (kC (g1.p.types.map fun y:Nat=>(y:Int)) (by have:=yO f1;unfold ints at this;rw[←List.map_drop,T2.out] at this;rw[←oJ];exact this) (by rw[←oJ];exact e1.rd));have H2:=hD (kC g1.p.slots (by have:=yO f2;unfold eH at this ⊢;rw[←List.map_drop,SL2.out] at this;exact this) e2.rd);have H3:=hD (kC (g1.p.types.map fun y:Nat=>(y:Int)) (by have:=(g1'.cut (m:=x) (Nat.le_succ _)).rd;unfold ints at this;rw[Nat.mul_one,←List.map_take,T3.out] at this;rw[←oJ];exact this) (by rw[←oJ];exact e1.rd));have H4:=hD (kC (g1.p.fn.map fun y:Nat=>(y:Int)) (by have:=(g3'.cut (m:=x) (Nat.le_succ _)).rd;unfold ints at this;rw[Nat.mul_one,←List.map_take,U3.out] at this;rw[←oJ];exact this) (by rw[←oJ];exact e3.rd));have H5:=hD (kC (g1.p.sizes.map fun y:Nat=>(y:Int)) (by have:=yO f4;unfold ints at this;rw[←List.map_drop,Z2.out] at this;rw[←oJ];exact this) (by rw[←oJ];exact e4.rd));have k1:(x:Int)+1≤(g2.tc:Int):=by omega
                 have k2:(x:Int)+1≤(g2.sc:Int):=by omega
                 have k4:(m1:Int)+1≤(g2.zc:Int):=by omega
                 have k5:(x:Int)+1≤(g3.tc:Int):=by omega
                 have k6:(x:Int)+1≤(g3.uc:Int):=by omega
                 have pp:=uQ IP.out;rw[N1.out,M1.out] at pp;have s1:¬g2.tc=1:=by omega
                 have s2:¬g2.sc=1:=by omega
                 have s3:¬g2.zc=1:=by omega
                 clear pp;have k7:(1:Int)≤(x:Int)+1:=by omega
                 have k8:(1:Int)≤(m1:Int)+1:=by omega
                 have k9:(x:Int)≤(x:Int)+1:=by omega
                 have k10:(x:Int)≤(g3.tc:Int):=by omega
                 have k11:(x:Int)≤(g3.uc:Int):=by omega
                 clear P1' P2' P3' e1 e2 e3 e4 f1 f2 f4 g1' g3' c1 c2 c4 c5 c6 P1 P2 P3 BP1 BP2 BP3 FA8 FB10 FC10 T2 SL2 Z2 T3 U3 R1 R2 R3 z1 z2 HV;go_upto_region 25 with fail;refine wp_region_quiet_lit (by kernel_rfl) (by kernel_rfl) ?_;iterate 7 (go_big_quiet_step (fail))
                 go_big_quiet_want
                 go_big_quiet_op
                 refine⟨.bool true,fun k=>?_,?_⟩
                 · go_at_call 37
                   exact Calls.quiet_of (H1.out k)
                 go_big_quiet_on
                 iterate 7 (go_big_quiet_step (fail))
                 go_big_quiet_want
                 go_big_quiet_op
                 refine⟨.bool true,fun k=>?_,?_⟩
                 · go_at_call 37
                   exact Calls.quiet_of (H2.out k)
                 go_big_quiet_on
                 iterate 8 (go_big_quiet_step (fail))
                 go_big_quiet_want
                 go_big_quiet_op
                 refine⟨.bool true,fun k=>?_,?_⟩
                 · go_at_call 37
                   exact Calls.quiet_of (H3.out k)
                 go_big_quiet_on
                 iterate 8 (go_big_quiet_step (fail))
                 go_big_quiet_want
                 go_big_quiet_op
                 refine⟨.bool true,fun k=>?_,?_⟩
                 · go_at_call 37
                   exact Calls.quiet_of (H4.out k)
                 go_big_quiet_on
                 iterate 7 (go_big_quiet_step (fail))
                 go_big_quiet_want
                 go_big_quiet_op
                 refine⟨.bool true,fun k=>?_,?_⟩
                 · go_at_call 37
                   exact Calls.quiet_of (H5.out k)
                 go_big_quiet_on
                 repeat (go_big_quiet_step (fail))
                 refine wpQuiet_nil ?_;intro _ hw';obtain⟨nq,hw''⟩:=hw';subst hw'';go_wp2_with fail
                 go_ret;exact⟨rfl,F10.out.drewN _⟩
end Go.Proofs.YtlbjicjinnnboaaGreatDoor
/- The reference's parser, as CheckMoves' walk asks for it. -/
namespace Go.Proofs.YtlbjicjinnnboaaGreatDoor
open Go.RowKit
theorem aQx:aRq:=fun src w hs _ hr=>aLi src w hs hr
end Go.Proofs.YtlbjicjinnnboaaGreatDoor
