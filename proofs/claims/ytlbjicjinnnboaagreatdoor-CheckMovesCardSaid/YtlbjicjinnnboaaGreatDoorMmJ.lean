/- MmJ: KqHd, KqRep, CkGeo, KqAll, CkLt, BwA, PPar2. -/
import Derived.Test.YtlbjicjinnnboaaGreatDoorUShelf
import Derived.Test.YtlbjicjinnnboaaGreatDoorMmA
import Derived.Test.YtlbjicjinnnboaaGreatDoorMmG
import Derived.Test.YtlbjicjinnnboaaGreatDoorMmI
import Derived.Laws.CopyOwn
import Derived.Test.YtlbjicjinnnboaaGreatDoorMmF
set_option maxHeartbeats 8000000
set_option maxRecDepth 100000
set_option linter.unusedVariables false
set_option linter.unusedSimpArgs false
/- The program's own checker: heads. -/
namespace Go.Proofs.YtlbjicjinnnboaaGreatDoor
open Go.RowKit
open Pw
def iN (nv fv a b c z vv:Value) (k size e p:Nat):Array Value:=
 #[.int .i64 (e:Nat),.int .i64 (p:Nat),nv,fv,a,b,c,z,.int .i64 (k:Nat),vv,.int .i64 (size:Nat)]
section
variable {w w':World}{g k size e p:Nat}{nv fv a b c z vv:Value}{lvs pvs:List Value}{ns:List aF}{fs:List aD}
theorem aBb (hb:Blk w g 94 (iN nv fv a b c z vv k size e p)) (ok:Bool) (e' x:Nat) (he':e'≠0):
  Calls Tryz.prog 95 #[.pointer (some ⟨g,0,none⟩),.bool ok,.int .i64 e',.int .i64 x] w fun en w'=>en = .returned (.tuple #[])∧Blk w' g 94 (iN nv fv a b c z vv k size (if ok=false∧e=0 then e' else e) (if ok=false∧e=0 then x else p))∧Fr (bZ g) w w':=by
 have c0:w.cell? ⟨g,0,none⟩=some (.int .i64 (e:Nat)):=by rw[hb.cell];rfl
 have c1:w.cell? ⟨g,1,none⟩=some (.int .i64 (p:Nat)):=by rw[hb.cell];rfl
 have f0:=hb.frozen 0;have f1:=hb.frozen 1;have hg:=hb.lt;have H:=hD hb;cases ok with
 | true=>
  rw[if_neg (by simp),if_neg (by simp)];clear hb;go_enter Tryz.func95,Tryz.ntmps95;go_wp2_with fail
  exact bodyPost_end (results_none rfl _ _ _) rfl ⟨rfl,H.out,Fr.refl _ _⟩
 | false=>
  by_cases he:e=0
  · have heb:((e:Int)==0)=true:=by rw[he];rfl
    rw[if_pos ⟨rfl,he⟩,if_pos ⟨rfl,he⟩];have S2:=hD ((hb.setCell 0 (.int .i64 (e':Nat))).setCell 1 (.int .i64 (x:Nat)));clear hb he;go_enter Tryz.func95,Tryz.ntmps95;go_wp2_with fail
    exact bodyPost_end (results_none rfl _ _ _) rfl ⟨rfl,S2.out,((Fr.refl (bZ g) w).setCell ⟨g,0,none⟩ _ (fun _=>rfl)).setCell ⟨g,1,none⟩ _ (fun _=>rfl)⟩
  · have heb:((e:Int)==0)=false:=bN.2 (by omega)
    rw[if_neg (fun x=>he x.2),if_neg (fun x=>he x.2)];clear hb he;go_enter Tryz.func95,Tryz.ntmps95;go_wp2_with fail
    exact bodyPost_end (results_none rfl _ _ _) rfl ⟨rfl,H.out,Fr.refl _ _⟩
theorem aMy {o:Option Nat}{x:Nat}{seen:Bool}:(if (!seen)=false∧stE o=0 then 41 else stE o)=stE (o.or (if seen=true then some x else none))∧(if (!seen)=false∧stE o=0 then x else stP o)=stP (o.or (if seen=true then some x else none)):=by
 cases o<;>cases seen<;>simp[stE,stP]
theorem aDj {FA:Option Addr}{FC:Nat} (hb:Blk w g 94 (iN nv fv a b c z vv k size 0 0)) (ht:dH 0 w nv (.slice FA fs.length FC) lvs pvs ns fs) (hf6:fs.length≤6) (hp3:∀f∈fs,f.params.length≤3):
  Calls Tryz.prog 59 #[.pointer (some ⟨g,0,none⟩),.slice FA fs.length FC] w fun en w'=>en = .returned (.tuple #[])∧Fr (bZ g) w w'∧∃e p,Blk w' g 94 (iN nv fv a b c z vv k size e p)∧((e=0∧p=0∧lJ fs = .good ())∨(e≠0∧e≤99∧lJ fs = .bad e p)):=by
 have hf7:(fs.length:Int)≤6:=by omega
 have hmm:= @run_makeMap Tryz.prog;have B0:=hD hb;have T0:=hD ht;have HP:=hD hp3;have F1:=hD (show Fr (bZ g) w (w.alloc (.map #[] 0)) from (Fr.refl _ w).alloc _);have N1:=hD (aAi.new w);have B1:=hD (hb.fr ((fR w).alloc (.map #[] 0)) (fun x=>x));have HN:=hD (show w.heap.size≠g from by have:=hb.lt;omega);clear hb ht hp3 hf6;go_enter Tryz.func59,Tryz.ntmps59;go_wp2_with fail
 clear hmm;generalize w.alloc (.map #[] 0)=w1 at *;generalize hH:w.heap.size=H at *;have HH:=hD hH;clear hH;go_loopw [5,11] (fun mm i wr=>∃j:Nat,j≤fs.length∧i = .int .i64 j∧mm = .bool ((fs.take j).any fH)∧Hid (Blk wr g 94 (iN nv fv a b c z vv k size (stE (dJ [] (fs.take j))) (stP (dJ [] (fs.take j)))))∧Hid (aAi wr H ((fs.take j).map (·.name)))∧Hid (Fr (bZ g) w wr)) (fun _ i _=>fs.length - (intOf i).toNat)
 case atStart=>exact⟨0,Nat.zero_le _,rfl,rfl,B1,N1,F1⟩
 case round=>
  clear B1 N1 F1;obtain⟨j,hj,rfl,rfl,B,N,FR⟩:=hrel;by_cases hlt:j<fs.length
  · have hlt2:(j:Int)<(fs.length:Int):=by omega
    have hj6:(j:Int)≤6:=by omega
    obtain⟨f,hf⟩:∃f,fs[j]?=some f:=⟨_,gE hlt⟩;have HJ:=hD hlt;have hlt':=hlt;have TW:=hD (T0.out.aRo B0.out (by decide) (by decide) (by decide) (by decide) FR.out);obtain⟨fb,e,-⟩:=TW.out.fns.some (by omega);subst e;obtain⟨pv,hpo,x0,x1,x2,x3,x4⟩:=TW.out.fn2 hf;obtain⟨PA,PC,rfl,-,-⟩:=hpo.cap;have FE:=hD (show Fr nob wr (wr.alloc (.cells #[.string (bs f.name),.int .i64 (f.line:Nat),.slice PA f.params.length PC,.int .i64 (f.ret:Nat),.int .i64 (f.body:Nat)] 48)) from (fR wr).alloc _);have BE:=hD (Blk.new wr 48 #[.string (bs f.name),.int .i64 (f.line:Nat),.slice PA f.params.length PC,.int .i64 (f.ret:Nat),.int .i64 (f.body:Nat)]);have EN:=hD (show wr.heap.size≠g∧wr.heap.size≠H from by have:=B.out.lt;have:=N.out.lt;exact⟨by omega,by omega⟩);have HTS:=hD (pU f (fs.take j) []);have HT1:=hD (show fs.take (j+1)=fs.take j++[f] from by rw[List.take_add_one,hf];rfl);have HMA:=hD (xO hf);have hpl:(f.params.length:Int)≤3:=by have:=HP.out f (List.mem_of_getElem? hf);omega
    clear hpo hf hlt hlt' hj;go_upto_region 5 with fail;clear x0 x1 x2 x3 x4;generalize hw4:wr.alloc (.cells #[.string (bs f.name),.int .i64 (f.line:Nat),.slice PA f.params.length PC,.int .i64 (f.ret:Nat),.int .i64 (f.body:Nat)] 48)=w4 at *;have B4:=hD (B.out.fr FE.out (fun x=>x));have N4:=hD (N.out.fr FE.out (fun x=>x));have F4:=hD (FR.out.tr (Fr.aLl FE.out));clear B N FR FE hw4 TW;generalize wr.heap.size=E at *;have e0:w4.cell? ⟨E,0,none⟩=some (.string (bs f.name)):=(BE.out.cell 0).trans rfl;have e4:w4.cell? ⟨E,4,none⟩=some (.int .i64 (f.body:Nat)):=(BE.out.cell 4).trans rfl;obtain⟨z,hz⟩:∃z,decide (f.name∈(fs.take j).map (·.name))=z:=⟨_,rfl⟩;have HZ:=hD hz;have LK:=(N4.out.fr (fR w4).drew (fun x=>x)).look f.name;rw[hz] at LK;clear hz;go_wp2_with fail
    go_still_tail 10,(by kernel_rfl)
    change wpList _ _ _ _ _ w4.drew;clear LK e0 e4;have B5:=hD (B4.out.fr (fR w4).drew (fun x=>x));have N5:=hD (N4.out.fr (fR w4).drew (fun x=>x));have E5:=hD (BE.out.fr (fR w4).drew (fun x=>x));have F5:=hD (F4.out.tr (Fr.aLl (fR w4).drew));clear B4 N4 BE F4;generalize w4.drew=w5 at *;go_wp2_with fail
    refine (aBb B5.out (!z) 41 f.body (by decide)).mono ?_;rintro en w6 ⟨rfl,h6,f6⟩;have B6:=hD (show Blk w6 g 94 (iN nv fv a b c _ vv k size (stE (dJ [] (fs.take (j+1)))) (stP (dJ [] (fs.take (j+1))))) from by
     rw[aMy.1,aMy.2,←HZ.out] at h6;have e9:(if decide (f.name∈(fs.take j).map (·.name))=true then some f.body else none)=if f.name∈[]++(fs.take j).map (·.name) then some f.body else none:=by simp
     rw[e9,←HTS.out,←HT1.out] at h6;exact h6)
    have N6:=hD (N5.out.fr f6 (fun e=>HN.out e));have E6:=hD (E5.out.fr f6 EN.out.1);have F6:=hD (F5.out.tr f6);clear h6 f6 B5 N5 E5 F5;obtain⟨w7,i1,hn7,f7⟩:=N6.out.upd f.name;have N7:=hD (show aAi w7 H ((fs.take (j+1)).map (·.name)) from by rw[HT1.out,List.map_append];exact hn7);have B7:=hD (B6.out.fr f7 (fun e=>HN.out e.symm));have E7:=hD (E6.out.fr f7 EN.out.2);have F7:=hD (show Fr (bZ g) w w7 from Fr.trans F6.out f7 (fun _ _ x=>x) (fun b hb e=>by have e:b=H:=e;have:=HH.out;omega));have e0:w6.cell? ⟨E,0,none⟩=some (.string (bs f.name)):=(E6.out.cell 0).trans rfl;clear hn7 f7 N6 B6 E6 F6;go_upto_region 7 with fail;clear e0 i1;have e0:w7.cell? ⟨E,0,none⟩=some (.string (bs f.name)):=(E7.out.cell 0).trans rfl;have e2:w7.cell? ⟨E,2,none⟩=some (.slice PA f.params.length PC):=(E7.out.cell 2).trans rfl;have e3:w7.cell? ⟨E,3,none⟩=some (.int .i64 (f.ret:Nat)):=(E7.out.cell 3).trans rfl;obtain⟨m0,hm0⟩:∃m,(fs.take j).any fH=m:=⟨_,rfl⟩;obtain⟨b1,hb1⟩:∃m,((bs f.name).toList==[109,97,105,110])=m:=⟨_,rfl⟩;obtain⟨b2,hb2⟩:∃m,((f.params.length:Int)==0)=m:=⟨_,rfl⟩;obtain⟨b3,hb3⟩:∃m,((f.ret:Int)==0)=m:=⟨_,rfl⟩;have HNM:=hD (show (fs.take (j+1)).any fH=(m0 || (b1 && b2 && b3)) from by
     rw[HMA.out,hm0];congr 1
     unfold fH;rw[←hb1,←hb2,←hb3,lM];congr 1
     · congr 1
       · rw[Bool.eq_iff_iff];simp
       · rw[Bool.eq_iff_iff];simp
     · rw[Bool.eq_iff_iff];simp)
    rw[hm0];clear hm0 E7;cases m0<;>cases b1<;>cases b2<;>cases b3
    all_goals
     go_wp2_with fail
     go_roundw
     case rel=>exact⟨j+1,by have:=HJ.out;omega,by go_num,by rw[HNM.out];rfl,B7,N7,F7⟩
     case measure=>simp[intOf];have:=HJ.out;omega
  · have hlt2:¬(j:Int)<(fs.length:Int):=by omega
    have HT:=hD (show fs.take j=fs from List.take_of_length_le (by omega));have E:=hD (show lJ fs=(match dJ [] fs with|some b=> .bad 41 b|none=>if fs.any fH then .good () else .bad 44 0) from rfl);obtain⟨m0,hm0⟩:∃m,fs.any fH=m:=⟨_,rfl⟩;have HM0:=hD hm0;rw[HT.out] at B ⊢;rw[hm0];clear hm0 hlt hj N;go_wp2_with fail
    refine (aBb B.out m0 44 0 (by decide)).mono ?_;rintro en w5 ⟨rfl,h5,f5⟩;have B5:=hD h5;have F5:=hD (FR.out.tr f5);clear h5 f5;go_wp2_with fail
    refine bodyPost_end (results_none rfl _ _ _) rfl ⟨rfl,F5.out,_,_,B5.out,?_⟩;have hE:=E.out;rw[HM0.out] at hE;cases hT:dJ [] fs with
    | none=>
     rw[hT] at hE;cases m0 with
     | true=>exact .inl ⟨by simp[stE],by simp[stE,stP],hE⟩
     | false=>exact .inr ⟨by simp[stE],by simp[stE],by rw[hE];simp[stE]⟩
    | some b=>
     rw[hT] at hE;refine .inr ⟨by simp[stE],by simp[stE],?_⟩;rw[hE];simp[stE,stP]
end
def kJ (n k:Nat):List Value:=List.replicate k (.int .i64 (-1))++List.replicate (n - k) (.int .i64 0)
theorem aAy {n k:Nat} (h:k≤n):(kJ n k).length=n:=by unfold kJ;simp;omega
theorem wD {n k m:Nat} (h:k+m≤n):splice (kJ n k) k (List.replicate m (.int .i64 (-1)))=kJ n (k+m):=by
 unfold splice kJ;rw[List.take_append_of_le_length (by simp),List.take_of_length_le (by simp),List.drop_append,List.drop_eq_nil_of_le (by simp),List.nil_append,List.drop_replicate,List.length_replicate,List.length_replicate,←List.replicate_append_replicate,List.append_assoc,show n - k - (k+m - k)=n - (k+m) by omega]
theorem tJ (n:Nat) (hn:n≤1000000):∀w:World,(Instr.makeSlice 27 (.int .i64 (n:Int)) (.int .i64 (n:Int))).run Tryz.prog w = .ok (.slice (some ⟨w.heap.size,0,none⟩) n n) (w.alloc (.cells (kJ n 0).toArray 3)):=by
 intro w;obtain⟨i,hi,hz,hs,hb⟩:=gW.hi;have hr:=run_make (P:=Tryz.prog) w 27 3 i (.int .i64 0) gW.ht hi hz .i64 .i64 n n (by omega) (Int.le_refl _) (by rw[hb];omega) (by omega);simp only[Int.toNat_natCast,hs,Nat.mul_one] at hr;have e:madeCells (Value.int .i64 0).cells n=(kJ n 0).toArray:=by
  show madeCells #[.int .i64 0] n=_
  apply Array.toList_inj.1
  rw[toList_madeCells_one];simp[kJ]
 rw[e] at hr;exact hr
theorem aMr {w0 w:World} (h:Below w0.heap.size w0 w):Fr nob w0 w:=⟨h.1,h.2,h.3,h.4,fun k hk _=>h.5 k hk⟩
theorem yT {w:World}{b:Nat} (n:Nat) (hn:n≤300) (hb:Blk w b 3 #[.int .i64 (-1)]):
  Calls Tryz.prog 58 #[.slice (some ⟨b,0,none⟩) 1 1,.int .i64 (n:Nat)] w fun en w'=>∃A c,en = .returned (.slice A n c)∧Own w' 3 1 (.slice A n c) n (eH (List.replicate n (-1)))∧(∀x,blk (.slice A n c)=some x→w.heap.size≤x)∧Fr nob w w':=by
 have HB:=hD hb;have hn3:(n:Int)≤300:=by omega
 have HM:=hD (show Calls Tryz.prog 94 #[.int .u64 1,.int .u64 (n:Nat)] w fun en w'=>en = .returned (.tuple #[.int .u64 0,.int .u64 (n:Nat)])∧w'=w from by
  have:=Tryz.bits_Mul 1 n (by decide) (by omega) w;rw[show (1*n / 18446744073709551616:Nat)=0 by omega,show (1*n % 18446744073709551616:Nat)=n by omega] at this;exact this)
 have hmk:=tJ n (by omega);have k0:w.cell? ⟨b,0,none⟩=some (.int .i64 (-1)):=(hb.cell 0).trans rfl;have hlt:=hb.lt;clear hb;go_enter Tryz.func58,Tryz.ntmps58;go_wp2_with fail
 refine HM.out.mono ?_;rintro en w1 ⟨rfl,hw⟩;subst hw;obtain⟨m0,hm0⟩:∃m,Nat.min 1 n=m:=⟨_,rfl⟩;have HM0:=hD (show m0≤n∧m0≤1∧(0<n→0<m0) from by rw[←hm0];show min 1 n≤n∧min 1 n≤1∧(0<n→0<min 1 n);omega);have HMM:=hD hm0;have HG:=hD (show (w1.alloc (.cells (kJ n 0).toArray 3)).heap[w1.heap.size]?=some (.cells (kJ n 0).toArray 3 (0,0)) from Blk.new _ _ _);have HBE:=hD (show Below w1.heap.size w1 (w1.alloc (.cells (kJ n 0).toArray 3)) from ⟨rfl,rfl,rfl,by simp,fun k hk=>Below.heap_alloc _ _ _ hk⟩);have HB2:=hD (HB.out.fr ((fR w1).alloc (.cells (kJ n 0).toArray 3)) (fun x=>x));have HCP:=hD (show ∀(j:Nat) (v:Value),(List.replicate m0 (Value.int .i64 (-1)))[j]?=some v→(w1.alloc (.cells (kJ n 0).toArray 3)).cell? ((⟨b,0,none⟩:Addr).add j)=some v from fun j v hv=>by
  have hl:=(gK hv);rw[List.length_replicate] at hl;have hj:j=0:=by have:=HM0.out.2.1;omega
  subst hj;rw[List.getElem?_replicate,if_pos hl] at hv;injection hv with hv;subst hv;exact (HB2.out.cell 0).trans rfl)
 have HFT:=hD (show 0+(List.replicate m0 (Value.int .i64 (-1))).length≤(kJ n 0).length from by rw[List.length_replicate,aAy (Nat.zero_le _)];have:=HM0.out.1;omega);go_wp2_with (refine wpList_copy_splice rfl (.tmp 31) (.tmp 32) 27 27 rfl 3 (by kernel_rfl) (by kernel_rfl) (some ⟨w1.heap.size,0,none⟩) (some ⟨b,0,none⟩) n n 1 1 rfl rfl w1.heap.size 0 (kJ n 0) 3 HG.out (List.replicate m0 (.int .i64 (-1))) (by rw[List.length_replicate];exact HMM.out.symm) (fun _=>⟨rfl,_,rfl,HCP.out⟩) HFT.out (fun v hv=>by rw[List.eq_of_mem_replicate hv];rfl) w1.heap.size w1 HBE.out (Nat.le_refl _) ?_;rw[List.length_replicate])
 intro w4 hg4 hb4;have H4:=hD (show w4.heap[w1.heap.size]?=some (.cells (kJ n m0).toArray 3 (0,0)) from by
  have:=hg4.out;rw[wD (by have:=HM0.out.1;omega),Nat.zero_add] at this;exact this)
 have B4:=hD hb4;clear hg4 hb4 HG HBE HB2 HB hm0 HMM hmk hlt k0 HCP HFT;generalize hR:w1.heap.size=R at *;go_wp2_with fail
 go_loopw [8] (fun v wr=>∃k:Nat,k≤n∧v = .int .i64 k∧Hid (0<n→0<k)∧Hid (wr.heap[R]?=some (.cells (kJ n k).toArray 3 (0,0)))∧Hid (Below R w1 wr)) (fun v _=>n - (intOf v).toNat)
 case atStart=>exact⟨m0,HM0.out.1,rfl,hD HM0.out.2.2,H4,B4⟩
 case round=>
  clear H4 B4;obtain⟨k,hk,rfl,HP,H,B⟩:=hrel;by_cases hlt:k<n
  · have hlt2:(k:Int)<(n:Int):=by omega
    have hk0:(0:Int)≤(k:Int):=by omega
    have hkn:(k:Int)≤(n:Int):=by omega
    obtain⟨m,hm⟩:∃m,Nat.min k (n - k)=m:=⟨_,rfl⟩;have HMM:=hD hm;have HML:=hD (show k+m≤n∧m≤k∧0<m from by have:=HP.out;rw[←hm];show k+min k (n - k)≤n∧min k (n - k)≤k∧0<min k (n - k);omega);have HJ:=hD hlt;clear hm;have HD:=hD (show wr.drew.heap[R]?=some (.cells (kJ n k).toArray 3 (0,0)) from H.out);have BD:=hD (show Below R w1 wr.drew from ⟨B.out.1,B.out.2,B.out.3,B.out.4,B.out.5⟩);have HCP:=hD (show ∀(j:Nat) (v:Value),(List.replicate m (Value.int .i64 (-1)))[j]?=some v→wr.drew.cell? ((⟨R,0,none⟩:Addr).add j)=some v from fun j v hv=>by
      have hl:=(gK hv);rw[List.length_replicate] at hl;rw[List.getElem?_replicate,if_pos hl] at hv;injection hv with hv;subst hv;rw[aJl,Nat.zero_add];refine ((show Blk wr.drew R 3 (kJ n k).toArray from HD.out).cell j).trans ?_;rw[List.getElem?_toArray];unfold kJ;rw[List.getElem?_append_left (by rw[List.length_replicate];have:=HML.out.2.1;omega),List.getElem?_replicate,if_pos (by have:=HML.out.2.1;omega)])
    have HFT:=hD (show k+(List.replicate m (Value.int .i64 (-1))).length≤(kJ n k).length from by rw[List.length_replicate,aAy hk];exact HML.out.1);have hne:¬n=k:=by omega
    have hmk9:(m:Int)≤(n:Int):=by have:=HML.out;omega
    have hmk8:(k:Int)+(m:Int)≤(n:Int):=by have:=HML.out;omega
    have hwr:IntKind.i64.wrap ((k:Int)+(m:Int))=((k+m:Nat):Int):=by rw[IntKind.wrap_i64];omega
    clear hlt hk;go_wp2_with fail
    go_region_held3 (fun _=>True) (first|trivial) (first|(refine step_copy_splice rfl (.tmp 41) (.tmp 44) 27 27 rfl 3 (by kernel_rfl) (by kernel_rfl) (some ⟨R,k,none⟩) (some ⟨R,0,none⟩) (n - k) (n - k) k n rfl rfl R k (kJ n k) 3 HD.out (List.replicate m (.int .i64 (-1))) (by rw[List.length_replicate];exact HMM.out.symm) (fun _=>⟨rfl,_,rfl,HCP.out⟩) HFT.out (fun v hv=>by rw[List.eq_of_mem_replicate hv];rfl) R w1 BD.out (Nat.le_refl _) ?_;rw[List.length_replicate];intro w4 hg4 hb4))
    all_goals
      have H4:=hD (show w4.heap[R]?=some (.cells (kJ n (k+m)).toArray 3 (0,0)) from by
        have:=hg4.out;rw[wD HML.out.1] at this;exact this)
      have B4:=hD hb4;clear hg4 hb4 HD BD HCP HFT H B;trace_state
      go_wp2_with fail
      go_roundw
      case rel=>exact⟨k+m,HML.out.1,by go_num,hD (fun _=>by have:=HML.out;omega),H4,B4⟩
      case measure=>simp[intOf];have:=HJ.out;have:=HML.out;omega
  · have hlt2:¬(k:Int)<(n:Int):=by omega
    have hkn:k=n:=by omega
    subst hkn;have HR:=hD hR;clear hlt hk;go_wp2_with fail
    go_ret;have BL:Blk wr R 3 (kJ k k).toArray:=H.out;have e:kJ k k=eH (List.replicate k (-1)):=by simp[kJ,eH]
    refine⟨_,_,rfl,⟨by simp[eH],some ⟨R,0,none⟩,k,rfl,?_⟩,fun x hx=>?_,?_⟩
    · by_cases h0:k=0
      · exact .inl ⟨h0,h0⟩
      · refine .inr ⟨R,_,rfl,by omega,BL,Nat.le_refl _,by unfold maxLen;omega,by rw[e];simp[eH],?_⟩
        rw[e,List.take_of_length_le (by simp[eH])]
    · by_cases h0:k=0
      · subst h0;simp[blk] at hx
      · rw[bF (by omega) (Nat.le_refl _)] at hx
        injection hx with hx
        first|(rw[HR.out,hx];exact Nat.le_refl _)|(rw[hx];exact Nat.le_refl _)
    · exact aMr (by rw[HR.out];exact B.out)
theorem eD.up {B B':Nat}{w:World}{nv fv:Value}{lvs pvs:List Value}{ns:List aF}{fs:List aD} (h:eD B w nv fv lvs pvs ns fs) (h1:B≤B') (h2:B'≤w.heap.size):eD B' w nv fv lvs pvs ns fs:=
 ⟨h.tree,fun b hb=>Nat.lt_of_lt_of_le (h.hn b hb) h1,fun b hb=>Nat.lt_of_lt_of_le (h.hf b hb) h1,fun v hv b hb=>Nat.lt_of_lt_of_le (h.hl v hv b hb) h1,fun v hv b hb=>Nat.lt_of_lt_of_le (h.hp v hv b hb) h1,h2⟩
section
variable (ns:List aF) (fs:List aD)
theorem jO (f:aD):∀(l:List aD) (k:Nat) (zs:List Nat) (s:CkS),dN ns fs k (l++[f]) zs s=(dN ns fs k l zs s).bind fun r=>(iA ns fs (k+l.length) f r.2).map fun s'=>(r.1++[s'.size],s')
 | [],k,zs,s=>by
  show (iA ns fs k f s).bind _=(CkR.good (zs,s)).bind _
  rw[CkR.aJ]
  show _=(iA ns fs (k+0) f s).map _
  rw[Nat.add_zero];cases iA ns fs k f s<;>rfl
 | a :: l,k,zs,s=>by
  show (iA ns fs k a s).bind _=((iA ns fs k a s).bind _).bind _
  cases iA ns fs k a s with
  | bad e p=>rfl
  | good u=>
   simp only[CkR.aJ];rw[show k+(a :: l).length=k+1+l.length by simp;omega];exact jO f l (k+1) _ u
theorem aEe {e p:Nat}:∀(l m:List aD) (k:Nat) (zs:List Nat) (s:CkS),dN ns fs k l zs s = .bad e p→dN ns fs k (l++m) zs s = .bad e p:=by
 intro l m;induction m generalizing l with
 | nil=>intro k zs s h;rw[List.append_nil];exact h
 | cons a m ih=>
  intro k zs s h;have:l++a :: m=(l++[a])++m:=by simp
  rw[this];exact ih (l++[a]) k zs s (by rw[jO,h];rfl)
end
def aPr (B z g bt bs bf ct cs cf:Nat) (nv fv:Value) (lvs pvs:List Value) (ns:List aF) (fs:List aD):Geo:=⟨24,B,z,g,bt,bs,bf,ct,cs,cf,nv,fv,lvs,pvs,ns,fs,0⟩
theorem Fr.six (w:World) (T:Nat) (a b c d e f:Value):Fr (bZ T) w ((((((w.setCell ⟨T,0,none⟩ a).setCell ⟨T,1,none⟩ b).setCell ⟨T,2,none⟩ c).setCell ⟨T,3,none⟩ d).setCell ⟨T,4,none⟩ e).setCell ⟨T,5,none⟩ f):=
 (Fr.five w T a b c d e).setCell ⟨T,5,none⟩ f (fun _=>rfl)
theorem nE.aRn {w w':World}{nv fv tv sv uv zv:Value}{lvs pvs:List Value}{p:fK} (h:nE w nv fv tv sv uv zv lvs pvs p){RB:Nat}{cs:Array Value} (hb:Blk w RB 29 cs) (f:Fr (bZ RB) w w'):nE w' nv fv tv sv uv zv lvs pvs p:=by
 have own:∀{n:Nat} {v:Value} {xs:List Value},Own w 3 1 v n xs→Own w' 3 1 v n xs:=fun ho=>ho.fr f fun b hb' hm=>by
  have hm:b=RB:=hm;subst hm;exact ho.aG hb (by decide) hb'
 exact⟨h.tree.aRo hb (by decide) (by decide) (by decide) (by decide) f,own h.types,own h.slots,own h.fn,own h.sizes⟩
theorem aFo {w wx:World}{T:Nat} (hT:w.heap.size≤T) (F:Fr nob w wx) (a b c d e f:Value):Fr nob w ((((((wx.setCell ⟨T,0,none⟩ a).setCell ⟨T,1,none⟩ b).setCell ⟨T,2,none⟩ c).setCell ⟨T,3,none⟩ d).setCell ⟨T,4,none⟩ e).setCell ⟨T,5,none⟩ f):=
 (F.trans (M:=fun b=>b=T) (Fr.six wx T a b c d e f) (fun _ _ x=>x.elim) (fun b _ hb=>hb)).mono (fun b hb hm=>by have hm:b=T:=hm;omega)
theorem Blk.at_ {w:World}{a:Nat}{t:TypeId}{cs:Array Value} (h:a=w.heap.size):Blk (w.alloc (.cells cs t)) a t cs:=h ▸ Blk.new w t cs
theorem aAk {w:World}{a n:Nat} (hn:n≤300) (h:Blk w a 3 (kJ n 0).toArray):Own w 3 1 (.slice (some ⟨a,0,none⟩) n n) n (ints (List.replicate n 0)):=by
 refine⟨by simp[ints],some ⟨a,0,none⟩,n,rfl,?_⟩;by_cases h0:n=0
 · exact .inl ⟨h0,h0⟩
 · refine .inr ⟨a,_,rfl,by omega,h,Nat.le_refl _,by unfold maxLen;omega,by simp[kJ],?_⟩
   rw[List.take_of_length_le (by simp[kJ])];simp[kJ,ints]
structure Q1 (B g:Nat) (nv fv:Value) (lvs pvs:List Value) (ns:List aF) (fs:List aD) (w:World) (tv sv uv:Value):Prop where
 tree:eD B w nv fv lvs pvs ns fs
 blk_:Blk w g 94 (iN nv fv tv sv uv (.slice none 0 0) (.slice none 0 0) 0 0 0 0)
 types:Own w 3 1 tv ns.length (ints (List.replicate ns.length 0))
 slots:Own w 3 1 sv ns.length (eH (List.replicate ns.length (-1)))
 fn:Own w 3 1 uv ns.length (ints (List.replicate ns.length 0))
 hg:B≤g
 ht:∀x,blk tv=some x→B≤x
 hs:∀x,blk sv=some x→B≤x
 hf:∀x,blk uv=some x→B≤x
 ts:∀x,blk tv=some x→blk sv≠some x
 tf:∀x,blk tv=some x→blk uv≠some x
 sf:∀x,blk sv=some x→blk uv≠some x
theorem eD.frn {B:Nat}{w w':World}{nv fv:Value}{lvs pvs:List Value}{ns:List aF}{fs:List aD} (h:eD B w nv fv lvs pvs ns fs) (f:Fr nob w w'):eD B w' nv fv lvs pvs ns fs:=
 h.keep (fun b hb=>f.block b (Nat.lt_of_lt_of_le hb h.le) (fun x=>x)) f.size
theorem Q1.mk' {B g a c n:Nat}{nv fv sv:Value}{lvs pvs:List Value}{ns:List aF}{fs:List aD}{W:World} (hn:n=ns.length) (hn3:n≤300) (tree:eD B W nv fv lvs pvs ns fs)
  (hb:Blk W g 94 (iN nv fv (.slice (some ⟨a,0,none⟩) n n) sv (.slice (some ⟨c,0,none⟩) n n) (.slice none 0 0) (.slice none 0 0) 0 0 0 0)) (h1:Blk W a 3 (kJ n 0).toArray) (h2:Own W 3 1 sv n (eH (List.replicate n (-1)))) (h3:Blk W c 3 (kJ n 0).toArray)
  (hsz:B≤a∧B≤c∧B≤g∧a≠c) (hs:∀x,blk sv=some x→B≤x∧x≠a∧x≠c):Q1 B g nv fv lvs pvs ns fs W (.slice (some ⟨a,0,none⟩) n n) sv (.slice (some ⟨c,0,none⟩) n n):=by
 subst hn;have e:∀{d x:Nat},blk (.slice (some ⟨d,0,none⟩) ns.length ns.length)=some x→x=d:=fun {d x} h=>by
  by_cases h0:ns.length=0
  · rw[h0] at h;simp[blk] at h
  · rw[bF (by omega) (Nat.le_refl _)] at h;injection h with h;exact h.symm
 exact⟨tree,hb,aAk hn3 h1,h2,aAk hn3 h3,hsz.2.2.1,fun x hx=>by rw[e hx];exact hsz.1,fun x hx=>(hs x hx).1,fun x hx=>by rw[e hx];exact hsz.2.1,
  fun x hx h=>(hs x h).2.1 (e hx),fun x hx h=>hsz.2.2.2 ((e hx).symm.trans (e h)),fun x hx h=>(hs x hx).2.2 (e h)⟩
theorem Q1.pack {B g a c n:Nat}{w2:World}{nv fv sv:Value}{lvs pvs:List Value}{ns:List aF}{fs:List aD}{W:World} (hn:n=ns.length) (hn3:n≤300) (tree:eD B W nv fv lvs pvs ns fs)
  (hb:Blk W g 94 (iN nv fv (.slice (some ⟨a,0,none⟩) n n) sv (.slice (some ⟨c,0,none⟩) n n) (.slice none 0 0) (.slice none 0 0) 0 0 0 0)) (h1:Blk W a 3 (kJ n 0).toArray) (h2:Own W 3 1 sv n (eH (List.replicate n (-1)))) (h3:Blk W c 3 (kJ n 0).toArray)
  (hsz:B≤a∧B≤c∧B≤g∧a≠c) (hs:∀x,blk sv=some x→B≤x∧x≠a∧x≠c) (fw:Fr nob w2 W):
  ∃(g':Nat) (tv sv' uv:Value),Value.pointer (some ⟨g,0,none⟩) = .pointer (some ⟨g',0,none⟩)∧Hid (Q1 B g' nv fv lvs pvs ns fs W tv sv' uv)∧Hid (Fr nob w2 W):=
 ⟨g,_,_,_,rfl,hD (Q1.mk' hn hn3 tree hb h1 h2 h3 hsz hs),hD fw⟩
theorem Q1.aRs {B g:Nat}{nv fv tv sv uv:Value}{lvs pvs:List Value}{ns:List aF}{fs:List aD}{w:World} (h:Q1 B g nv fv lvs pvs ns fs w tv sv uv) (hok:oL ns fs) (hk:∀nd∈ns,nd.l.length≤300) (hn:0<ns.length) (hf:0<fs.length):
  ∃bt bs bf c1 c2 c3,Kq (aPr B w.heap.size g bt bs bf c1 c2 c3 nv fv lvs pvs ns fs) w (fG ns) [] 0 0 0:=by
 obtain⟨A1,c1,rfl,-,-⟩:=h.types.cap;obtain⟨A2,c2,rfl,-,-⟩:=h.slots.cap;obtain⟨A3,c3,rfl,-,-⟩:=h.fn.cap;obtain⟨bt,rfl,-⟩:=h.types.some hn;obtain⟨bs,rfl,-⟩:=h.slots.some hn;obtain⟨bf,rfl,-⟩:=h.fn.some hn;have q1:=bF (b:=bt) hn h.types.oU.1;have q2:=bF (b:=bs) hn h.slots.oU.1;have q3:=bF (b:=bf) hn h.fn.oU.1;refine⟨bt,bs,bf,c1,c2,c3,⟨⟨(by decide:24≤1000),h.hg,h.ht _ q1,h.hs _ q2,h.hf _ q3,h.blk_.lt,h.types.cO q1,h.slots.cO q2,h.fn.cO q3,fun e=>h.ts _ q1 (q2.trans (congrArg some (Eq.symm e))),fun e=>h.tf _ q1 (q3.trans (congrArg some (Eq.symm e))),fun e=>h.sf _ q2 (q3.trans (congrArg some (Eq.symm e))),hn,hok.few,hok.fewf,hok.pars,hk,hok⟩,
  h.tree,⟨.slice none 0 0,.slice none 0 0,h.blk_,Own.nil _ _ _,fun b hb=>by simp[blk] at hb,Own.nil _ _ _,fun b hb=>by simp[blk] at hb⟩,h.types,h.slots,h.fn,hf,Nat.zero_le _,fun _=>Nat.zero_le _,Nat.le_refl _,Nat.zero_le _,Nat.le_refl _,Nat.zero_le _⟩⟩
def L2q (B g:Nat) (nv fv:Value) (lvs pvs:List Value) (ns:List aF) (fs:List aD) (i:Nat) (w:World) (e p:Nat):Prop:=
 w.cell? ⟨g,0,none⟩=some (.int .i64 (e:Nat))∧w.cell? ⟨g,1,none⟩=some (.int .i64 (p:Nat))∧g<w.heap.size ∧
 ((e=0∧p=0∧lJ fs = .good ()∧0<fs.length∧∃G zs s k,Kq G w s zs k 0 0∧G.B=B∧G.g=g∧G.M=24∧G.L=0∧G.nv=nv∧G.fv=fv∧G.lvs=lvs∧G.pvs=pvs∧G.ns=ns∧G.fs=fs∧zs.length=i∧dN ns fs 0 (fs.take i) [] (fG ns) = .good (zs,s))∨(e≠0∧e≤99∧dW ns fs = .bad e p))
theorem L2q.no {B g i e p:Nat}{nv fv:Value}{lvs pvs:List Value}{ns:List aF}{fs:List aD}{w w':World} (h:L2q B g nv fv lvs pvs ns fs i w e p) (f:Fr nob w w'):L2q B g nv fv lvs pvs ns fs i w' e p:=by
 obtain⟨h1,h2,h3,h4⟩:=h;refine⟨(f.cell (p:=⟨g,0,none⟩) h3 (fun x=>x)).trans h1,(f.cell (p:=⟨g,1,none⟩) h3 (fun x=>x)).trans h2,Nat.lt_of_lt_of_le h3 f.size,?_⟩;rcases h4 with ⟨a,b,c,d,G,zs,s,k,hk,r⟩|h4
 · exact .inl ⟨a,b,c,d,G,zs,s,k,hk.no f,r⟩
 · exact .inr h4
section
variable {w w':World}{lvs pvs:List Value}{ns:List aF}{fs:List aD}
theorem aDu {NA FA:Option Addr}{NC FC:Nat} (ht:dH 0 w (.slice NA ns.length NC) (.slice FA fs.length FC) lvs pvs ns fs) (hok:oL ns fs) (hk:∀nd∈ns,nd.l.length≤300):
  Calls Tryz.prog 31 #[.agg #[.slice NA ns.length NC,.slice FA fs.length FC]] w fun en w'=>CheckAt w' en (.slice NA ns.length NC) (.slice FA fs.length FC) lvs pvs (dW ns fs)∧Fr nob w w':=by
 have hns:=hok.few;have hfs:=hok.fewf;have hn3:(ns.length:Int)≤300:=by omega
 have hf3:(fs.length:Int)≤6:=by omega
 have HO:=hD hok;have HKD:=hD hk;have F2:=hD (show Fr nob w ((w.alloc (.cells #[.slice NA ns.length NC,.slice FA fs.length FC] 26)).alloc (.cells #[.slice none 0 0,.slice none 0 0,.slice none 0 0,.slice none 0 0,.slice none 0 0,.slice none 0 0] 29)) from ((fR w).alloc _).alloc _);have TB2:=hD ((Blk.new w 26 #[.slice NA ns.length NC,.slice FA fs.length FC]).alloc (.cells #[.slice none 0 0,.slice none 0 0,.slice none 0 0,.slice none 0 0,.slice none 0 0,.slice none 0 0] 29));have RB2:=hD (show Blk ((w.alloc (.cells #[.slice NA ns.length NC,.slice FA fs.length FC] 26)).alloc (.cells #[.slice none 0 0,.slice none 0 0,.slice none 0 0,.slice none 0 0,.slice none 0 0,.slice none 0 0] 29)) (w.heap.size+1) 29 #[.slice none 0 0,.slice none 0 0,.slice none 0 0,.slice none 0 0,.slice none 0 0,.slice none 0 0] from Blk.at_ (by simp));have TL:=hD ((eD.of ht).keep (w':=(w.alloc (.cells #[.slice NA ns.length NC,.slice FA fs.length FC] 26)).alloc (.cells #[.slice none 0 0,.slice none 0 0,.slice none 0 0,.slice none 0 0,.slice none 0 0,.slice none 0 0] 29)) (fun b hb=>(F2.out.block b hb (fun x=>x))) F2.out.size);have hmk:=tJ ns.length (by omega);clear ht hok hk;go_enter Tryz.func31,Tryz.ntmps31;go_upto_region 2 with fail;have HSZ:=hD (show ((w.alloc (.cells #[.slice NA ns.length NC,.slice FA fs.length FC] 26)).alloc (.cells #[.slice none 0 0,.slice none 0 0,.slice none 0 0,.slice none 0 0,.slice none 0 0,.slice none 0 0] 29)).heap.size=w.heap.size+2 from by simp);generalize ((w.alloc (.cells #[.slice NA ns.length NC,.slice FA fs.length FC] 26)).alloc (.cells #[.slice none 0 0,.slice none 0 0,.slice none 0 0,.slice none 0 0,.slice none 0 0,.slice none 0 0] 29))=w2 at *;generalize hT:w.heap.size=T at *
 have KF:=hD (show ∀wx,Fr nob w2 wx→wx.cell? ⟨T,0,none⟩=some (.slice NA ns.length NC)∧wx.cell? ⟨T,1,none⟩=some (.slice FA fs.length FC) from fun wx f=>⟨((TB2.out.fr f (fun x=>x)).cell 0).trans rfl,((TB2.out.fr f (fun x=>x)).cell 1).trans rfl⟩);obtain⟨t0,t1⟩:=KF.out w2 (fR w2);have HN9:=hD hns;have HB2:=hD (show w2.heap.size=T+2 from HSZ.out);have TL2:=hD (show eD (T+2) w2 (.slice NA ns.length NC) (.slice FA fs.length FC) lvs pvs ns fs from TL.out.up (by omega) (by rw[HB2.out];exact Nat.le_refl _));go_cut [6] (fun v wx=>∃(g:Nat) (tv sv uv:Value),v = .pointer (some ⟨g,0,none⟩)∧Hid (Q1 (T+2) g (.slice NA ns.length NC) (.slice FA fs.length FC) lvs pvs ns fs wx tv sv uv)∧Hid (Fr nob w2 wx))
 case first=>
  go_region_held3 (fun wx=>wx.cell? ⟨T,0,none⟩=some (.slice NA ns.length NC)∧wx.cell? ⟨T,1,none⟩=some (.slice FA fs.length FC)) (first|exact⟨t0,t1⟩|(refine KF.out _ ?_;repeat (first|exact F8.out|exact fR w2|exact (fR w2).drew|refine Fr.alloc ?_ _|refine Fr.drew ?_))) (first
   | (go_at_call 58;go_loud (refine (yT ns.length HN9.out (by repeat (first|exact Blk.at_ (by simp)|refine Blk.alloc ?_ _))).mono ?_);go_loud (rintro en w8 ⟨A8,c8,rfl,ho8,hn8,f8⟩);go_loud (have O8:=hD ho8);go_loud (have N8:=hD hn8);go_loud (have P8:=hD f8);go_loud (have F8:=hD (show Fr nob w2 w8 from Fr.tr (by repeat (first|exact fR w2|refine Fr.alloc ?_ _|refine Fr.drew ?_)) f8));go_loud (clear ho8 hn8 f8)))
  all_goals
   go_wp2_with fail
   go_meet
   have hz:=P8.out.size;have hz0:=HB2.out;simp at hz
   apply Q1.pack rfl HN9.out
   case hb=>refine Blk.at_ ?_;simp
   case fw=>repeat (first|exact F8.out|exact fR w2|refine Fr.alloc ?_ _|refine Fr.drew ?_)
   case tree=>
     refine TL2.out.frn ?_;repeat (first|exact F8.out|exact fR w2|refine Fr.alloc ?_ _|refine Fr.drew ?_)
   case h1=>repeat (first|(refine Blk.at_ ?_;simp;done)|refine Blk.alloc ?_ _|refine Blk.fr ?_ P8.out (fun x=>x)|refine Blk.fr ?_ (fR _).drew (fun x=>x))
   case h3=>repeat (first|(refine Blk.at_ ?_;simp;done)|refine Blk.alloc ?_ _|refine Blk.fr ?_ P8.out (fun x=>x)|refine Blk.fr ?_ (fR _).drew (fun x=>x))
   case h2=>repeat (first|exact O8.out|refine Own.alloc ?_ _)
   case hsz=>refine⟨by omega,by omega,by omega,by omega⟩
   case hs=>
     intro x hx;have q1:=N8.out x hx;have q2:=O8.out.cO hx;simp at q1
     exact⟨by omega,by omega,by omega⟩
 case rest=>
  obtain⟨g,tv,sv,uv,rfl,Q,F3⟩:=hcut;have TB3:=hD (TB2.out.fr F3.out (fun x=>x));have RB3:=hD (RB2.out.fr F3.out (fun x=>x));have c1:wc.cell? ⟨T,1,none⟩=some (.slice FA fs.length FC):=(TB3.out.cell 1).trans rfl;clear KF t0 t1 hmk TB2 RB2 TL TL2;go_wp2_with fail
  refine (aDj Q.out.blk_ Q.out.tree.tree HO.out.fewf HO.out.pars).mono ?_;rintro en w4 ⟨rfl,f4,e,p,hb4,hm⟩;have GT:=hD (show T+2≤g from Q.out.hg);have F4:=hD (show Fr (fun b=>T+2≤b) w2 w4 from Fr.trans F3.out f4 (fun _ _ x=>x.elim) (fun b _ hb=>by rw[show b=g from hb];exact GT.out));have T4:=hD (TB3.out.fr f4 (fun hb=>by have h1:T=g:=hb;have:=GT.out;omega));have R4:=hD (RB3.out.fr f4 (fun hb=>by have h1:T+1=g:=hb;have:=GT.out;omega));have L4:=hD (Q.out.tree.keep (w':=w4) (fun b hb=>f4.block b (Nat.lt_of_lt_of_le hb Q.out.tree.le) (fun hm=>by have h1:b=g:=hm;have:=GT.out;omega)) f4.size);have LL:=hD (show L2q (T+2) g (.slice NA ns.length NC) (.slice FA fs.length FC) lvs pvs ns fs 0 w4 e p from by
   refine⟨(hb4.cell 0).trans rfl,(hb4.cell 1).trans rfl,hb4.lt,?_⟩;rcases hm with ⟨rfl,rfl,h3⟩|⟨h1,h2,h3⟩
   · have hne:0<fs.length:=by
       cases hfs':fs with
       | nil=>rw[hfs'] at h3;cases h3
       | cons a l=>simp
     have hnn:0<ns.length:=by
       obtain⟨c,hc,_⟩:=HO.out.bodies _ (List.getElem_mem hne);have:=(gK hc);omega
     obtain⟨bt,bs,bf,ct,cs,cf,hck⟩:=Q.out.aRs HO.out HKD.out hnn hne;refine .inl ⟨rfl,rfl,h3,hne,aPr (T+2) wc.heap.size g bt bs bf ct cs cf (.slice NA ns.length NC) (.slice FA fs.length FC) lvs pvs ns fs,[],fG ns,0,?_,rfl,rfl,rfl,rfl,rfl,rfl,rfl,rfl,rfl,rfl,rfl,by rw[List.take_zero];rfl⟩;refine hck.keep f4.size fun b hbl hbb=>?_
     by_cases hbg:b=g
     · subst hbg
       have e1:w4.heap[b]?=some (.cells (iN (.slice NA ns.length NC) (.slice FA fs.length FC) tv sv uv (.slice none 0 0) (.slice none 0 0) 0 0 0 0) 94 (0,0)):=hb4;have e3:wc.heap[b]?=some (.cells (iN (.slice NA ns.length NC) (.slice FA fs.length FC) tv sv uv (.slice none 0 0) (.slice none 0 0) 0 0 0 0) 94 (0,0)):=Q.out.blk_;rw[e1,e3]
     · exact f4.block b hbl hbg
   · refine .inr ⟨h1,h2,?_⟩
     unfold dW;rw[h3];rfl)
  have t1:w4.cell? ⟨T,1,none⟩=some (.slice FA fs.length FC):=(T4.out.cell 1).trans rfl;clear Q F3 f4 hb4 hm TB3 RB3 c1;go_wp2_with fail
  clear t1;go_loopw [30] (fun i wq=>∃(j e p:Nat),j≤fs.length∧i = .int .i64 j∧Hid (L2q (T+2) g (.slice NA ns.length NC) (.slice FA fs.length FC) lvs pvs ns fs j wq e p)∧Hid (Blk wq T 26 #[.slice NA ns.length NC,.slice FA fs.length FC])∧Hid (Blk wq (T+1) 29 #[.slice none 0 0,.slice none 0 0,.slice none 0 0,.slice none 0 0,.slice none 0 0,.slice none 0 0])∧Hid (eD (T+2) wq (.slice NA ns.length NC) (.slice FA fs.length FC) lvs pvs ns fs)∧Hid (Fr (fun b=>T+2≤b) w2 wq)) (fun i _=>fs.length - (intOf i).toNat)
  case atStart=>exact⟨0,e,p,Nat.zero_le _,rfl,LL,T4,R4,L4,F4⟩
  case round=>
   clear LL T4 R4 L4 F4;obtain⟨j,e,p,hj,rfl,LL,TT,RR,TW,FR⟩:=hrel;by_cases hlt:j<fs.length
   · have hlt2:(j:Int)<(fs.length:Int):=by omega
     obtain⟨f,hf⟩:∃f,fs[j]?=some f:=⟨_,gE hlt⟩;obtain⟨pv,hpv⟩:∃pv,pvs[j]?=some pv:=⟨_,gE (by have:=TW.out.tree.samef;omega)⟩;have hpo:=TW.out.tree.pars.get hf hpv;obtain⟨PA,PC,hpe,-,-⟩:=hpo.cap;obtain⟨fb,e9,hcell⟩:=TW.out.tree.fns.some (by omega);subst e9;subst hpe;have key:=dD hf hpv;have y0:=hcell _ _ (key 0 _ rfl);have y1:=hcell _ _ (key 1 _ rfl);have y2:=hcell _ _ (key 2 _ rfl);have y3:=hcell _ _ (key 3 _ rfl);have y4:=hcell _ _ (key 4 _ rfl);rw[Nat.add_zero] at y0;have FE:=hD (show Fr nob wr (wr.alloc (.cells #[.string (bs f.name),.int .i64 (f.line:Nat),.slice PA f.params.length PC,.int .i64 (f.ret:Nat),.int .i64 (f.body:Nat)] 48)) from (fR wr).alloc _);have BE:=hD (Blk.new wr 48 #[.string (bs f.name),.int .i64 (f.line:Nat),.slice PA f.params.length PC,.int .i64 (f.ret:Nat),.int .i64 (f.body:Nat)]);have HF:=hD (And.intro hf hpv);have HJ:=hD hlt;have hj6:(j:Int)≤6:=by omega
     clear hf hpv hpo hcell key hlt hj;go_upto_region 7 with fail;clear y0 y1 y2 y3 y4;generalize hw5:wr.alloc (.cells #[.string (bs f.name),.int .i64 (f.line:Nat),.slice PA f.params.length PC,.int .i64 (f.ret:Nat),.int .i64 (f.body:Nat)] 48)=w5 at *;have L5:=hD (LL.out.no FE.out);have T5:=hD (TT.out.fr FE.out (fun x=>x));have R5:=hD (RR.out.fr FE.out (fun x=>x));have W5:=hD (TW.out.frn FE.out);have F5:=hD (FR.out.tr (Fr.aLl FE.out));clear LL TT RR TW FR FE hw5;generalize wr.heap.size=E at *;have c0:=L5.out.1;have glt:=L5.out.2.2.1;by_cases he:e=0
     · have heb:((e:Int)==0)=true:=by rw[he];rfl
       rcases L5.out.2.2.2 with ⟨_,hp0,hh,hf0,GG,zs,s,k,hck,g1,g2,g3,gL,g4,g5,g6,g7,g8,g9,hzl,hfu⟩|⟨h0,_⟩
       case inr=>exact absurd he h0
       have hbd:=HO.out.bodies f (List.mem_of_getElem? HF.out.1);have HC:=hD (uL (k:=j) g3 gL hck (by rw[g9];exact HF.out.1) (by omega) (by rw[g7];exact HF.out.2) rfl (fun zs=>by
        obtain⟨c,hc,hcb⟩:=hbd;exact sO _ f.body c GG hck.geo g3 (by rw[g8];exact (gK hc)) (by rw[g8];exact hc) (by simpa[nY] using hcb)))
       have HX:=hD (And.intro hh (And.intro hf0 (And.intro hzl hfu)));have HG:=hD (And.intro g1 (And.intro g2 (And.intro g3 (And.intro gL (And.intro g4 (And.intro g5 (And.intro g6 (And.intro g7 (And.intro g8 g9)))))))));rw[g2] at HC;have b0:=(BE.out.cell 0).trans (show _=some (Value.string (bs f.name)) from rfl);have b1:=(BE.out.cell 1).trans (show _=some (Value.int .i64 (f.line:Nat)) from rfl);have b2:=(BE.out.cell 2).trans (show _=some (Value.slice PA f.params.length PC) from rfl);have b3:=(BE.out.cell 3).trans (show _=some (Value.int .i64 (f.ret:Nat)) from rfl);have b4:=(BE.out.cell 4).trans (show _=some (Value.int .i64 (f.body:Nat)) from rfl);clear hck g1 g2 g3 gL g4 g5 g6 g7 g8 g9 hh hf0 hzl hfu hbd hp0;go_wp2_with fail
       refine HC.out.mono ?_;rintro en w6 ⟨rfl,hk6,f6⟩;obtain⟨g1,g2,g3,gL,g4,g5,g6,g7,g8,g9⟩:=HG.out;rw[g1] at f6;rw[g8,g9] at hk6;have F6:=hD (show Fr (fun b=>T+2≤b) w2 w6 from F5.out.tr f6);have T6:=hD (T5.out.fr f6 (fun hb=>by have h1:T+2≤T:=hb;omega));have R6:=hD (R5.out.fr f6 (fun hb=>by have h1:T+2≤T+1:=hb;omega));have W6:=hD (W5.out.keep (w':=w6) (fun b hb=>f6.block b (Nat.lt_of_lt_of_le hb W5.out.le) (fun hm=>by have h1:T+2≤b:=hm;omega)) f6.size);have L6:=hD (show ∃e p,L2q (T+2) g (.slice NA ns.length NC) (.slice (some ⟨fb,0,none⟩) fs.length FC) lvs pvs ns fs (j+1) w6 e p from by
        obtain⟨hh,hf0,hzl,hfu⟩:=HX.out;have hf:=HF.out.1;have hT:fs.take (j+1)=fs.take j++[f]:=by rw[List.take_add_one,hf];rfl
        have hlj:(fs.take j).length=j:=by rw[List.length_take];have:=HJ.out;omega
        cases hfn:iA ns fs j f s with
        | good s'=>
          rw[hfn] at hk6;obtain⟨Z,hc5⟩:=hk6;obtain⟨_,_,-,-,-,-,-,-,-,-,-,q0,q1,-⟩:=hc5.cells;have hgl:=hc5.aJu;have g2':(GG.atZ Z).g=g:=g2;rw[g2'] at q0 q1 hgl;refine⟨0,0,q0,q1,hgl,.inl ⟨rfl,rfl,hh,hf0,GG.atZ Z,zs++[s'.size],s',j,hc5,g1,g2,g3,gL,g4,g5,g6,g7,g8,g9,by rw[List.length_append,hzl];rfl,?_⟩⟩;rw[hT,jO,hfu,CkR.aJ,hlj,Nat.zero_add,hfn];rfl
        | bad e' p'=>
          rw[hfn] at hk6;obtain⟨h1,h2,Z,s',zs',hc5⟩:=hk6;obtain⟨_,_,-,-,-,-,-,-,-,-,-,q0,q1,-⟩:=hc5.cells;have hgl:=hc5.aJu;have g2':(GG.atZ Z).more.g=g:=g2;rw[g2'] at q0 q1 hgl;refine⟨e',p',q0,q1,hgl,.inr ⟨h1,h2,?_⟩⟩;unfold dW;rw[hh,CkR.aJ];have hb:dN ns fs 0 (fs.take (j+1)) [] (fG ns) = .bad e' p':=by
           rw[hT,jO,hfu,CkR.aJ,hlj,Nat.zero_add,hfn];rfl
          have:=aEe ns fs (fs.take (j+1)) (fs.drop (j+1)) 0 [] (fG ns) hb;rw[List.take_append_drop] at this;rw[this];rfl)
       clear hk6 f6 g1 g2 g3 gL g4 g5 g6 g7 g8 g9 HC HX HG L5 T5 R5 W5 F5 c0 glt b0 b1 b2 b3 b4 BE he;obtain⟨e',p',L7⟩:=L6.out;have L7:=hD L7;clear L6;go_wp2_with fail
       go_roundw
       case rel=>exact⟨j+1,e',p',by have:=HJ.out;omega,by go_num,L7,T6,R6,W6,F6⟩
       case measure=>simp[intOf];have:=HJ.out;omega
     · have heb:((e:Int)==0)=false:=bN.2 (by omega)
       have L7:=hD (show L2q (T+2) g (.slice NA ns.length NC) (.slice (some ⟨fb,0,none⟩) fs.length FC) lvs pvs ns fs (j+1) w5 e p from by
        obtain⟨q0,q1,q2,q3⟩:=L5.out;rcases q3 with ⟨h0,_⟩|h1
        · exact absurd h0 he
        · exact⟨q0,q1,q2,.inr h1⟩)
       clear L5 BE he;go_wp2_with fail
       clear c0 glt;go_roundw
       case rel=>exact⟨j+1,e,p,by have:=HJ.out;omega,by go_num,L7,T5,R5,W5,F5⟩
       case measure=>simp[intOf];have:=HJ.out;omega
   · have hlt2:¬(j:Int)<(fs.length:Int):=by omega
     have hje2:j=fs.length:=by omega
     subst hje2;have c0:=LL.out.1;have c1:=LL.out.2.1;have glt:=LL.out.2.2.1;have z0:=RR.out.frozen 0;have z1:=RR.out.frozen 1;have z2:=RR.out.frozen 2;have z3:=RR.out.frozen 3;have z4:=RR.out.frozen 4;have z5:=RR.out.frozen 5;have rlt:=RR.out.lt;have gnr:¬g=T+1:=by have:=GT.out;omega
     have r0:wr.cell? ⟨T+1,0,none⟩=some (.slice none 0 0):=(RR.out.cell 0).trans rfl;have r1:wr.cell? ⟨T+1,1,none⟩=some (.slice none 0 0):=(RR.out.cell 1).trans rfl;have r2:wr.cell? ⟨T+1,2,none⟩=some (.slice none 0 0):=(RR.out.cell 2).trans rfl;have r3:wr.cell? ⟨T+1,3,none⟩=some (.slice none 0 0):=(RR.out.cell 3).trans rfl;have r4:wr.cell? ⟨T+1,4,none⟩=some (.slice none 0 0):=(RR.out.cell 4).trans rfl;have r5:wr.cell? ⟨T+1,5,none⟩=some (.slice none 0 0):=(RR.out.cell 5).trans rfl;have FF:=hD (show ∀w',Fr (bZ (T+1)) wr w'→Fr nob w w' from fun w' f=>by
       have h1:Fr (fun b=>T≤b) w w':=(Fr.aLl (M:=fun b=>T≤b) F2.out).tr ((FR.out.mono (fun b _ hb=>by have hb:T+2≤b:=hb;show T≤b;omega)).trans f (fun _ _ x=>x) (fun b _ hb=>by rw[show b=T+1 from hb];show T≤T+1;omega));exact h1.mono (fun b hb hm=>by have hm:T≤b:=hm;omega))
     clear hlt hj;by_cases he:e=0
     · have hne:((e:Int) != 0)=false:=by rw[he];rfl
       have heb:((e:Int)==0)=true:=by rw[he];rfl
       rcases LL.out.2.2.2 with ⟨-,hp0,hh,hf0,GG,zs,s,k,hck,g1,g2,g3,gL,g4,g5,g6,g7,g8,g9,hzl,hfu⟩|⟨h0,_⟩
       case inr=>exact absurd he h0
       rw[List.take_of_length_le (Nat.le_refl _)] at hfu;have CA:=hD (show dW ns fs = .good (⟨ns,fs,s.types,s.slots,s.fn,zs⟩:fK) from by unfold dW;rw[hh,CkR.aJ,hfu];rfl);obtain⟨M,B,Z,gg,bt,bq,bf,ct,cq,cf,nv,fv,lv,pv,nn,ff,LLL⟩:=GG;dsimp only at g1 g2 g3 gL g4 g5 g6 g7 g8 g9;subst g1 g2 g4 g5 g6 g7 g8 g9;obtain⟨zv,vv,hb,hz,-⟩:=hck.ex;obtain⟨ZA,ZC,rfl,-,-⟩:=hz.cap;dsimp only at hb hz;have q2:wr.cell? ⟨gg,2,none⟩=some (.slice NA nn.length NC):=(hb.cell 2).trans rfl;have q3:wr.cell? ⟨gg,3,none⟩=some (.slice FA ff.length FC):=(hb.cell 3).trans rfl;have q4:wr.cell? ⟨gg,4,none⟩=some (.slice (some ⟨bt,0,none⟩) nn.length ct):=(hb.cell 4).trans rfl;have q5:wr.cell? ⟨gg,5,none⟩=some (.slice (some ⟨bq,0,none⟩) nn.length cq):=(hb.cell 5).trans rfl;have q6:wr.cell? ⟨gg,6,none⟩=some (.slice (some ⟨bf,0,none⟩) nn.length cf):=(hb.cell 6).trans rfl;have q7:wr.cell? ⟨gg,7,none⟩=some (.slice ZA zs.length ZC):=(hb.cell 7).trans rfl;have HPR:=hD (show nE wr (.slice NA nn.length NC) (.slice FA ff.length FC) (.slice (some ⟨bt,0,none⟩) nn.length ct) (.slice (some ⟨bq,0,none⟩) nn.length cq) (.slice (some ⟨bf,0,none⟩) nn.length cf) (.slice ZA zs.length ZC) lv pv (⟨nn,ff,s.types,s.slots,s.fn,zs⟩:fK) from
        ⟨hck.tree.tree,by have h9:=hck.types;have h8:=h9.len;simp[ints] at h8;rw[show s.types.length=nn.length from h8];exact h9,by have h9:=hck.slots;have h8:=h9.len;simp[eH] at h8;rw[show s.slots.length=nn.length from h8];exact h9,by have h9:=hck.fn;have h8:=h9.len;simp[ints] at h8;rw[show s.fn.length=nn.length from h8];exact h9,hz⟩)
       have BE:=hD (show Blk ((((((wr.setCell ⟨T+1,0,none⟩ (.slice NA nn.length NC)).setCell ⟨T+1,1,none⟩ (.slice FA ff.length FC)).setCell ⟨T+1,2,none⟩ (.slice (some ⟨bt,0,none⟩) nn.length ct)).setCell ⟨T+1,3,none⟩ (.slice (some ⟨bq,0,none⟩) nn.length cq)).setCell ⟨T+1,4,none⟩ (.slice (some ⟨bf,0,none⟩) nn.length cf)).setCell ⟨T+1,5,none⟩ (.slice ZA zs.length ZC)) (T+1) 29 #[.slice NA nn.length NC,.slice FA ff.length FC,.slice (some ⟨bt,0,none⟩) nn.length ct,.slice (some ⟨bq,0,none⟩) nn.length cq,.slice (some ⟨bf,0,none⟩) nn.length cf,.slice ZA zs.length ZC] from ((((((RR.out.setCell 0 (.slice NA nn.length NC)).setCell 1 (.slice FA ff.length FC)).setCell 2 (.slice (some ⟨bt,0,none⟩) nn.length ct)).setCell 3 (.slice (some ⟨bq,0,none⟩) nn.length cq)).setCell 4 (.slice (some ⟨bf,0,none⟩) nn.length cf)).setCell 5 (.slice ZA zs.length ZC)));have FE:=hD (FF.out ((((((wr.setCell ⟨T+1,0,none⟩ (.slice NA nn.length NC)).setCell ⟨T+1,1,none⟩ (.slice FA ff.length FC)).setCell ⟨T+1,2,none⟩ (.slice (some ⟨bt,0,none⟩) nn.length ct)).setCell ⟨T+1,3,none⟩ (.slice (some ⟨bq,0,none⟩) nn.length cq)).setCell ⟨T+1,4,none⟩ (.slice (some ⟨bf,0,none⟩) nn.length cf)).setCell ⟨T+1,5,none⟩ (.slice ZA zs.length ZC)) (Fr.six wr (T+1) (.slice NA nn.length NC) (.slice FA ff.length FC) (.slice (some ⟨bt,0,none⟩) nn.length ct) (.slice (some ⟨bq,0,none⟩) nn.length cq) (.slice (some ⟨bf,0,none⟩) nn.length cf) (.slice ZA zs.length ZC)));have PE:=hD (HPR.out.aRn RR.out (Fr.six wr (T+1) (.slice NA nn.length NC) (.slice FA ff.length FC) (.slice (some ⟨bt,0,none⟩) nn.length ct) (.slice (some ⟨bq,0,none⟩) nn.length cq) (.slice (some ⟨bf,0,none⟩) nn.length cf) (.slice ZA zs.length ZC)));clear hck hb hz hh hf0 hzl hfu hp0 he g3 gL LL;go_wp2_with fail
       all_goals
        clear r0 r1 r2 r3 r4 r5 z0 z1 z2 z3 z4 z5;generalize ((((((wr.setCell ⟨T+1,0,none⟩ (.slice NA nn.length NC)).setCell ⟨T+1,1,none⟩ (.slice FA ff.length FC)).setCell ⟨T+1,2,none⟩ (.slice (some ⟨bt,0,none⟩) nn.length ct)).setCell ⟨T+1,3,none⟩ (.slice (some ⟨bq,0,none⟩) nn.length cq)).setCell ⟨T+1,4,none⟩ (.slice (some ⟨bf,0,none⟩) nn.length cf)).setCell ⟨T+1,5,none⟩ (.slice ZA zs.length ZC))=wz at *;have z0:wz.cell? ⟨T+1,0,none⟩=some (.slice NA nn.length NC):=(BE.out.cell 0).trans rfl;have z1:wz.cell? ⟨T+1,1,none⟩=some (.slice FA ff.length FC):=(BE.out.cell 1).trans rfl;have z2:wz.cell? ⟨T+1,2,none⟩=some (.slice (some ⟨bt,0,none⟩) nn.length ct):=(BE.out.cell 2).trans rfl;have z3:wz.cell? ⟨T+1,3,none⟩=some (.slice (some ⟨bq,0,none⟩) nn.length cq):=(BE.out.cell 3).trans rfl;have z4:wz.cell? ⟨T+1,4,none⟩=some (.slice (some ⟨bf,0,none⟩) nn.length cf):=(BE.out.cell 4).trans rfl;have z5:wz.cell? ⟨T+1,5,none⟩=some (.slice ZA zs.length ZC):=(BE.out.cell 5).trans rfl;go_wp2_with fail
        refine bodyPost_ret (v:= .tuple #[.agg #[.slice NA nn.length NC,.slice FA ff.length FC,.slice (some ⟨bt,0,none⟩) nn.length ct,.slice (some ⟨bq,0,none⟩) nn.length cq,.slice (some ⟨bf,0,none⟩) nn.length cf,.slice ZA zs.length ZC],.int .i64 0,.int .i64 0]) (by simp[results,Tryz.results31,go_sem,z0,z1,z2,z3,z4,z5]) rfl ⟨by rw[CA.out];exact⟨_,_,_,_,rfl,by first|exact PE.out|exact PE.out.no ((fR _).drew)⟩,by first|exact FE.out|exact FE.out.drew⟩
     · have heb:((e:Int)==0)=false:=bN.2 (by omega)
       have hne:((e:Int) != 0)=true:=by rw[bne,bN.2 (by omega)];rfl
       have CA:=hD (show dW ns fs = .bad e p∧e≠0∧e≤99 from by
        rcases LL.out.2.2.2 with ⟨h1,_⟩|⟨h1,h2,h3⟩
        · exact absurd h1 he
        · exact⟨h3,h1,h2⟩)
       clear he;go_wp2_with fail
       have BE:=hD (show Blk ((((((wr.setCell ⟨T+1,0,none⟩ (.slice none 0 0)).setCell ⟨T+1,1,none⟩ (.slice none 0 0)).setCell ⟨T+1,2,none⟩ (.slice none 0 0)).setCell ⟨T+1,3,none⟩ (.slice none 0 0)).setCell ⟨T+1,4,none⟩ (.slice none 0 0)).setCell ⟨T+1,5,none⟩ (.slice none 0 0)) (T+1) 29 #[.slice none 0 0,.slice none 0 0,.slice none 0 0,.slice none 0 0,.slice none 0 0,.slice none 0 0] from ((((((RR.out.setCell 0 (.slice none 0 0)).setCell 1 (.slice none 0 0)).setCell 2 (.slice none 0 0)).setCell 3 (.slice none 0 0)).setCell 4 (.slice none 0 0)).setCell 5 (.slice none 0 0)));have FE:=hD (FF.out ((((((wr.setCell ⟨T+1,0,none⟩ (.slice none 0 0)).setCell ⟨T+1,1,none⟩ (.slice none 0 0)).setCell ⟨T+1,2,none⟩ (.slice none 0 0)).setCell ⟨T+1,3,none⟩ (.slice none 0 0)).setCell ⟨T+1,4,none⟩ (.slice none 0 0)).setCell ⟨T+1,5,none⟩ (.slice none 0 0)) (Fr.six wr (T+1) (.slice none 0 0) (.slice none 0 0) (.slice none 0 0) (.slice none 0 0) (.slice none 0 0) (.slice none 0 0)));clear heb rlt;go_region_law (fail)
       all_goals
        clear r0 r1 r2 r3 r4 r5 z0 z1 z2 z3 z4 z5;generalize ((((((wr.setCell ⟨T+1,0,none⟩ (.slice none 0 0)).setCell ⟨T+1,1,none⟩ (.slice none 0 0)).setCell ⟨T+1,2,none⟩ (.slice none 0 0)).setCell ⟨T+1,3,none⟩ (.slice none 0 0)).setCell ⟨T+1,4,none⟩ (.slice none 0 0)).setCell ⟨T+1,5,none⟩ (.slice none 0 0))=wz at *;have z0:wz.cell? ⟨T+1,0,none⟩=some (.slice none 0 0):=(BE.out.cell 0).trans rfl;have z1:wz.cell? ⟨T+1,1,none⟩=some (.slice none 0 0):=(BE.out.cell 1).trans rfl;have z2:wz.cell? ⟨T+1,2,none⟩=some (.slice none 0 0):=(BE.out.cell 2).trans rfl;have z3:wz.cell? ⟨T+1,3,none⟩=some (.slice none 0 0):=(BE.out.cell 3).trans rfl;have z4:wz.cell? ⟨T+1,4,none⟩=some (.slice none 0 0):=(BE.out.cell 4).trans rfl;have z5:wz.cell? ⟨T+1,5,none⟩=some (.slice none 0 0):=(BE.out.cell 5).trans rfl;go_wp2_with fail
        refine bodyPost_ret (v:= .tuple #[.agg #[.slice none 0 0,.slice none 0 0,.slice none 0 0,.slice none 0 0,.slice none 0 0,.slice none 0 0],.int .i64 p,.int .i64 e]) (by simp[results,Tryz.results31,go_sem,z0,z1,z2,z3,z4,z5]) rfl ⟨by rw[CA.out.1];exact⟨rfl,CA.out.2⟩,by first|exact FE.out|exact FE.out.drew⟩
end
def gT {α:Type} (n:Nat) (r:CkR α):Prop:=match r with
 | .bad _ p=>p<n
 | .good _=>True
section
variable {α β:Type}{n:Nat}
theorem gT.bind {r:CkR α}{f:α→CkR β} (h:gT n r) (g:∀a,gT n (f a)):gT n (r.bind f):=by
 cases r with
 | bad e p=>exact h
 | good a=>exact g a
theorem gT.map {r:CkR α}{f:α→β} (h:gT n r):gT n (r.map f):=by
 cases r with
 | bad e p=>exact h
 | good a=>trivial
theorem gT.ite {c:Prop} [Decidable c] {r q:CkR α} (h:gT n r) (g:gT n q):gT n (if c then r else q):=by
 split
 · exact h
 · exact g
end
section
variable {ns:List aF}{fs:List aD}{k x n:Nat}{s:CkS}{ex:Nat→CkS→CkR (Nat×CkS)}{bl:Nat→CkS→CkR CkS}
theorem pG (hx:x<n) (name:List UInt8):gT n (dV x name s):=by
 unfold dV;cases dR s.vars name with
 | none=>exact hx
 | some v=>trivial
theorem aJk (hex:∀y s,gT n (ex y s)):∀(l:List Nat) (s:CkS),gT n (dG ex l s)
 | [],s=>trivial
 | a :: l,s=>by
  unfold dG;exact (hex _ _).bind fun r=>(aJk hex l _).map
theorem aKk (hx:x<n) (hex:∀y s,gT n (ex y s)) (nd:aF):gT n (dB fs ex x nd s):=by
 have hc:gT n (mY fs ex x nd s):=by
  unfold mY;cases findF fs nd.name with
  | none=>exact hx
  | some j=>exact (aJk hex _ _).bind fun r=>gT.ite hx (gT.ite hx trivial)
 unfold dB;refine .ite trivial (.ite trivial (.ite trivial (.ite (pG hx _) (.ite hc (.ite ((pG hx _).bind fun t=>(hex _ _).bind fun r=> .ite trivial hx) (.ite ((hex _ _).bind fun a=>(hex _ _).bind fun b=> .ite hx trivial) ?_))))));exact (hex _ _).bind fun r=> .ite (.ite trivial hx) (.ite (.ite trivial hx) (.ite (.ite trivial hx) (.ite trivial hx)))
theorem aIr (hn:0<ns.length):∀(f x:Nat) (s:CkS),gT ns.length (gJ ns fs k f x s)
 | 0,x,s=>hn
 | f+1,x,s=>by
  unfold gJ;cases hx:ns[x]? with
  | none=>exact hn
  | some nd=>exact (aKk (gK hx) (fun y s=>aIr hn f y s) nd).map
theorem aFt {st:Nat→CkS→CkR CkS} (hst:∀y s,gT n (st y s)):∀(l:List Nat) (s:CkS),gT n (iG st l s)
 | [],s=>trivial
 | a :: l,s=>by
  unfold iG;exact (hst _ _).bind fun r=>aFt hst l _
theorem aPe (hx:x<n) (hex:∀y s,gT n (ex y s)) (hbl:∀y s,gT n (bl y s)) (nd:aF):gT n (jF fs k ex bl x nd s):=by
 unfold jF aOd aCy;refine .ite ?_ (.ite ?_ (.ite ?_ (.ite (hex _ _).map (.ite ?_ (.ite ?_ ?_)))))
 · exact (hex _ _).bind fun r=> .ite hx (.ite hx (.ite hx trivial))
 · exact (pG hx _).bind fun t=>(hex _ _).bind fun r=> .ite trivial hx
 · exact (pG hx _).bind fun t=>(hex _ _).bind fun r=>(hex _ _).bind fun q=> .ite trivial hx
 · exact (hex _ _).bind fun r=> .ite trivial hx
 · exact .ite (.ite ((hex _ _).bind fun r=> .ite trivial hx) trivial) hx
 · exact (hex _ _).bind fun r=> .ite (aFt hbl _ _) hx
theorem block_lt (hn:0<ns.length):∀(f x:Nat) (s:CkS),gT ns.length (gM ns fs k f x s)
 | 0,x,s=>hn
 | f+1,x,s=>by
  unfold gM;cases hx:ns[x]? with
  | none=>exact hn
  | some nd=>
   refine (aFt (fun y s=>?_) _ _).map;cases hy:ns[y]? with
   | none=>exact hn
   | some na=>exact aPe (gK hy) (fun y s=>aIr hn _ y s) (fun y s=>block_lt hn f y s) na
theorem aHd {body:Nat} (hb:body<n):∀(l:List (List UInt8×Nat)) (vs:List dL),gT n (jL body l vs)
 | [],vs=>trivial
 | p :: l,vs=>by
  unfold jL;exact .ite hb (aHd hb l _)
theorem aBl (hn:0<ns.length):∀(l:List aD) (k:Nat) (zs:List Nat) (s:CkS),(∀f∈l,f.body<ns.length)→gT ns.length (dN ns fs k l zs s)
 | [],k,zs,s,_=>trivial
 | f :: l,k,zs,s,h=>by
  unfold dN iA;exact ((aHd (h f (List.mem_cons_self ..)) _ _).bind fun vs=>block_lt hn _ _ _).bind fun r=>aBl hn l _ _ _ (fun g hg=>h g (List.mem_cons_of_mem _ hg))
theorem aAq:∀(l:List aD) (seen:List (List UInt8)) (b:Nat),(∀f∈l,f.body<n)→dJ seen l=some b→b<n
 | [],seen,b,_,h=>by cases h
 | f :: l,seen,b,hb,h=>by
  unfold dJ at h;split at h
  · injection h with h
    subst h;exact hb f (List.mem_cons_self ..)
  · exact aAq l _ b (fun g hg=>hb g (List.mem_cons_of_mem _ hg)) h
end
theorem aOp {ns:List aF}{fs:List aD} (hok:oL ns fs):∀f∈fs,f.body<ns.length:=fun f hf=>by
 obtain⟨c,hc,_⟩:=hok.bodies f hf;exact (gK hc)
theorem aMn {ns:List aF}{fs:List aD} (hok:oL ns fs){e p:Nat} (h:dW ns fs = .bad e p) (he:e≠44):p<ns.length:=by
 have hb:=aOp hok;unfold dW lJ at h;cases ht:dJ [] fs with
 | some b=>
  rw[ht] at h;injection h with h1 h2;subst h2;exact aAq fs [] b hb ht
 | none=>
  rw[ht] at h;dsimp only at h;by_cases hm:fs.any fH=true
  · rw[if_pos hm] at h
    have hn:0<ns.length:=by
     obtain⟨f,hf,_⟩:=List.any_eq_true.1 hm;have:=hb f hf;omega
    have:=(aBl (fs:=fs) hn fs 0 [] (fG ns) hb).map (f:=fun r=>(⟨ns,fs,r.2.types,r.2.slots,r.2.fn,r.1⟩:fK));rw[CkR.aJ] at h;rw[h] at this;exact this
  · rw[if_neg hm] at h
    injection h with h1 h2;exact absurd h1.symm he
theorem sQ {l:List UInt8}{p er:Nat} (hr:parseM l=some (.bad p er)):1≤er:=by
 unfold parseM at hr;cases hl:nG l with
 | bad i k=>
  rw[hl] at hr;simp at hr
  have:=uY hl;omega
 | good ts=>
  rw[hl] at hr;simp only[lH,mS] at hr;obtain⟨q,hq,hr⟩:=hr;split at hr
  · injection hr with h1 h2
    omega
  · split at hr
    · injection hr with h1 h2
      omega
    · cases hr
end Go.Proofs.YtlbjicjinnnboaaGreatDoor
/- ParseBelow: lines rise from what is above to what is below. Printed by wip/tools/mkbelow.py. -/
namespace Go.Proofs.YtlbjicjinnnboaaGreatDoor
open Go.RowKit
namespace Pw
def LK (ns:List aF) (L x:Nat):Prop:=∃c,ns[x]?=some c∧L≤c.line
theorem LK.mono {ns:List aF}{L x:Nat} (h:LK ns L x) (y:List aF):LK (ns++y) L x:=by
 obtain⟨c,hc,hk⟩:=h;exact⟨c,by rw[List.getElem?_append_left (gK hc)];exact hc,hk⟩
theorem LK.ext {s t:PS}{L x:Nat} (h:LK s.nodes L x) (e:Ext s t):LK t.nodes L x:=by
 obtain⟨y,hy⟩:=e.nodes;rw[hy];exact h.mono y
theorem LK.le {ns:List aF}{L M x:Nat} (h:LK ns L x) (hm:M≤L):LK ns M x:=by
 obtain⟨c,hc,hk⟩:=h;exact⟨c,hc,Nat.le_trans hm hk⟩
def vK (ns:List aF):Prop:=∀(i:Nat) (nd:aF),ns[i]?=some nd→∀x∈nd.l,LK ns nd.line x
theorem vK.snoc {ns:List aF}{nd:aF} (h:vK ns) (hn:∀x∈nd.l,LK ns nd.line x):vK (ns++[nd]):=by
 intro i x hx;by_cases hi:i<ns.length
 · rw[List.getElem?_append_left hi] at hx
   exact fun y hy=>(h i x hx y hy).mono _
 · rw[List.getElem?_append_right (by omega)] at hx
   by_cases he:i=ns.length
   · subst he
     rw[Nat.sub_self] at hx;simp at hx
     subst hx;exact fun y hy=>(hn y hy).mono _
   · rw[List.getElem?_eq_none (by simp;omega)] at hx;cases hx
section
variable {src:List UInt8}{ts:List Tok}
end
end Pw
end Go.Proofs.YtlbjicjinnnboaaGreatDoor
/- The parser: how often a node hangs on others: just once. -/
namespace Go.Proofs.YtlbjicjinnnboaaGreatDoor
namespace Pw
open Go.RowKit
def aRu (ns:List aF) (x:Nat):Nat:=(ns.map fun nd=>nd.l.count x).sum
section
variable {src:List UInt8}{ts:List Tok}
theorem iO {x:List UInt8}{s:PS} (h:(aA ts x s).e=0):s.e=0:=((Ext.refl s).must (ts:=ts) x).e0 h
theorem uG {n:Nat}{k:Task}{s:PS}{r:List Nat×PS} (h:run src ts n k s=some r) (he:r.2.e=0):s.e=0:=(aI _ _ _ _ h).e0 he
theorem uS (s:PS):(pUp s).nodes=s.nodes:=rfl
def aRc (fs:List aD) (x:Nat):Nat:=(fs.map (·.body)).count x
end
end Pw
end Go.Proofs.YtlbjicjinnnboaaGreatDoor
