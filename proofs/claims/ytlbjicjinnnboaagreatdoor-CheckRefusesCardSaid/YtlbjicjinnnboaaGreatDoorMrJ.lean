/- MrJ: KqHd, KqRep, CkGeo, KqAll, CkLt, BwA, PPar2. -/
import Derived.Test.YtlbjicjinnnboaaGreatDoorUShelf
import Derived.Test.YtlbjicjinnnboaaGreatDoorMrA
import Derived.Test.YtlbjicjinnnboaaGreatDoorMrG
import Derived.Test.YtlbjicjinnnboaaGreatDoorMrI
import Derived.Laws.CopyOwn
import Derived.Test.YtlbjicjinnnboaaGreatDoorMrF
set_option maxHeartbeats 8000000
set_option maxRecDepth 100000
set_option linter.unusedVariables false
set_option linter.unusedSimpArgs false
/- The program's own checker: heads. -/
namespace Go.Proofs.YtlbjicjinnnboaaGreatDoor
open Go.RowKit Go.Proofs.Tryz
open Pw
variable {w w':World}{ns:List aH}{fs:List aD}{nv fv sv:Value}{lvs pvs:List Value}{B n p a g e:Nat}{cs:Array Value}
def jJ (nv fv a b c z vv:Value) (k size e p:Nat):Array Value:=
 #[e,p,nv,fv,a,b,c,z,k,vv,size]
section
variable {w w':World}{g k size e p:Nat}{nv fv a b c z vv:Value}{lvs pvs:List Value}{ns:List aH}{fs:List aD}
theorem aAo (hb:Blk w g 94 (jJ nv fv a b c z vv k size e p)) (ok:Bool) (e' x:Nat) (he':e'≠0):
  Calls prog 95 #[(g,()),ok,e',x] w λen w'=>en = .returned (.tuple #[])∧Blk w' g 94 (jJ nv fv a b c z vv k size (if ok=false∧e=0 then e' else e) (if ok=false∧e=0 then x else p))∧Fr (dG g) w w':=by
 have c0:w.cell? (g,0)=e:=by rw[hb.cell];rfl
 have c1:w.cell? (g,1)=p:=by rw[hb.cell];rfl
 have f0:=hb.frozen 0;have f1:=hb.frozen 1;have hg:=hb.lt;have H:=hD hb;cases ok with
 | true=>
  rw[if_neg (by simp),if_neg (by simp)];clear hb;go_enter func95,ntmps95;go_wp2
  exact gF rfl rfl ⟨rfl,H,Fr.refl _ _⟩
 | false=>
  by_cases he:e=0
  . have heb:((e:Int)==0)=true:=by rw[he];rfl
    rw[if_pos ⟨rfl,he⟩,if_pos ⟨rfl,he⟩];have S2:=hD ((hb.setCell 0 e').setCell 1 x);clear hb he;go_enter func95,ntmps95;go_wp2
    exact gF rfl rfl ⟨rfl,S2,((Fr.refl (dG g) w).setCell (g,()) _ (λ_=>rfl)).setCell (g,U1) _ (λ_=>rfl)⟩
  . have heb:((e:Int)==0)=false:=bN.2 (by omega)
    rw[if_neg (λx=>he x.2),if_neg (λx=>he x.2)];clear hb he;go_enter func95,ntmps95;go_wp2
    exact gF rfl rfl ⟨rfl,H,Fr.refl _ _⟩
theorem aMx {o:Option Nat}{x:Nat}{seen:Bool}:(if (!seen)=false∧stE o=0 then 41 else stE o)=stE (o.or (if seen=true then some x else none))∧(if (!seen)=false∧stE o=0 then x else stP o)=stP (o.or (if seen=true then some x else none)):=by
 cases o<;>cases seen<;>simp[stE,stP]
theorem aCt {FA:Option Addr}{FC:Nat} (hb:Blk w g 94 (jJ nv fv a b c z vv k size 0 0)) (ht:dL 0 w nv (.slice FA fs.length FC) lvs pvs ns fs) (hf6:fs.length≤6) (hp3:∀f∈fs,f.params.length≤3):
  Calls prog 59 #[(g,()),.slice FA fs.length FC] w λen w'=>en = .returned (.tuple #[])∧Fr (dG g) w w'∧∃e p,Blk w' g 94 (jJ nv fv a b c z vv k size e p)∧((e=0∧p=0∧iZ fs = .good ())∨(e≠0∧e≤99∧iZ fs = .bad e p)):=by
 have hf7:(fs.length:Int)≤6:=by omega
 have hmm:= @run_makeMap prog;have B0:=hD hb;have T0:=hD ht;have HP:=hD hp3;have F1:Hd (Fr (dG g) w (w.alloc (.map #[] 0))):=(Fr.refl _ w).alloc _;have N1:=hD (aAe.new w);have B1:=hD (hb.fr ((fR w).alloc (.map #[] 0)) (λx=>x));have HN:=hD (show w.heap.size≠g from by have:=hb.lt;omega);clear hb ht hp3 hf6;go_enter func59,ntmps59;go_wp2_with fail
 clear hmm;generalize w.alloc (.map #[] 0)=w1 at *;generalize hH:w.heap.size=H at *;have HH:=hD hH;clear hH;go_loopw [5,11] (λmm i wr=>∃j:Nat,j≤fs.length∧i = .int .i64 j∧mm = .bool ((fs.take j).any fQ)∧Hd (Blk wr g 94 (jJ nv fv a b c z vv k size (stE (bU [] (fs.take j))) (stP (bU [] (fs.take j)))))∧Hd (aAe wr H ((fs.take j).map (·.name)))∧Hd (Fr (dG g) w wr)) (λ_ i _=>fs.length - (intOf i).toNat)
 case atStart=>exact⟨0,Nat.zero_le _,rfl,rfl,B1,N1,F1⟩
 case round=>
  clear B1 N1 F1;obtain⟨j,hj,rfl,rfl,B,N,FR⟩:=hrel;by_cases hlt:j<fs.length
  . have hlt2:(j:Int)<(fs.length:Int):=by omega
    have hj6:(j:Int)≤6:=by omega
    obtain⟨f,hf⟩:∃f,fs[j]?=some f:=⟨_,gE hlt⟩;have HJ:=hD hlt;have hlt':=hlt;have TW:=hD (T0.o.aRw B0 (by decide) (by decide) (by decide) (by decide) FR);obtain⟨fb,e,-⟩:=TW.o.fns.some (by omega);subst e;obtain⟨pv,hpo,x0,x1,x2,x3,x4⟩:=TW.o.fn2 hf;obtain⟨PA,PC,rfl,-,-⟩:=hpo.cap;have FE:Hd (Fr nob wr (wr.alloc (.cells #[bs f.name,f.line,.slice PA f.params.length PC,f.ret,f.body] 48))):=(fR wr).alloc _;have BE:=hD (Blk.new wr 48 #[bs f.name,f.line,.slice PA f.params.length PC,f.ret,f.body]);have EN:=hD (show wr.heap.size≠g∧wr.heap.size≠H from by have:=B.o.lt;have:=N.o.lt;exact⟨by omega,by omega⟩);have HTS:=hD (mJ f (fs.take j) []);have HT1:=hD (show fs.take (j+1)=fs.take j++[f] from by rw[List.take_add_one,hf];rfl);have HMA:=hD (oV hf);have hpl:(f.params.length:Int)≤3:=by have:=HP.o f (List.mem_of_getElem? hf);omega
    clear hpo hf hlt hlt' hj;go_upto_region 5 with fail;clear x0 x1 x2 x3 x4;generalize hw4:wr.alloc (.cells #[bs f.name,f.line,.slice PA f.params.length PC,f.ret,f.body] 48)=w4 at *;have B4:=hD (B.o.fr FE (λx=>x));have N4:=hD (N.o.fr FE (λx=>x));have F4:=hD (FR.o.tr (Fr.aEv FE));clear B N FR FE hw4 TW;generalize wr.heap.size=E at *;have e0:w4.cell? (E,0)=(bs f.name):=(BE.o.cell 0).trans rfl;have e4:w4.cell? (E,4)=f.body:=(BE.o.cell 4).trans rfl;obtain⟨z,hz⟩:∃z,decide (f.name∈(fs.take j).map (·.name))=z:=⟨_,rfl⟩;have HZ:=hD hz;have LK:=(N4.o.fr (fR w4).drew (λx=>x)).look f.name;rw[hz] at LK;clear hz;go_wp2_with fail
    go_still_tail 10,(by kernel_rfl)
    change wpList _ _ _ _ _ w4.drew;clear LK e0 e4;have B5:=hD (B4.o.fr (fR w4).drew (λx=>x));have N5:=hD (N4.o.fr (fR w4).drew (λx=>x));have E5:=hD (BE.o.fr (fR w4).drew (λx=>x));have F5:=hD (F4.o.tr (Fr.aEv (fR w4).drew));clear B4 N4 BE F4;generalize w4.drew=w5 at *;go_wp2_with fail
    refine (aAo B5 (!z) 41 f.body (by decide)).mono ?_;rintro en w6 ⟨rfl,h6,f6⟩;have B6:=hD (show Blk w6 g 94 (jJ nv fv a b c _ vv k size (stE (bU [] (fs.take (j+1)))) (stP (bU [] (fs.take (j+1))))) from by
     rw[aMx.1,aMx.2,<-HZ.o] at h6;have e9:(if decide (f.name∈(fs.take j).map (·.name))=true then some f.body else none)=if f.name∈[]++(fs.take j).map (·.name) then some f.body else none:=by simp
     rw[e9,<-HTS.o,<-HT1.o] at h6;exact h6)
    have N6:=hD (N5.o.fr f6 (λe=>HN.o e));have E6:=hD (E5.o.fr f6 EN.o.1);have F6:=hD (F5.o.tr f6);clear h6 f6 B5 N5 E5 F5;obtain⟨w7,i1,hn7,f7⟩:=N6.o.upd f.name;have N7:=hD (show aAe w7 H ((fs.take (j+1)).map (·.name)) from by rw[HT1.o,List.map_append];exact hn7);have B7:=hD (B6.o.fr f7 (λe=>HN.o e.symm));have E7:=hD (E6.o.fr f7 EN.o.2);have F7:Hd (Fr (dG g) w w7):=Fr.trans F6 f7 (λ_ _ x=>x) (λb hb e=>by have e:b=H:=e;have:=HH.o;omega);have e0:w6.cell? (E,0)=(bs f.name):=(E6.o.cell 0).trans rfl;clear hn7 f7 N6 B6 E6 F6;go_upto_region 7 with fail;clear e0 i1;have e0:w7.cell? (E,0)=(bs f.name):=(E7.o.cell 0).trans rfl;have e2:w7.cell? (E,2)=some (.slice PA f.params.length PC):=(E7.o.cell 2).trans rfl;have e3:w7.cell? (E,3)=f.ret:=(E7.o.cell 3).trans rfl;obtain⟨m0,hm0⟩:∃m,(fs.take j).any fQ=m:=⟨_,rfl⟩;obtain⟨b1,hb1⟩:∃m,((bs f.name).toList==[109,97,105,110])=m:=⟨_,rfl⟩;obtain⟨b2,hb2⟩:∃m,((f.params.length:Int)==0)=m:=⟨_,rfl⟩;obtain⟨b3,hb3⟩:∃m,((f.ret:Int)==0)=m:=⟨_,rfl⟩;have HNM:=hD (show (fs.take (j+1)).any fQ=(m0 || (b1 && b2 && b3)) from by
     rw[HMA.o,hm0];congr 1
     unfold fQ;rw[<-hb1,<-hb2,<-hb3,mI];congr 1
     . congr 1
       . rw[Bool.eq_iff_iff];simp
       . rw[Bool.eq_iff_iff];simp
     . rw[Bool.eq_iff_iff];simp)
    rw[hm0];clear hm0 E7;cases m0<;>cases b1<;>cases b2<;>cases b3
    all_goals
     go_wp2
     go_roundw
     case rel=>exact⟨j+1,by have:=HJ.o;omega,by go_num,by rw[HNM.o];rfl,B7,N7,F7⟩
     case measure=>simp[intOf];have:=HJ.o;omega
  . have hlt2:¬(j:Int)<(fs.length:Int):=by omega
    have HT:Hd (fs.take j=fs):=List.take_of_length_le (by omega);have E:Hd (iZ fs=(match bU [] fs with|some b=> .bad 41 b|none=>if fs.any fQ then .good () else .bad 44 0)):=rfl;obtain⟨m0,hm0⟩:∃m,fs.any fQ=m:=⟨_,rfl⟩;have HM0:=hD hm0;rw[HT.o] at B ⊢;rw[hm0];clear hm0 hlt hj N;go_wp2_with fail
    refine dY (aAo B m0 44 0 (by decide)) λw5 B5 f5=>?_;have F5:=hD (FR.o.tr f5);clear f5;go_wp2
    refine gF rfl rfl ⟨rfl,F5,_,_,B5,?_⟩;have hE:=E.o;rw[HM0.o] at hE;cases hT:bU [] fs with
    | none=>
     rw[hT] at hE;cases m0 with
     | true=>exact .inl ⟨by simp[stE],by simp[stE,stP],hE⟩
     | false=>exact .inr ⟨by simp[stE],by simp[stE],by rw[hE];simp[stE]⟩
    | some b=>
     rw[hT] at hE;refine .inr ⟨by simp[stE],by simp[stE],?_⟩;rw[hE];simp[stE,stP]
end
def lH (n k:Nat):List Value:=List.replicate k (.int .i64 (-1))++List.replicate (n - k) (.int .i64 0)
theorem aAl {k:Nat} (h:k≤n):(lH n k).length=n:=by unfold lH;simp;omega
theorem wF {k m:Nat} (h:k+m≤n):splice (lH n k) k (List.replicate m (-1:Int))=lH n (k+m):=by
 unfold splice lH;rw[List.take_append_of_le_length (by simp),List.take_of_length_le (by simp),List.drop_append,List.drop_eq_nil_of_le (by simp),List.nil_append,List.drop_replicate,List.length_replicate,List.length_replicate,<-List.replicate_append_replicate,List.append_assoc,show n - k - (k+m - k)=n - (k+m) by omega]
theorem tX (n:Nat) (hn:n≤1000000):∀w:World,(Instr.makeSlice 27 (n:Int) (n:Int)).run prog w = .ok (w.heap.size,n,n) (w.alloc (.cells (lH n 0).toArray 3)):=by
 intro w;obtain⟨i,hi,hz,hs,hb⟩:=iG.hi;have hr:=run_make (P:=prog) w 27 3 i U0 iG.ht hi hz .i64 .i64 n n (by omega) (Int.le_refl _) (by rw[hb];omega) (by omega);simp only[Int.toNat_natCast,hs,Nat.mul_one] at hr;have e:madeCells (Value.int .i64 0).cells n=(lH n 0).toArray:=by
  show madeCells #[U0] n=_
  apply Array.toList_inj.1
  rw[toList_madeCells_one];simp[lH]
 rw[e] at hr;exact hr
theorem aMp {w0:World} (h:Below w0.heap.size w0 w):Fr nob w0 w:=⟨h.1,h.2,h.3,h.4,λk hk _=>h.5 k hk⟩
theorem yO {b:Nat} (n:Nat) (hn:n≤300) (hb:Blk w b 3 #[(-1:Int)]):
  Calls prog 58 #[(b,1,1),n] w λen w'=>∃A c,en = .returned (.slice A n c)∧Own w' 3 1 (.slice A n c) n (fM (List.replicate n (-1)))∧(∀x,blk (.slice A n c)=some x->w.heap.size≤x)∧Fr nob w w':=by
 have HB:=hD hb;have hn3:(n:Int)≤300:=by omega
 have HM:=hD (show Calls prog 94 #[.int .u64 1,.int .u64 (n:Nat)] w λen w'=>en = .returned (.tuple #[.int .u64 0,.int .u64 (n:Nat)])∧w'=w from by
  have:=bits_Mul 1 n (by decide) (by omega) w;rw[show (1*n / 18446744073709551616:Nat)=0 by omega,show (1*n % 18446744073709551616:Nat)=n by omega] at this;exact this)
 have hmk:=tX n (by omega);have k0:w.cell? (b,0)=(-1:Int):=(hb.cell 0).trans rfl;have hlt:=hb.lt;clear hb;go_enter func58,ntmps58;go_wp2_with fail
 refine HM.o.mono ?_;rintro en w1 ⟨rfl,hw⟩;subst hw;obtain⟨m0,hm0⟩:∃m,Nat.min 1 n=m:=⟨_,rfl⟩;have HM0:=hD (show m0≤n∧m0≤1∧(0<n->0<m0) from by rw[<-hm0];show min 1 n≤n∧min 1 n≤1∧(0<n->0<min 1 n);omega);have HMM:=hD hm0;have HG:Hd ((w1.alloc (.cells (lH n 0).toArray 3)).heap[w1.heap.size]?=some (.cells (lH n 0).toArray 3 (0,0))):=Blk.new _ _ _;have HBE:=hD (show Below w1.heap.size w1 (w1.alloc (.cells (lH n 0).toArray 3)) from ⟨rfl,rfl,rfl,by simp,λk hk=>Below.heap_alloc _ _ _ hk⟩);have HB2:=hD (HB.o.fr ((fR w1).alloc (.cells (lH n 0).toArray 3)) (λx=>x));have HCP:=hD (show ∀(j:Nat) (v:Value),(List.replicate m0 (Value.int .i64 (-1)))[j]?=some v->(w1.alloc (.cells (lH n 0).toArray 3)).cell? (((b,()):Addr).add j)=some v from λj v hv=>by
  have hl:=(gK hv);rw[List.length_replicate] at hl;have hj:j=0:=by have:=HM0.o.2.1;omega
  subst hj;rw[List.getElem?_replicate,if_pos hl] at hv;injection hv with hv;subst hv;exact (HB2.o.cell 0).trans rfl)
 have HFT:=hD (show 0+(List.replicate m0 (Value.int .i64 (-1))).length≤(lH n 0).length from by rw[List.length_replicate,aAl (Nat.zero_le _)];have:=HM0.o.1;omega);go_wp2_with (refine wpList_copy_splice rfl (.tmp 31) (.tmp 32) 27 27 rfl 3 (by kernel_rfl) (by kernel_rfl) (some (w1.heap.size,())) (some (b,())) n n 1 1 rfl rfl w1.heap.size 0 (lH n 0) 3 HG (List.replicate m0 (-1:Int)) (by rw[List.length_replicate];exact HMM.o.symm) (λ_=>⟨rfl,_,rfl,HCP⟩) HFT (λv hv=>by rw[List.eq_of_mem_replicate hv];rfl) w1.heap.size w1 HBE (Nat.le_refl _) ?_;rw[List.length_replicate])
 intro w4 hg4 hb4;have H4:=hD (show w4.heap[w1.heap.size]?=some (.cells (lH n m0).toArray 3 (0,0)) from by
  have:=hg4.out;rw[wF (by have:=HM0.o.1;omega),Nat.zero_add] at this;exact this)
 have B4:=hD hb4;clear hg4 hb4 HG HBE HB2 HB hm0 HMM hmk hlt k0 HCP HFT;generalize hR:w1.heap.size=R at *;go_wp2
 go_loopw [8] (λv wr=>∃k:Nat,k≤n∧v = .int .i64 k∧Hd (0<n->0<k)∧Hd (wr.heap[R]?=some (.cells (lH n k).toArray 3 (0,0)))∧Hd (Below R w1 wr)) (λv _=>n - (intOf v).toNat)
 case atStart=>exact⟨m0,HM0.o.1,rfl,hD HM0.o.2.2,H4,B4⟩
 case round=>
  clear H4 B4;obtain⟨k,hk,rfl,HP,H,B⟩:=hrel;by_cases hlt:k<n
  . have hlt2:(k:Int)<(n:Int):=by omega
    have hk0:(0:Int)≤(k:Int):=by omega
    have hkn:(k:Int)≤(n:Int):=by omega
    obtain⟨m,hm⟩:∃m,Nat.min k (n - k)=m:=⟨_,rfl⟩;have HMM:=hD hm;have HML:=hD (show k+m≤n∧m≤k∧0<m from by have:=HP.o;rw[<-hm];show k+min k (n - k)≤n∧min k (n - k)≤k∧0<min k (n - k);omega);have HJ:=hD hlt;clear hm;have HD:Hd (wr.drew.heap[R]?=some (.cells (lH n k).toArray 3 (0,0))):=H;have BD:=hD (show Below R w1 wr.drew from ⟨B.o.1,B.o.2,B.o.3,B.o.4,B.o.5⟩);have HCP:=hD (show ∀(j:Nat) (v:Value),(List.replicate m (Value.int .i64 (-1)))[j]?=some v->wr.drew.cell? (((R,()):Addr).add j)=some v from λj v hv=>by
      have hl:=(gK hv);rw[List.length_replicate] at hl;rw[List.getElem?_replicate,if_pos hl] at hv;injection hv with hv;subst hv;rw[aJd,Nat.zero_add];refine ((show Blk wr.drew R 3 (lH n k).toArray from HD).cell j).trans ?_;rw[List.getElem?_toArray];unfold lH;rw[List.getElem?_append_left (by rw[List.length_replicate];have:=HML.o.2.1;omega),List.getElem?_replicate,if_pos (by have:=HML.o.2.1;omega)])
    have HFT:=hD (show k+(List.replicate m (Value.int .i64 (-1))).length≤(lH n k).length from by rw[List.length_replicate,aAl hk];exact HML.o.1);have hne:¬n=k:=by omega
    have hmk9:(m:Int)≤(n:Int):=by have:=HML.o;omega
    have hmk8:(k:Int)+(m:Int)≤(n:Int):=by have:=HML.o;omega
    have hwr:IntKind.i64.wrap ((k:Int)+(m:Int))=((k+m:Nat):Int):=by rw[IntKind.wrap_i64];omega
    clear hlt hk;go_wp2_with fail
    go_region_held3 (λ_=>True) (first|trivial) (first|(refine step_copy_splice rfl (.tmp 41) (.tmp 44) 27 27 rfl 3 (by kernel_rfl) (by kernel_rfl) (some (R,k)) (some (R,())) (n - k) (n - k) k n rfl rfl R k (lH n k) 3 HD (List.replicate m (-1:Int)) (by rw[List.length_replicate];exact HMM.o.symm) (λ_=>⟨rfl,_,rfl,HCP⟩) HFT (λv hv=>by rw[List.eq_of_mem_replicate hv];rfl) R w1 BD (Nat.le_refl _) ?_;rw[List.length_replicate];intro w4 hg4 hb4))
    all_goals
      have H4:=hD (show w4.heap[R]?=some (.cells (lH n (k+m)).toArray 3 (0,0)) from by
        have:=hg4.out;rw[wF HML.o.1] at this;exact this)
      have B4:=hD hb4;clear hg4 hb4 HD BD HCP HFT H B;go_wp2
      go_roundw
      case rel=>exact⟨k+m,HML.o.1,by go_num,hD (λ_=>by have:=HML.o;omega),H4,B4⟩
      case measure=>simp[intOf];have:=HJ.o;have:=HML.o;omega
  . have hlt2:¬(k:Int)<(n:Int):=by omega
    have hkn:k=n:=by omega
    subst hkn;have HR:=hD hR;clear hlt hk;go_wp2
    go_ret;have BL:Blk wr R 3 (lH k k).toArray:=H.o;have e:lH k k=fM (List.replicate k (-1)):=by simp[lH,fM]
    refine⟨_,_,rfl,⟨by simp[fM],some (R,()),k,rfl,?_⟩,λx hx=>?_,?_⟩
    . by_cases h0:k=0
      . exact .inl ⟨h0,h0⟩
      . refine .inr ⟨R,_,rfl,by omega,BL,Nat.le_refl _,by unfold maxLen;omega,by rw[e];simp[fM],?_⟩
        rw[e,List.take_of_length_le (by simp[fM])]
    . by_cases h0:k=0
      . subst h0;simp[blk] at hx
      . rw[aZ (by omega) (Nat.le_refl _)] at hx
        injection hx with hx
        first|(rw[HR.o,hx];exact Nat.le_refl _)|(rw[hx];exact Nat.le_refl _)
    . exact aMp (by rw[HR.o];exact B)
theorem dO.up {B':Nat} (h:dO B w nv fv lvs pvs ns fs) (h1:B≤B') (h2:B'≤w.heap.size):dO B' w nv fv lvs pvs ns fs:=
 ⟨h.tree,λb hb=>Nat.lt_of_lt_of_le (h.hn b hb) h1,λb hb=>Nat.lt_of_lt_of_le (h.hf b hb) h1,λv hv b hb=>Nat.lt_of_lt_of_le (h.hl v hv b hb) h1,λv hv b hb=>Nat.lt_of_lt_of_le (h.hp v hv b hb) h1,h2⟩
section
variable (ns:List aH) (fs:List aD)
theorem iM (f:aD):∀(l:List aD) (k:Nat) (zs:List Nat) (s:CkS),iE ns fs k (l++[f]) zs s=(iE ns fs k l zs s).bind λr=>(gP ns fs (k+l.length) f r.2).map λs'=>(r.1++[s'.size],s')
 | [],k,zs,s=>by
  show (gP ns fs k f s).bind _=(CkR.good (zs,s)).bind _
  rw[CkR.aC]
  show _=(gP ns fs (k+0) f s).map _
  rw[Nat.add_zero];cases gP ns fs k f s<;>rfl
 | a :: l,k,zs,s=>by
  show (gP ns fs k a s).bind _=((gP ns fs k a s).bind _).bind _
  cases gP ns fs k a s with
  | bad e p=>rfl
  | good u=>
   simp only[CkR.aC];rw[show k+(a :: l).length=k+1+l.length by simp;omega];exact iM f l (k+1) _ u
theorem tY:∀(l m:List aD) (k:Nat) (zs:List Nat) (s:CkS),iE ns fs k l zs s = .bad e p->iE ns fs k (l++m) zs s = .bad e p:=by
 intro l m;induction m generalizing l with
 | nil=>intro k zs s h;rw[List.append_nil];exact h
 | cons a m ih=>
  intro k zs s h;have:l++a :: m=(l++[a])++m:=by simp
  rw[this];exact ih (l++[a]) k zs s (by rw[iM,h];rfl)
end
def aLs (B z g bt bs bf ct cs cf:Nat) (nv fv:Value) (lvs pvs:List Value) (ns:List aH) (fs:List aD):Geo:=⟨24,B,z,g,bt,bs,bf,ct,cs,cf,nv,fv,lvs,pvs,ns,fs,0⟩
theorem aFi (h:cs.size=6):∃a b c d e f,cs = #[a,b,c,d,e,f]:=by
 obtain⟨l⟩:=cs
 match l,h with
 | [a,b,c,d,e,f],_=>exact⟨a,b,c,d,e,f,rfl⟩
theorem Fr.six (w:World) (T:Nat) (a b c d e f:Value):Fr (dG T) w ((((((w.setCell (T,()) a).setCell (T,U1) b).setCell (T,U2) c).setCell (T,U3) d).setCell (T,U4) e).setCell (T,U5) f):=
 (Fr.five w T a b c d e).setCell (T,U5) f (λ_=>rfl)
theorem iV.aRh {tv uv zv:Value}{p:gB} (h:iV w nv fv tv sv uv zv lvs pvs p){RB:Nat} (hb:Blk w RB 29 cs) (f:Fr (dG RB) w w'):iV w' nv fv tv sv uv zv lvs pvs p:=by
 have own:∀{n:Nat} {v:Value} {xs:List Value},Own w 3 1 v n xs->Own w' 3 1 v n xs:=λho=>ho.fr f λb hb' hm=>by
  have hm:b=RB:=hm;subst hm;exact ho.aG hb (by decide) hb'
 exact⟨h.tree.aRw hb (by decide) (by decide) (by decide) (by decide) f,own h.types,own h.slots,own h.fn,own h.sizes⟩
theorem sP {wx:World}{T:Nat} (hT:w.heap.size≤T) (F:Fr nob w wx) (a b c d e f:Value):Fr nob w ((((((wx.setCell (T,()) a).setCell (T,U1) b).setCell (T,U2) c).setCell (T,U3) d).setCell (T,U4) e).setCell (T,U5) f):=
 (F.trans (M:=λb=>b=T) (Fr.six wx T a b c d e f) (λ_ _ x=>x.elim) (λb _ hb=>hb)).mono (λb hb hm=>by have hm:b=T:=hm;omega)
theorem Blk.at_ {t:TypeId} (h:a=w.heap.size):Blk (w.alloc (.cells cs t)) a t cs:=h ▸ Blk.new w t cs
theorem aAf (hn:n≤300) (h:Blk w a 3 (lH n 0).toArray):Own w 3 1 (a,n,n) n (ints (List.replicate n 0)):=by
 refine⟨by simp[ints],some (a,()),n,rfl,?_⟩;by_cases h0:n=0
 . exact .inl ⟨h0,h0⟩
 . refine .inr ⟨a,_,rfl,by omega,h,Nat.le_refl _,by unfold maxLen;omega,by simp[lH],?_⟩
   rw[List.take_of_length_le (by simp[lH])];simp[lH,ints]
structure Q1 (B g:Nat) (nv fv:Value) (lvs pvs:List Value) (ns:List aH) (fs:List aD) (w:World) (tv sv uv:Value):Prop where
 tree:dO B w nv fv lvs pvs ns fs
 blk_:Blk w g 94 (jJ nv fv tv sv uv Un Un 0 0 0 0)
 types:Own w 3 1 tv ns.length (ints (List.replicate ns.length 0))
 slots:Own w 3 1 sv ns.length (fM (List.replicate ns.length (-1)))
 fn:Own w 3 1 uv ns.length (ints (List.replicate ns.length 0))
 hg:B≤g
 ht:∀x,blk tv=some x->B≤x
 hs:∀x,blk sv=some x->B≤x
 hf:∀x,blk uv=some x->B≤x
 ts:∀x,blk tv=some x->blk sv≠some x
 tf:∀x,blk tv=some x->blk uv≠some x
 sf:∀x,blk sv=some x->blk uv≠some x
theorem dO.frn (h:dO B w nv fv lvs pvs ns fs) (f:Fr nob w w'):dO B w' nv fv lvs pvs ns fs:=
 h.keep (λb hb=>f.block b (Nat.lt_of_lt_of_le hb h.le) (λx=>x)) f.size
theorem Q1.mk' {c:Nat}{W:World} (hn:n=ns.length) (hn3:n≤300) (tree:dO B W nv fv lvs pvs ns fs)
  (hb:Blk W g 94 (jJ nv fv (a,n,n) sv (c,n,n) Un Un 0 0 0 0)) (h1:Blk W a 3 (lH n 0).toArray) (h2:Own W 3 1 sv n (fM (List.replicate n (-1)))) (h3:Blk W c 3 (lH n 0).toArray)
  (hsz:B≤a∧B≤c∧B≤g∧a≠c) (hs:∀x,blk sv=some x->B≤x∧x≠a∧x≠c):Q1 B g nv fv lvs pvs ns fs W (a,n,n) sv (c,n,n):=by
 subst hn;have e:∀{d x:Nat},blk (d,ns.length,ns.length)=some x->x=d:=λ{d x} h=>by
  by_cases h0:ns.length=0
  . rw[h0] at h;simp[blk] at h
  . rw[aZ (by omega) (Nat.le_refl _)] at h;injection h with h;exact h.symm
 exact⟨tree,hb,aAf hn3 h1,h2,aAf hn3 h3,hsz.2.2.1,λx hx=>by rw[e hx];exact hsz.1,λx hx=>(hs x hx).1,λx hx=>by rw[e hx];exact hsz.2.1,
  λx hx h=>(hs x h).2.1 (e hx),λx hx h=>hsz.2.2.2 ((e hx).symm.trans (e h)),λx hx h=>(hs x hx).2.2 (e h)⟩
theorem Q1.pack {c:Nat}{w2:World}{W:World} (hn:n=ns.length) (hn3:n≤300) (tree:dO B W nv fv lvs pvs ns fs)
  (hb:Blk W g 94 (jJ nv fv (a,n,n) sv (c,n,n) Un Un 0 0 0 0)) (h1:Blk W a 3 (lH n 0).toArray) (h2:Own W 3 1 sv n (fM (List.replicate n (-1)))) (h3:Blk W c 3 (lH n 0).toArray)
  (hsz:B≤a∧B≤c∧B≤g∧a≠c) (hs:∀x,blk sv=some x->B≤x∧x≠a∧x≠c) (fw:Fr nob w2 W):
  ∃(g':Nat) (tv sv' uv:Value),Value.pointer (some (g,())) = .pointer (some (g',()))∧Hd (Q1 B g' nv fv lvs pvs ns fs W tv sv' uv)∧Hd (Fr nob w2 W):=
 ⟨g,_,_,_,rfl,hD (Q1.mk' hn hn3 tree hb h1 h2 h3 hsz hs),hD fw⟩
theorem Q1.aSn {tv uv:Value} (h:Q1 B g nv fv lvs pvs ns fs w tv sv uv) (hok:lG ns fs) (hk:∀nd∈ns,nd.l.length≤300) (hn:0<ns.length) (hf:0<fs.length):
  ∃bt bs bf c1 c2 c3,Kq (aLs B w.heap.size g bt bs bf c1 c2 c3 nv fv lvs pvs ns fs) w (gD ns) [] 0 0 0:=by
 obtain⟨A1,c1,rfl,-,-⟩:=h.types.cap;obtain⟨A2,c2,rfl,-,-⟩:=h.slots.cap;obtain⟨A3,c3,rfl,-,-⟩:=h.fn.cap;obtain⟨bt,rfl,-⟩:=h.types.some hn;obtain⟨bs,rfl,-⟩:=h.slots.some hn;obtain⟨bf,rfl,-⟩:=h.fn.some hn;have q1:=aZ (b:=bt) hn h.types.oU.1;have q2:=aZ (b:=bs) hn h.slots.oU.1;have q3:=aZ (b:=bf) hn h.fn.oU.1;refine⟨bt,bs,bf,c1,c2,c3,⟨⟨(by decide:24≤1000),h.hg,h.ht _ q1,h.hs _ q2,h.hf _ q3,h.blk_.lt,h.types.bD q1,h.slots.bD q2,h.fn.bD q3,λe=>h.ts _ q1 (q2.trans (congrArg some (Eq.symm e))),λe=>h.tf _ q1 (q3.trans (congrArg some (Eq.symm e))),λe=>h.sf _ q2 (q3.trans (congrArg some (Eq.symm e))),hn,hok.few,hok.fewf,hok.pars,hk,hok⟩,
  h.tree,⟨Un,Un,h.blk_,Own.nil _ _ _,λb hb=>by simp[blk] at hb,Own.nil _ _ _,λb hb=>by simp[blk] at hb⟩,h.types,h.slots,h.fn,hf,Nat.zero_le _,λ_=>Nat.zero_le _,Nat.le_refl _,Nat.zero_le _,Nat.le_refl _,Nat.zero_le _⟩⟩
def L2q (B g:Nat) (nv fv:Value) (lvs pvs:List Value) (ns:List aH) (fs:List aD) (i:Nat) (w:World) (e p:Nat):Prop:=
 w.cell? (g,0)=e∧w.cell? (g,1)=p∧g<w.heap.size ∧
 ((e=0∧p=0∧iZ fs = .good ()∧0<fs.length∧∃G zs s k,Kq G w s zs k 0 0∧G.B=B∧G.g=g∧G.M=24∧G.L=0∧G.nv=nv∧G.fv=fv∧G.lvs=lvs∧G.pvs=pvs∧G.ns=ns∧G.fs=fs∧zs.length=i∧iE ns fs 0 (fs.take i) [] (gD ns) = .good (zs,s))∨(e≠0∧e≤99∧dV ns fs = .bad e p))
theorem L2q.no {i:Nat} (h:L2q B g nv fv lvs pvs ns fs i w e p) (f:Fr nob w w'):L2q B g nv fv lvs pvs ns fs i w' e p:=by
 obtain⟨h1,h2,h3,h4⟩:=h;refine⟨(f.cell (p:=(g,())) h3 (λx=>x)).trans h1,(f.cell (p:=(g,U1)) h3 (λx=>x)).trans h2,Nat.lt_of_lt_of_le h3 f.size,?_⟩;rcases h4 with ⟨a,b,c,d,G,zs,s,k,hk,r⟩|h4
 . exact .inl ⟨a,b,c,d,G,zs,s,k,hk.no f,r⟩
 . exact .inr h4
section
variable {w w':World}{lvs pvs:List Value}{ns:List aH}{fs:List aD}
theorem aDe {NA FA:Option Addr}{NC FC:Nat} (ht:dL 0 w (.slice NA ns.length NC) (.slice FA fs.length FC) lvs pvs ns fs) (hok:lG ns fs) (hk:∀nd∈ns,nd.l.length≤300):
  Calls prog 31 #[.agg #[.slice NA ns.length NC,.slice FA fs.length FC]] w λen w'=>CheckAt w' en (.slice NA ns.length NC) (.slice FA fs.length FC) lvs pvs (dV ns fs)∧Fr nob w w':=by
 have hns:=hok.few;have hfs:=hok.fewf;have hn3:(ns.length:Int)≤300:=by omega
 have hf3:(fs.length:Int)≤6:=by omega
 have HO:=hD hok;have HKD:=hD hk;have F2:Hd (Fr nob w ((w.alloc (.cells #[.slice NA ns.length NC,.slice FA fs.length FC] 26)).alloc (.cells #[Un,Un,Un,Un,Un,Un] 29))):=((fR w).alloc _).alloc _;have TB2:=hD ((Blk.new w 26 #[.slice NA ns.length NC,.slice FA fs.length FC]).alloc (.cells #[Un,Un,Un,Un,Un,Un] 29));have RB2:Hd (Blk ((w.alloc (.cells #[.slice NA ns.length NC,.slice FA fs.length FC] 26)).alloc (.cells #[Un,Un,Un,Un,Un,Un] 29)) (w.heap.size+1) 29 #[Un,Un,Un,Un,Un,Un]):=Blk.at_ (by simp);have TL:=hD ((dO.of ht).keep (w':=(w.alloc (.cells #[.slice NA ns.length NC,.slice FA fs.length FC] 26)).alloc (.cells #[Un,Un,Un,Un,Un,Un] 29)) (λb hb=>(F2.o.block b hb (λx=>x))) F2.o.size);have hmk:=tX ns.length (by omega);clear ht hok hk;go_enter func31,ntmps31;go_upto_region 2 with fail;have HSZ:=hD (show ((w.alloc (.cells #[.slice NA ns.length NC,.slice FA fs.length FC] 26)).alloc (.cells #[Un,Un,Un,Un,Un,Un] 29)).heap.size=w.heap.size+2 from by simp);generalize ((w.alloc (.cells #[.slice NA ns.length NC,.slice FA fs.length FC] 26)).alloc (.cells #[Un,Un,Un,Un,Un,Un] 29))=w2 at *;generalize hT:w.heap.size=T at *
 have KF:=hD (show ∀wx,Fr nob w2 wx->wx.cell? (T,0)=some (.slice NA ns.length NC)∧wx.cell? (T,1)=some (.slice FA fs.length FC) from λwx f=>⟨((TB2.o.fr f (λx=>x)).cell 0).trans rfl,((TB2.o.fr f (λx=>x)).cell 1).trans rfl⟩);obtain⟨t0,t1⟩:=KF.o w2 (fR w2);have HN9:=hD hns;have HB2:Hd (w2.heap.size=T+2):=HSZ;have TL2:Hd (dO (T+2) w2 (.slice NA ns.length NC) (.slice FA fs.length FC) lvs pvs ns fs):=TL.o.up (by omega) (by rw[HB2.o];exact Nat.le_refl _);go_cut [6] (λv wx=>∃(g:Nat) (tv sv uv:Value),v = .pointer (some (g,()))∧Hd (Q1 (T+2) g (.slice NA ns.length NC) (.slice FA fs.length FC) lvs pvs ns fs wx tv sv uv)∧Hd (Fr nob w2 wx))
 case first=>
  go_region_held3 (λwx=>wx.cell? (T,0)=some (.slice NA ns.length NC)∧wx.cell? (T,1)=some (.slice FA fs.length FC)) (first|exact⟨t0,t1⟩|(refine KF _ ?_;repeat (first|exact F8.o|exact fR w2|exact (fR w2).drew|refine Fr.alloc ?_ _|refine Fr.drew ?_))) (first
   | (go_at_call 58;go_loud (refine (yO ns.length HN9 (by repeat (first|exact Blk.at_ (by simp)|refine Blk.alloc ?_ _))).mono ?_);go_loud (rintro en w8 ⟨A8,c8,rfl,ho8,hn8,f8⟩);go_loud (have O8:=hD ho8);go_loud (have N8:=hD hn8);go_loud (have P8:=hD f8);go_loud (have F8:Hd (Fr nob w2 w8):=Fr.tr (by repeat (first|exact fR w2|refine Fr.alloc ?_ _|refine Fr.drew ?_)) f8);go_loud (clear ho8 hn8 f8)))
  all_goals
   go_wp2_with fail
   go_meet
   have hz:=P8.o.size;have hz0:=HB2.o;simp at hz
   apply Q1.pack rfl HN9.o
   case hb=>refine Blk.at_ ?_;simp
   case fw=>repeat (first|exact F8.o|exact fR w2|refine Fr.alloc ?_ _|refine Fr.drew ?_)
   case tree=>
     refine TL2.o.frn ?_;repeat (first|exact F8.o|exact fR w2|refine Fr.alloc ?_ _|refine Fr.drew ?_)
   case h1=>repeat (first|(refine Blk.at_ ?_;simp;done)|refine Blk.alloc ?_ _|refine Blk.fr ?_ P8 (λx=>x)|refine Blk.fr ?_ (fR _).drew (λx=>x))
   case h3=>repeat (first|(refine Blk.at_ ?_;simp;done)|refine Blk.alloc ?_ _|refine Blk.fr ?_ P8 (λx=>x)|refine Blk.fr ?_ (fR _).drew (λx=>x))
   case h2=>repeat (first|exact O8.o|refine Own.alloc ?_ _)
   case hsz=>refine⟨by omega,by omega,by omega,by omega⟩
   case hs=>
     intro x hx;have q1:=N8.o x hx;have q2:=O8.o.bD hx;simp at q1
     exact⟨by omega,by omega,by omega⟩
 case rest=>
  obtain⟨g,tv,sv,uv,rfl,Q,F3⟩:=hcut;have TB3:=hD (TB2.o.fr F3 (λx=>x));have RB3:=hD (RB2.o.fr F3 (λx=>x));have c1:wc.cell? (T,1)=some (.slice FA fs.length FC):=(TB3.o.cell 1).trans rfl;clear KF t0 t1 hmk TB2 RB2 TL TL2;go_wp2_with fail
  refine (aCt Q.o.blk_ Q.o.tree.tree HO.o.fewf HO.o.pars).mono ?_;rintro en w4 ⟨rfl,f4,e,p,hb4,hm⟩;have GT:Hd (T+2≤g):=Q.o.hg;have F4:=hD (show Fr (λb=>T+2≤b) w2 w4 from Fr.trans F3 f4 (λ_ _ x=>x.elim) (λb _ hb=>by rw[show b=g from hb];exact GT));have T4:=hD (TB3.o.fr f4 (λhb=>by have h1:T=g:=hb;have:=GT.o;omega));have R4:=hD (RB3.o.fr f4 (λhb=>by have h1:T+1=g:=hb;have:=GT.o;omega));have L4:=hD (Q.o.tree.keep (w':=w4) (λb hb=>f4.block b (Nat.lt_of_lt_of_le hb Q.o.tree.le) (λhm=>by have h1:b=g:=hm;have:=GT.o;omega)) f4.size);have LL:=hD (show L2q (T+2) g (.slice NA ns.length NC) (.slice FA fs.length FC) lvs pvs ns fs 0 w4 e p from by
   refine⟨(hb4.cell 0).trans rfl,(hb4.cell 1).trans rfl,hb4.lt,?_⟩;rcases hm with ⟨rfl,rfl,h3⟩|⟨h1,h2,h3⟩
   . have hne:0<fs.length:=by
       cases hfs':fs with
       | nil=>rw[hfs'] at h3;cases h3
       | cons a l=>simp
     have hnn:0<ns.length:=by
       obtain⟨c,hc,_⟩:=HO.o.bodies _ (List.getElem_mem hne);have:=(gK hc);omega
     obtain⟨bt,bs,bf,ct,cs,cf,hck⟩:=Q.o.aSn HO HKD hnn hne;refine .inl ⟨rfl,rfl,h3,hne,aLs (T+2) wc.heap.size g bt bs bf ct cs cf (.slice NA ns.length NC) (.slice FA fs.length FC) lvs pvs ns fs,[],gD ns,0,?_,rfl,rfl,rfl,rfl,rfl,rfl,rfl,rfl,rfl,rfl,rfl,by rw[List.take_zero];rfl⟩;refine hck.keep f4.size λb hbl hbb=>?_
     by_cases hbg:b=g
     . subst hbg
       have e1:w4.heap[b]?=some (.cells (jJ (.slice NA ns.length NC) (.slice FA fs.length FC) tv sv uv Un Un 0 0 0 0) 94 (0,0)):=hb4;have e3:wc.heap[b]?=some (.cells (jJ (.slice NA ns.length NC) (.slice FA fs.length FC) tv sv uv Un Un 0 0 0 0) 94 (0,0)):=Q.o.blk_;rw[e1,e3]
     . exact f4.block b hbl hbg
   . refine .inr ⟨h1,h2,?_⟩
     unfold dV;rw[h3];rfl)
  have t1:w4.cell? (T,1)=some (.slice FA fs.length FC):=(T4.o.cell 1).trans rfl;clear Q F3 f4 hb4 hm TB3 RB3 c1;go_wp2
  clear t1;go_loopw [30] (λi wq=>∃(j e p:Nat),j≤fs.length∧i = .int .i64 j∧Hd (L2q (T+2) g (.slice NA ns.length NC) (.slice FA fs.length FC) lvs pvs ns fs j wq e p)∧Hd (Blk wq T 26 #[.slice NA ns.length NC,.slice FA fs.length FC])∧Hd (Blk wq (T+1) 29 #[Un,Un,Un,Un,Un,Un])∧Hd (dO (T+2) wq (.slice NA ns.length NC) (.slice FA fs.length FC) lvs pvs ns fs)∧Hd (Fr (λb=>T+2≤b) w2 wq)) (λi _=>fs.length - (intOf i).toNat)
  case atStart=>exact⟨0,e,p,Nat.zero_le _,rfl,LL,T4,R4,L4,F4⟩
  case round=>
   clear LL T4 R4 L4 F4;obtain⟨j,e,p,hj,rfl,LL,TT,RR,TW,FR⟩:=hrel;by_cases hlt:j<fs.length
   . have hlt2:(j:Int)<(fs.length:Int):=by omega
     obtain⟨f,hf⟩:∃f,fs[j]?=some f:=⟨_,gE hlt⟩;obtain⟨pv,hpv⟩:∃pv,pvs[j]?=some pv:=⟨_,gE (by have:=TW.o.tree.samef;omega)⟩;have hpo:=TW.o.tree.pars.get hf hpv;obtain⟨PA,PC,hpe,-,-⟩:=hpo.cap;obtain⟨fb,e9,hcell⟩:=TW.o.tree.fns.some (by omega);subst e9;subst hpe;have key:=dN hf hpv;have y0:=hcell _ _ (key 0 _ rfl);have y1:=hcell _ _ (key 1 _ rfl);have y2:=hcell _ _ (key 2 _ rfl);have y3:=hcell _ _ (key 3 _ rfl);have y4:=hcell _ _ (key 4 _ rfl);rw[Nat.add_zero] at y0;have FE:Hd (Fr nob wr (wr.alloc (.cells #[bs f.name,f.line,.slice PA f.params.length PC,f.ret,f.body] 48))):=(fR wr).alloc _;have BE:=hD (Blk.new wr 48 #[bs f.name,f.line,.slice PA f.params.length PC,f.ret,f.body]);have HF:=hD (And.intro hf hpv);have HJ:=hD hlt;have hj6:(j:Int)≤6:=by omega
     clear hf hpv hpo hcell key hlt hj;go_upto_region 7 with fail;clear y0 y1 y2 y3 y4;generalize hw5:wr.alloc (.cells #[bs f.name,f.line,.slice PA f.params.length PC,f.ret,f.body] 48)=w5 at *;have L5:=hD (LL.o.no FE);have T5:=hD (TT.o.fr FE (λx=>x));have R5:=hD (RR.o.fr FE (λx=>x));have W5:=hD (TW.o.frn FE);have F5:=hD (FR.o.tr (Fr.aEv FE));clear LL TT RR TW FR FE hw5;generalize wr.heap.size=E at *;have c0:=L5.o.1;have glt:=L5.o.2.2.1;by_cases he:e=0
     . have heb:((e:Int)==0)=true:=by rw[he];rfl
       rcases L5.o.2.2.2 with ⟨_,hp0,hh,hf0,GG,zs,s,k,hck,g1,g2,g3,gL,g4,g5,g6,g7,g8,g9,hzl,hfu⟩|⟨h0,_⟩
       case inr=>exact absurd he h0
       have hbd:=HO.o.bodies f (List.mem_of_getElem? HF.o.1);have HC:=hD (uS (k:=j) g3 gL hck (by rw[g9];exact HF.o.1) (by omega) (by rw[g7];exact HF.o.2) rfl (λzs=>by
        obtain⟨c,hc,hcb⟩:=hbd;exact tH _ f.body c GG hck.geo g3 (by rw[g8];exact (gK hc)) (by rw[g8];exact hc) (by simpa[xQ] using hcb)))
       have HX:=hD (And.intro hh (And.intro hf0 (And.intro hzl hfu)));have HG:=hD (And.intro g1 (And.intro g2 (And.intro g3 (And.intro gL (And.intro g4 (And.intro g5 (And.intro g6 (And.intro g7 (And.intro g8 g9)))))))));rw[g2] at HC;have b0:=(BE.o.cell 0).trans (show _=some (Value.string (bs f.name)) from rfl);have b1:=(BE.o.cell 1).trans (show _=some (Value.int .i64 (f.line:Nat)) from rfl);have b2:=(BE.o.cell 2).trans (show _=some (Value.slice PA f.params.length PC) from rfl);have b3:=(BE.o.cell 3).trans (show _=some (Value.int .i64 (f.ret:Nat)) from rfl);have b4:=(BE.o.cell 4).trans (show _=some (Value.int .i64 (f.body:Nat)) from rfl);clear hck g1 g2 g3 gL g4 g5 g6 g7 g8 g9 hh hf0 hzl hfu hbd hp0;go_wp2_with fail
       refine HC.o.mono ?_;rintro en w6 ⟨rfl,hk6,f6⟩;obtain⟨g1,g2,g3,gL,g4,g5,g6,g7,g8,g9⟩:=HG.o;rw[g1] at f6;rw[g8,g9] at hk6;have F6:Hd (Fr (λb=>T+2≤b) w2 w6):=F5.o.tr f6;have T6:=hD (T5.o.fr f6 (λhb=>by have h1:T+2≤T:=hb;omega));have R6:=hD (R5.o.fr f6 (λhb=>by have h1:T+2≤T+1:=hb;omega));have W6:=hD (W5.o.keep (w':=w6) (λb hb=>f6.block b (Nat.lt_of_lt_of_le hb W5.o.le) (λhm=>by have h1:T+2≤b:=hm;omega)) f6.size);have L6:=hD (show ∃e p,L2q (T+2) g (.slice NA ns.length NC) (fb,fs.length,FC) lvs pvs ns fs (j+1) w6 e p from by
        obtain⟨hh,hf0,hzl,hfu⟩:=HX.o;have hf:=HF.o.1;have hT:fs.take (j+1)=fs.take j++[f]:=by rw[List.take_add_one,hf];rfl
        have hlj:(fs.take j).length=j:=by rw[List.length_take];have:=HJ.o;omega
        cases hfn:gP ns fs j f s with
        | good s'=>
          rw[hfn] at hk6;obtain⟨Z,hc5⟩:=hk6;obtain⟨_,_,-,-,-,-,-,-,-,-,-,q0,q1,-⟩:=hc5.cells;have hgl:=hc5.jM;have g2':(GG.atZ Z).g=g:=g2;rw[g2'] at q0 q1 hgl;refine⟨0,0,q0,q1,hgl,.inl ⟨rfl,rfl,hh,hf0,GG.atZ Z,zs++[s'.size],s',j,hc5,g1,g2,g3,gL,g4,g5,g6,g7,g8,g9,by rw[List.length_append,hzl];rfl,?_⟩⟩;rw[hT,iM,hfu,CkR.aC,hlj,Nat.zero_add,hfn];rfl
        | bad e' p'=>
          rw[hfn] at hk6;obtain⟨h1,h2,Z,s',zs',hc5⟩:=hk6;obtain⟨_,_,-,-,-,-,-,-,-,-,-,q0,q1,-⟩:=hc5.cells;have hgl:=hc5.jM;have g2':(GG.atZ Z).more.g=g:=g2;rw[g2'] at q0 q1 hgl;refine⟨e',p',q0,q1,hgl,.inr ⟨h1,h2,?_⟩⟩;unfold dV;rw[hh,CkR.aC];have hb:iE ns fs 0 (fs.take (j+1)) [] (gD ns) = .bad e' p':=by
           rw[hT,iM,hfu,CkR.aC,hlj,Nat.zero_add,hfn];rfl
          have:=tY ns fs (fs.take (j+1)) (fs.drop (j+1)) 0 [] (gD ns) hb;rw[List.take_append_drop] at this;rw[this];rfl)
       clear hk6 f6 g1 g2 g3 gL g4 g5 g6 g7 g8 g9 HC HX HG L5 T5 R5 W5 F5 c0 glt b0 b1 b2 b3 b4 BE he;obtain⟨e',p',L7⟩:=L6.o;have L7:=hD L7;clear L6;go_wp2
       go_roundw
       case rel=>exact⟨j+1,e',p',by have:=HJ.o;omega,by go_num,L7,T6,R6,W6,F6⟩
       case measure=>simp[intOf];have:=HJ.o;omega
     . have heb:((e:Int)==0)=false:=bN.2 (by omega)
       have L7:=hD (show L2q (T+2) g (.slice NA ns.length NC) (fb,fs.length,FC) lvs pvs ns fs (j+1) w5 e p from by
        obtain⟨q0,q1,q2,q3⟩:=L5.o;rcases q3 with ⟨h0,_⟩|h1
        . exact absurd h0 he
        . exact⟨q0,q1,q2,.inr h1⟩)
       clear L5 BE he;go_wp2
       clear c0 glt;go_roundw
       case rel=>exact⟨j+1,e,p,by have:=HJ.o;omega,by go_num,L7,T5,R5,W5,F5⟩
       case measure=>simp[intOf];have:=HJ.o;omega
   . have hlt2:¬(j:Int)<(fs.length:Int):=by omega
     have hje2:j=fs.length:=by omega
     subst hje2;have c0:=LL.o.1;have c1:=LL.o.2.1;have glt:=LL.o.2.2.1;have z0:=RR.o.frozen 0;have z1:=RR.o.frozen 1;have z2:=RR.o.frozen 2;have z3:=RR.o.frozen 3;have z4:=RR.o.frozen 4;have z5:=RR.o.frozen 5;have rlt:=RR.o.lt;have gnr:¬g=T+1:=by have:=GT.o;omega
     have r0:wr.cell? (T+1,0)=Un:=(RR.o.cell 0).trans rfl;have r1:wr.cell? (T+1,1)=Un:=(RR.o.cell 1).trans rfl;have r2:wr.cell? (T+1,2)=Un:=(RR.o.cell 2).trans rfl;have r3:wr.cell? (T+1,3)=Un:=(RR.o.cell 3).trans rfl;have r4:wr.cell? (T+1,4)=Un:=(RR.o.cell 4).trans rfl;have r5:wr.cell? (T+1,5)=Un:=(RR.o.cell 5).trans rfl;have FF:=hD (show ∀w',Fr (dG (T+1)) wr w'->Fr nob w w' from λw' f=>by
       have h1:Fr (λb=>T≤b) w w':=(Fr.aEv (M:=λb=>T≤b) F2).tr ((FR.o.mono (λb _ hb=>by have hb:T+2≤b:=hb;show T≤b;omega)).trans f (λ_ _ x=>x) (λb _ hb=>by rw[show b=T+1 from hb];show T≤T+1;omega));exact h1.mono (λb hb hm=>by have hm:T≤b:=hm;omega))
     clear hlt hj;by_cases he:e=0
     . have hne:((e:Int) != 0)=false:=by rw[he];rfl
       have heb:((e:Int)==0)=true:=by rw[he];rfl
       rcases LL.o.2.2.2 with ⟨-,hp0,hh,hf0,GG,zs,s,k,hck,g1,g2,g3,gL,g4,g5,g6,g7,g8,g9,hzl,hfu⟩|⟨h0,_⟩
       case inr=>exact absurd he h0
       rw[List.take_of_length_le (Nat.le_refl _)] at hfu;have CA:=hD (show dV ns fs = .good (⟨ns,fs,s.types,s.slots,s.fn,zs⟩:gB) from by unfold dV;rw[hh,CkR.aC,hfu];rfl);obtain⟨M,B,Z,gg,bt,bq,bf,ct,cq,cf,nv,fv,lv,pv,nn,ff,LLL⟩:=GG;dsimp only at g1 g2 g3 gL g4 g5 g6 g7 g8 g9;subst g1 g2 g4 g5 g6 g7 g8 g9;obtain⟨zv,vv,hb,hz,-⟩:=hck.ex;obtain⟨ZA,ZC,rfl,-,-⟩:=hz.cap;dsimp only at hb hz;have q2:wr.cell? (gg,2)=some (.slice NA nn.length NC):=(hb.cell 2).trans rfl;have q3:wr.cell? (gg,3)=some (.slice FA ff.length FC):=(hb.cell 3).trans rfl;have q4:wr.cell? (gg,4)=(bt,nn.length,ct):=(hb.cell 4).trans rfl;have q5:wr.cell? (gg,5)=(bq,nn.length,cq):=(hb.cell 5).trans rfl;have q6:wr.cell? (gg,6)=(bf,nn.length,cf):=(hb.cell 6).trans rfl;have q7:wr.cell? (gg,7)=some (.slice ZA zs.length ZC):=(hb.cell 7).trans rfl;have HPR:=hD (show iV wr (.slice NA nn.length NC) (.slice FA ff.length FC) (bt,nn.length,ct) (bq,nn.length,cq) (bf,nn.length,cf) (.slice ZA zs.length ZC) lv pv (⟨nn,ff,s.types,s.slots,s.fn,zs⟩:gB) from
        ⟨hck.tree.tree,by have h9:=hck.types;have h8:=h9.len;simp[ints] at h8;rw[show s.types.length=nn.length from h8];exact h9,by have h9:=hck.slots;have h8:=h9.len;simp[fM] at h8;rw[show s.slots.length=nn.length from h8];exact h9,by have h9:=hck.fn;have h8:=h9.len;simp[ints] at h8;rw[show s.fn.length=nn.length from h8];exact h9,hz⟩)
       have BE:Hd (Blk ((((((wr.setCell (T+1,()) (.slice NA nn.length NC)).setCell (T+1,U1) (.slice FA ff.length FC)).setCell (T+1,U2) (bt,nn.length,ct)).setCell (T+1,U3) (bq,nn.length,cq)).setCell (T+1,U4) (bf,nn.length,cf)).setCell (T+1,U5) (.slice ZA zs.length ZC)) (T+1) 29 #[.slice NA nn.length NC,.slice FA ff.length FC,(bt,nn.length,ct),(bq,nn.length,cq),(bf,nn.length,cf),.slice ZA zs.length ZC]):=((((((RR.o.setCell 0 (.slice NA nn.length NC)).setCell 1 (.slice FA ff.length FC)).setCell 2 (bt,nn.length,ct)).setCell 3 (bq,nn.length,cq)).setCell 4 (bf,nn.length,cf)).setCell 5 (.slice ZA zs.length ZC));have FE:=hD (FF ((((((wr.setCell (T+1,()) (.slice NA nn.length NC)).setCell (T+1,U1) (.slice FA ff.length FC)).setCell (T+1,U2) (bt,nn.length,ct)).setCell (T+1,U3) (bq,nn.length,cq)).setCell (T+1,U4) (bf,nn.length,cf)).setCell (T+1,U5) (.slice ZA zs.length ZC)) (Fr.six wr (T+1) (.slice NA nn.length NC) (.slice FA ff.length FC) (bt,nn.length,ct) (bq,nn.length,cq) (bf,nn.length,cf) (.slice ZA zs.length ZC)));have PE:=hD (HPR.o.aRh RR (Fr.six wr (T+1) (.slice NA nn.length NC) (.slice FA ff.length FC) (bt,nn.length,ct) (bq,nn.length,cq) (bf,nn.length,cf) (.slice ZA zs.length ZC)));clear hck hb hz hh hf0 hzl hfu hp0 he g3 gL LL;go_wp2_with fail
       all_goals
        clear r0 r1 r2 r3 r4 r5 z0 z1 z2 z3 z4 z5;generalize ((((((wr.setCell (T+1,()) (.slice NA nn.length NC)).setCell (T+1,U1) (.slice FA ff.length FC)).setCell (T+1,U2) (bt,nn.length,ct)).setCell (T+1,U3) (bq,nn.length,cq)).setCell (T+1,U4) (bf,nn.length,cf)).setCell (T+1,U5) (.slice ZA zs.length ZC))=wz at *;have z0:wz.cell? (T+1,0)=some (.slice NA nn.length NC):=(BE.o.cell 0).trans rfl;have z1:wz.cell? (T+1,1)=some (.slice FA ff.length FC):=(BE.o.cell 1).trans rfl;have z2:wz.cell? (T+1,2)=(bt,nn.length,ct):=(BE.o.cell 2).trans rfl;have z3:wz.cell? (T+1,3)=(bq,nn.length,cq):=(BE.o.cell 3).trans rfl;have z4:wz.cell? (T+1,4)=(bf,nn.length,cf):=(BE.o.cell 4).trans rfl;have z5:wz.cell? (T+1,5)=some (.slice ZA zs.length ZC):=(BE.o.cell 5).trans rfl;go_wp2
        refine bodyPost_ret (v:= .tuple #[.agg #[.slice NA nn.length NC,.slice FA ff.length FC,(bt,nn.length,ct),(bq,nn.length,cq),(bf,nn.length,cf),.slice ZA zs.length ZC],U0,U0]) (by simp[results,results31,go_sem,z0,z1,z2,z3,z4,z5]) rfl ⟨by rw[CA.o];exact⟨_,_,_,_,rfl,by first|exact PE.o|exact PE.o.no ((fR _).drew)⟩,by first|exact FE.o|exact FE.o.drew⟩
     . have heb:((e:Int)==0)=false:=bN.2 (by omega)
       have hne:((e:Int) != 0)=true:=by rw[bne,bN.2 (by omega)];rfl
       have CA:=hD (show dV ns fs = .bad e p∧e≠0∧e≤99 from by
        rcases LL.o.2.2.2 with ⟨h1,_⟩|⟨h1,h2,h3⟩
        . exact absurd h1 he
        . exact⟨h3,h1,h2⟩)
       clear he;go_wp2_with fail
       have BE:Hd (Blk ((((((wr.setCell (T+1,()) Un).setCell (T+1,U1) Un).setCell (T+1,U2) Un).setCell (T+1,U3) Un).setCell (T+1,U4) Un).setCell (T+1,U5) Un) (T+1) 29 #[Un,Un,Un,Un,Un,Un]):=((((((RR.o.setCell 0 Un).setCell 1 Un).setCell 2 Un).setCell 3 Un).setCell 4 Un).setCell 5 Un);have FE:=hD (FF ((((((wr.setCell (T+1,()) Un).setCell (T+1,U1) Un).setCell (T+1,U2) Un).setCell (T+1,U3) Un).setCell (T+1,U4) Un).setCell (T+1,U5) Un) (Fr.six wr (T+1) Un Un Un Un Un Un));clear heb rlt;go_region_law (fail)
       all_goals
        clear r0 r1 r2 r3 r4 r5 z0 z1 z2 z3 z4 z5;generalize ((((((wr.setCell (T+1,()) Un).setCell (T+1,U1) Un).setCell (T+1,U2) Un).setCell (T+1,U3) Un).setCell (T+1,U4) Un).setCell (T+1,U5) Un)=wz at *;have z0:wz.cell? (T+1,0)=Un:=(BE.o.cell 0).trans rfl;have z1:wz.cell? (T+1,1)=Un:=(BE.o.cell 1).trans rfl;have z2:wz.cell? (T+1,2)=Un:=(BE.o.cell 2).trans rfl;have z3:wz.cell? (T+1,3)=Un:=(BE.o.cell 3).trans rfl;have z4:wz.cell? (T+1,4)=Un:=(BE.o.cell 4).trans rfl;have z5:wz.cell? (T+1,5)=Un:=(BE.o.cell 5).trans rfl;go_wp2
        refine bodyPost_ret (v:= .tuple #[.agg #[Un,Un,Un,Un,Un,Un],p,e]) (by simp[results,results31,go_sem,z0,z1,z2,z3,z4,z5]) rfl ⟨by rw[CA.o.1];exact⟨rfl,CA.o.2⟩,by first|exact FE.o|exact FE.o.drew⟩
end
def iI {α:Type} (n:Nat) (r:CkR α):Prop:=match r with
 | .bad _ p=>p<n
 | .good _=>True
section
variable {α β:Type}{n:Nat}
theorem iI.bind {r:CkR α}{f:α->CkR β} (h:iI n r) (g:∀a,iI n (f a)):iI n (r.bind f):=by
 cases r with
 | bad e p=>exact h
 | good a=>exact g a
theorem iI.map {r:CkR α}{f:α->β} (h:iI n r):iI n (r.map f):=by
 cases r with
 | bad e p=>exact h
 | good a=>trivial
theorem iI.ite {c:Prop} [Decidable c] {r q:CkR α} (h:iI n r) (g:iI n q):iI n (if c then r else q):=by
 split
 . exact h
 . exact g
end
section
variable {ns:List aH}{fs:List aD}{k x n:Nat}{s:CkS}{ex:Nat->CkS->CkR (Nat×CkS)}{bl:Nat->CkS->CkR CkS}
theorem pR (hx:x<n) (name:List UInt8):iI n (aV x name s):=by
 unfold aV;cases eT s.vars name with
 | none=>exact hx
 | some v=>trivial
theorem aJb (hex:∀y s,iI n (ex y s)):∀(l:List Nat) (s:CkS),iI n (bH ex l s)
 | [],s=>trivial
 | a :: l,s=>by
  unfold bH;exact (hex _ _).bind λr=>(aJb hex l _).map
theorem aKa (hx:x<n) (hex:∀y s,iI n (ex y s)) (nd:aH):iI n (bM fs ex x nd s):=by
 have hc:iI n (jP fs ex x nd s):=by
  unfold jP;cases findF fs nd.name with
  | none=>exact hx
  | some j=>exact (aJb hex _ _).bind λr=>iI.ite hx (iI.ite hx trivial)
 unfold bM;refine .ite trivial (.ite trivial (.ite trivial (.ite (pR hx _) (.ite hc (.ite ((pR hx _).bind λt=>(hex _ _).bind λr=> .ite trivial hx) (.ite ((hex _ _).bind λa=>(hex _ _).bind λb=> .ite hx trivial) ?_))))));exact (hex _ _).bind λr=> .ite (.ite trivial hx) (.ite (.ite trivial hx) (.ite (.ite trivial hx) (.ite trivial hx)))
theorem aIf (hn:0<ns.length):∀(f x:Nat) (s:CkS),iI ns.length (dR ns fs k f x s)
 | 0,x,s=>hn
 | f+1,x,s=>by
  unfold dR;cases hx:ns[x]? with
  | none=>exact hn
  | some nd=>exact (aKa (gK hx) (λy s=>aIf hn f y s) nd).map
theorem aFm {st:Nat->CkS->CkR CkS} (hst:∀y s,iI n (st y s)):∀(l:List Nat) (s:CkS),iI n (eO st l s)
 | [],s=>trivial
 | a :: l,s=>by
  unfold eO;exact (hst _ _).bind λr=>aFm hst l _
theorem aPr (hx:x<n) (hex:∀y s,iI n (ex y s)) (hbl:∀y s,iI n (bl y s)) (nd:aH):iI n (iP fs k ex bl x nd s):=by
 unfold iP aAv vR;refine .ite ?_ (.ite ?_ (.ite ?_ (.ite (hex _ _).map (.ite ?_ (.ite ?_ ?_)))))
 . exact (hex _ _).bind λr=> .ite hx (.ite hx (.ite hx trivial))
 . exact (pR hx _).bind λt=>(hex _ _).bind λr=> .ite trivial hx
 . exact (pR hx _).bind λt=>(hex _ _).bind λr=>(hex _ _).bind λq=> .ite trivial hx
 . exact (hex _ _).bind λr=> .ite trivial hx
 . exact .ite (.ite ((hex _ _).bind λr=> .ite trivial hx) trivial) hx
 . exact (hex _ _).bind λr=> .ite (aFm hbl _ _) hx
theorem block_lt (hn:0<ns.length):∀(f x:Nat) (s:CkS),iI ns.length (bW ns fs k f x s)
 | 0,x,s=>hn
 | f+1,x,s=>by
  unfold bW;cases hx:ns[x]? with
  | none=>exact hn
  | some nd=>
   refine (aFm (λy s=>?_) _ _).map;cases hy:ns[y]? with
   | none=>exact hn
   | some na=>exact aPr (gK hy) (λy s=>aIf hn _ y s) (λy s=>block_lt hn f y s) na
theorem aGy {body:Nat} (hb:body<n):∀(l:List (List UInt8×Nat)) (vs:List mU),iI n (jO body l vs)
 | [],vs=>trivial
 | p :: l,vs=>by
  unfold jO;exact .ite hb (aGy hb l _)
theorem aAy (hn:0<ns.length):∀(l:List aD) (k:Nat) (zs:List Nat) (s:CkS),(∀f∈l,f.body<ns.length)->iI ns.length (iE ns fs k l zs s)
 | [],k,zs,s,_=>trivial
 | f :: l,k,zs,s,h=>by
  unfold iE gP;exact ((aGy (h f (List.mem_cons_self ..)) _ _).bind λvs=>block_lt hn _ _ _).bind λr=>aAy hn l _ _ _ (λg hg=>h g (List.mem_cons_of_mem _ hg))
theorem aAi:∀(l:List aD) (seen:List (List UInt8)) (b:Nat),(∀f∈l,f.body<n)->bU seen l=some b->b<n
 | [],seen,b,_,h=>by cases h
 | f :: l,seen,b,hb,h=>by
  unfold bU at h;split at h
  . injection h with h
    subst h;exact hb f (List.mem_cons_self ..)
  . exact aAi l _ b (λg hg=>hb g (List.mem_cons_of_mem _ hg)) h
end
theorem aPf (hok:lG ns fs):∀f∈fs,f.body<ns.length:=λf hf=>by
 obtain⟨c,hc,_⟩:=hok.bodies f hf;exact (gK hc)
theorem aBe (hok:lG ns fs) (h:dV ns fs = .bad e p) (he:e≠44):p<ns.length:=by
 have hb:=aPf hok;unfold dV iZ at h;cases ht:bU [] fs with
 | some b=>
  rw[ht] at h;injection h with h1 h2;subst h2;exact aAi fs [] b hb ht
 | none=>
  rw[ht] at h;dsimp only at h;by_cases hm:fs.any fQ=true
  . rw[if_pos hm] at h
    have hn:0<ns.length:=by
     obtain⟨f,hf,_⟩:=List.any_eq_true.1 hm;have:=hb f hf;omega
    have:=(aAy (fs:=fs) hn fs 0 [] (gD ns) hb).map (f:=λr=>(⟨ns,fs,r.2.types,r.2.slots,r.2.fn,r.1⟩:gB));rw[CkR.aC] at h;rw[h] at this;exact this
  . rw[if_neg hm] at h
    injection h with h1 h2;exact absurd h1.symm he
theorem tK {l:List UInt8}{er:Nat} (hr:parseM l=some (.bad p er)):1≤er:=by
 unfold parseM at hr;cases hl:nP l with
 | bad i k=>
  rw[hl] at hr;simp at hr
  have:=vE hl;omega
 | good ts=>
  rw[hl] at hr;simp only[mF,mS] at hr;obtain⟨q,hq,hr⟩:=hr;split at hr
  . injection hr with h1 h2
    omega
  . split at hr
    . injection hr with h1 h2
      omega
    . cases hr
end Go.Proofs.YtlbjicjinnnboaaGreatDoor
/- ParseBelow: lines rise from what is above to what is below. Printed by wip/tools/mkbelow.py. -/
namespace Go.Proofs.YtlbjicjinnnboaaGreatDoor
open Go.RowKit Go.Proofs.Tryz
namespace Pw
variable {ns:List aH}{L x:Nat}
def LK (ns:List aH) (L x:Nat):Prop:=∃c,ns[x]?=some c∧L≤c.line
theorem LK.mono (h:LK ns L x) (y:List aH):LK (ns++y) L x:=by
 obtain⟨c,hc,hk⟩:=h;exact⟨c,by rw[List.getElem?_append_left (gK hc)];exact hc,hk⟩
theorem LK.ext {s t:PS} (h:LK s.nodes L x) (e:Ext s t):LK t.nodes L x:=by
 obtain⟨y,hy⟩:=e.nodes;rw[hy];exact h.mono y
theorem LK.le {M:Nat} (h:LK ns L x) (hm:M≤L):LK ns M x:=by
 obtain⟨c,hc,hk⟩:=h;exact⟨c,hc,Nat.le_trans hm hk⟩
def vQ (ns:List aH):Prop:=∀(i:Nat) (nd:aH),ns[i]?=some nd->∀x∈nd.l,LK ns nd.line x
theorem vQ.snoc {nd:aH} (h:vQ ns) (hn:∀x∈nd.l,LK ns nd.line x):vQ (ns++[nd]):=by
 intro i x hx;by_cases hi:i<ns.length
 . rw[List.getElem?_append_left hi] at hx
   exact λy hy=>(h i x hx y hy).mono _
 . rw[List.getElem?_append_right (by omega)] at hx
   by_cases he:i=ns.length
   . subst he
     rw[Nat.sub_self] at hx;simp at hx
     subst hx;exact λy hy=>(hn y hy).mono _
   . rw[List.getElem?_eq_none (by simp;omega)] at hx;cases hx
section
variable {src:List UInt8}{ts:List Tok}
end
end Pw
end Go.Proofs.YtlbjicjinnnboaaGreatDoor
/- The parser: how often a node hangs on others: just once. -/
namespace Go.Proofs.YtlbjicjinnnboaaGreatDoor
namespace Pw
open Go.RowKit Go.Proofs.Tryz
def aSp (ns:List aH) (x:Nat):Nat:=(ns.map λnd=>nd.l.count x).sum
section
variable {src:List UInt8}{ts:List Tok}
theorem jK {x:List UInt8}{s:PS} (h:(aA ts x s).e=0):s.e=0:=((Ext.refl s).must (ts:=ts) x).e0 h
theorem uO {n:Nat}{k:Task}{s:PS}{r:List Nat×PS} (h:run src ts n k s=some r) (he:r.2.e=0):s.e=0:=(aI _ _ _ _ h).e0 he
theorem uZ (s:PS):(pUp s).nodes=s.nodes:=rfl
def aRz (fs:List aD) (x:Nat):Nat:=(fs.map (·.body)).count x
end
end Pw
end Go.Proofs.YtlbjicjinnnboaaGreatDoor
