/- MkJ: KqHd, KqRep, CkGeo, KqAll, CkLt, BwA, PPar2. -/
import Derived.Test.YtlbjicjinnnboaaGreatDoorMkA
import Derived.Test.YtlbjicjinnnboaaGreatDoorMkG
import Derived.Test.YtlbjicjinnnboaaGreatDoorMkI
import Derived.Test.YtlbjicjinnnboaaGreatDoorMShelf
import Derived.Laws.CopyOwn
import Derived.Test.YtlbjicjinnnboaaGreatDoorMkF
set_option linter.unusedVariables false
set_option linter.unusedSimpArgs false
/- The program's own checker: heads. -/
namespace Go.Proofs.YtlbjicjinnnboaaGreatDoor
open Go.RowKit
open Pw
def hqCells (nv fv a b c z vv:Value) (k size e p:Nat):Array Value:=
 #[.int .i64 (e:Nat),.int .i64 (p:Nat),nv,fv,a,b,c,z,.int .i64 (k:Nat),vv,.int .i64 (size:Nat)]
section
variable {w w':World}{g k size e p:Nat}{nv fv a b c z vv:Value}{lvs pvs:List Value}{ns:List NodeM}{fs:List FuncM}
set_option maxHeartbeats 1600000 in
set_option maxRecDepth 100000 in
theorem qask_raw (hb:Blk w g 94 (hqCells nv fv a b c z vv k size e p)) (ok:Bool) (e' x:Nat) (he':e'≠0):
  Calls Tryz.prog 95 #[.pointer (some ⟨g,0,none⟩),.bool ok,.int .i64 e',.int .i64 x] w fun en w'=>en = .returned (.tuple #[])∧Blk w' g 94 (hqCells nv fv a b c z vv k size (if ok=false∧e=0 then e' else e) (if ok=false∧e=0 then x else p))∧Fr (oneb g) w w':=by
 have c0:w.cell? ⟨g,0,none⟩=some (.int .i64 (e:Nat)):=by rw[hb.cell];rfl
 have c1:w.cell? ⟨g,1,none⟩=some (.int .i64 (p:Nat)):=by rw[hb.cell];rfl
 have f0:=hb.frozen 0;have f1:=hb.frozen 1;have hg:=hb.lt;have H:=hid hb;cases ok with
 | true=>
  rw[if_neg (by simp),if_neg (by simp)];clear hb;go_enter Tryz.func95,Tryz.ntmps95;go_wp2_with fail
  exact bodyPost_end (results_none rfl _ _ _) rfl ⟨rfl,H.out,Fr.refl _ _⟩
 | false=>
  by_cases he:e=0
  · have heb:((e:Int)==0)=true:=by rw[he];rfl
    rw[if_pos ⟨rfl,he⟩,if_pos ⟨rfl,he⟩];have S2:=hid ((hb.setCell 0 (.int .i64 (e':Nat))).setCell 1 (.int .i64 (x:Nat)));clear hb he;go_enter Tryz.func95,Tryz.ntmps95;go_wp2_with fail
    exact bodyPost_end (results_none rfl _ _ _) rfl ⟨rfl,S2.out,((Fr.refl (oneb g) w).setCell ⟨g,0,none⟩ _ (fun _=>rfl)).setCell ⟨g,1,none⟩ _ (fun _=>rfl)⟩
  · have heb:((e:Int)==0)=false:=beq_eq_false_iff_ne.2 (by omega)
    rw[if_neg (fun x=>he x.2),if_neg (fun x=>he x.2)];clear hb he;go_enter Tryz.func95,Tryz.ntmps95;go_wp2_with fail
    exact bodyPost_end (results_none rfl _ _ _) rfl ⟨rfl,H.out,Fr.refl _ _⟩
theorem st_ask {o:Option Nat}{x:Nat}{seen:Bool}:(if (!seen)=false∧stE o=0 then 41 else stE o)=stE (o.or (if seen=true then some x else none))∧(if (!seen)=false∧stE o=0 then x else stP o)=stP (o.or (if seen=true then some x else none)):=by
 cases o<;>cases seen<;>simp[stE,stP]
set_option maxHeartbeats 4000000 in
set_option maxRecDepth 100000 in
theorem qheads_any {FA:Option Addr}{FC:Nat} (hb:Blk w g 94 (hqCells nv fv a b c z vv k size 0 0)) (ht:TreeAt 0 w nv (.slice FA fs.length FC) lvs pvs ns fs) (hf6:fs.length≤6) (hp3:∀f∈fs,f.params.length≤3):
  Calls Tryz.prog 59 #[.pointer (some ⟨g,0,none⟩),.slice FA fs.length FC] w fun en w'=>en = .returned (.tuple #[])∧Fr (oneb g) w w'∧∃e p,Blk w' g 94 (hqCells nv fv a b c z vv k size e p)∧((e=0∧p=0∧headsC fs = .good ())∨(e≠0∧e≤99∧headsC fs = .bad e p)):=by
 have hf7:(fs.length:Int)≤6:=by omega
 have hmm:= @run_makeMap Tryz.prog;have B0:=hid hb;have T0:=hid ht;have HP:=hid hp3;have F1:=hid (show Fr (oneb g) w (w.alloc (.map #[] 0)) from (Fr.refl _ w).alloc _);have N1:=hid (NmAt.new w);have B1:=hid (hb.fr ((Fr.refl nob w).alloc (.map #[] 0)) (fun x=>x));have HN:=hid (show w.heap.size≠g from by have:=hb.lt;omega);clear hb ht hp3 hf6;go_enter Tryz.func59,Tryz.ntmps59;go_wp2_with fail
 clear hmm;generalize w.alloc (.map #[] 0)=w1 at *;have HW:=hid (show w.heap.size<w1.heap.size from N1.out.lt);have HWL:=hid (Nat.le_refl w.heap.size);generalize hH:w.heap.size=H at *;have HH:=hid hH;clear hH;go_loopw [5,11] (fun mm i wr=>∃j:Nat,j≤fs.length∧i = .int .i64 j∧mm = .bool ((fs.take j).any isMain)∧Hid (Blk wr g 94 (hqCells nv fv a b c z vv k size (stE (twiceC [] (fs.take j))) (stP (twiceC [] (fs.take j)))))∧Hid (NmAt wr H ((fs.take j).map (·.name)))∧Hid (Fr (oneb g) w wr)) (fun _ i _=>fs.length - (intOf i).toNat)
 case atStart=>exact⟨0,Nat.zero_le _,rfl,rfl,B1,N1,F1⟩
 case round=>
  clear B1 N1 F1;obtain⟨j,hj,rfl,rfl,B,N,FR⟩:=hrel;by_cases hlt:j<fs.length
  · have hlt2:(j:Int)<(fs.length:Int):=by omega
    have hj6:(j:Int)≤6:=by omega
    obtain⟨f,hf⟩:∃f,fs[j]?=some f:=⟨_,List.getElem?_eq_getElem hlt⟩;have HF:=hid hf;have HJ:=hid hlt;have hlt':=hlt;have TW:=hid (T0.out.farG B0.out (by decide) (by decide) (by decide) (by decide) FR.out);obtain⟨fb,e,-⟩:=TW.out.fns.some (by omega);subst e;obtain⟨pv,hpo,x0,x1,x2,x3,x4⟩:=TW.out.fn2 hf;obtain⟨PA,PC,rfl,-,-⟩:=hpo.cap;have FE:=hid (show Fr nob wr (wr.alloc (.cells #[.string (bs f.name),.int .i64 (f.line:Nat),.slice PA f.params.length PC,.int .i64 (f.ret:Nat),.int .i64 (f.body:Nat)] 48)) from (Fr.refl nob wr).alloc _);have BE:=hid (Blk.new wr 48 #[.string (bs f.name),.int .i64 (f.line:Nat),.slice PA f.params.length PC,.int .i64 (f.ret:Nat),.int .i64 (f.body:Nat)]);have EN:=hid (show wr.heap.size≠g∧wr.heap.size≠H from by have:=B.out.lt;have:=N.out.lt;exact⟨by omega,by omega⟩);have EZ:=hid (show w.heap.size≤wr.heap.size from FR.out.size);have HTS:=hid (twiceC_snoc f (fs.take j) []);have HT1:=hid (show fs.take (j+1)=fs.take j++[f] from by rw[List.take_add_one,hf];rfl);have HMA:=hid (anyMain_take hf);have hpl:(f.params.length:Int)≤3:=by have:=HP.out f (List.mem_of_getElem? hf);omega
    clear hpo hf hlt hlt' hj;go_upto_region 5 with fail;clear x0 x1 x2 x3 x4;generalize hw4:wr.alloc (.cells #[.string (bs f.name),.int .i64 (f.line:Nat),.slice PA f.params.length PC,.int .i64 (f.ret:Nat),.int .i64 (f.body:Nat)] 48)=w4 at *;have B4:=hid (B.out.fr FE.out (fun x=>x));have N4:=hid (N.out.fr FE.out (fun x=>x));have F4:=hid (FR.out.tr (Fr.ofNo FE.out));clear B N FR FE hw4 TW;generalize wr.heap.size=E at *;have e0:w4.cell? ⟨E,0,none⟩=some (.string (bs f.name)):=(BE.out.cell 0).trans rfl;have e4:w4.cell? ⟨E,4,none⟩=some (.int .i64 (f.body:Nat)):=(BE.out.cell 4).trans rfl;obtain⟨z,hz⟩:∃z,decide (f.name∈(fs.take j).map (·.name))=z:=⟨_,rfl⟩;have HZ:=hid hz;have LK:=(N4.out.fr (Fr.refl nob w4).drew (fun x=>x)).look f.name;rw[hz] at LK;clear hz;go_wp2_with fail
    go_still_tail 10,(by kernel_rfl)
    change wpList _ _ _ _ _ w4.drew;clear LK e0 e4;have B5:=hid (B4.out.fr (Fr.refl nob w4).drew (fun x=>x));have N5:=hid (N4.out.fr (Fr.refl nob w4).drew (fun x=>x));have E5:=hid (BE.out.fr (Fr.refl nob w4).drew (fun x=>x));have F5:=hid (F4.out.tr (Fr.ofNo (Fr.refl nob w4).drew));clear B4 N4 BE F4;generalize w4.drew=w5 at *;go_wp2_with fail
    refine (qask_raw B5.out (!z) 41 f.body (by decide)).mono ?_;rintro en w6 ⟨rfl,h6,f6⟩;have B6:=hid (show Blk w6 g 94 (hqCells nv fv a b c _ vv k size (stE (twiceC [] (fs.take (j+1)))) (stP (twiceC [] (fs.take (j+1))))) from by
     rw[st_ask.1,st_ask.2,←HZ.out] at h6;have e9:(if decide (f.name∈(fs.take j).map (·.name))=true then some f.body else none)=if f.name∈[]++(fs.take j).map (·.name) then some f.body else none:=by simp
     rw[e9,←HTS.out,←HT1.out] at h6;exact h6)
    have N6:=hid (N5.out.fr f6 (fun e=>HN.out e));have E6:=hid (E5.out.fr f6 EN.out.1);have F6:=hid (F5.out.tr f6);clear h6 f6 B5 N5 E5 F5;obtain⟨w7,i1,hn7,f7⟩:=N6.out.upd f.name;have N7:=hid (show NmAt w7 H ((fs.take (j+1)).map (·.name)) from by rw[HT1.out,List.map_append];exact hn7);have B7:=hid (B6.out.fr f7 (fun e=>HN.out e.symm));have E7:=hid (E6.out.fr f7 EN.out.2);have F7:=hid (show Fr (oneb g) w w7 from Fr.trans F6.out f7 (fun _ _ x=>x) (fun b hb e=>by have e:b=H:=e;have:=HH.out;omega));have e0:w6.cell? ⟨E,0,none⟩=some (.string (bs f.name)):=(E6.out.cell 0).trans rfl;clear hn7 f7 N6 B6 E6 F6;go_upto_region 7 with fail;clear e0 i1;have e0:w7.cell? ⟨E,0,none⟩=some (.string (bs f.name)):=(E7.out.cell 0).trans rfl;have e2:w7.cell? ⟨E,2,none⟩=some (.slice PA f.params.length PC):=(E7.out.cell 2).trans rfl;have e3:w7.cell? ⟨E,3,none⟩=some (.int .i64 (f.ret:Nat)):=(E7.out.cell 3).trans rfl;obtain⟨m0,hm0⟩:∃m,(fs.take j).any isMain=m:=⟨_,rfl⟩;obtain⟨b1,hb1⟩:∃m,((bs f.name).toList==[109,97,105,110])=m:=⟨_,rfl⟩;obtain⟨b2,hb2⟩:∃m,((f.params.length:Int)==0)=m:=⟨_,rfl⟩;obtain⟨b3,hb3⟩:∃m,((f.ret:Int)==0)=m:=⟨_,rfl⟩;have HNM:=hid (show (fs.take (j+1)).any isMain=(m0 || (b1 && b2 && b3)) from by
     rw[HMA.out,hm0];congr 1
     unfold isMain;rw[←hb1,←hb2,←hb3,bs_toL];congr 1
     · congr 1
       · rw[Bool.eq_iff_iff];simp
       · rw[Bool.eq_iff_iff];simp
     · rw[Bool.eq_iff_iff];simp)
    rw[hm0];clear hm0 E7;cases m0<;>cases b1<;>cases b2<;>cases b3
    all_goals
     go_wp2_with fail
     go_roundw
     case rel=>exact⟨j+1,by have:=HJ.out;omega,by go_num,by rw[HNM.out];rfl,B7,N7,F7⟩
     case measure=>simp[intOf];have:=HJ.out;omega
  · have hlt2:¬(j:Int)<(fs.length:Int):=by omega
    have HT:=hid (show fs.take j=fs from List.take_of_length_le (by omega));have E:=hid (show headsC fs=(match twiceC [] fs with|some b=> .bad 41 b|none=>if fs.any isMain then .good () else .bad 44 0) from rfl);obtain⟨m0,hm0⟩:∃m,fs.any isMain=m:=⟨_,rfl⟩;have HM0:=hid hm0;rw[HT.out] at B ⊢;rw[hm0];clear hm0 hlt hj N;go_wp2_with fail
    refine (qask_raw B.out m0 44 0 (by decide)).mono ?_;rintro en w5 ⟨rfl,h5,f5⟩;have B5:=hid h5;have F5:=hid (FR.out.tr f5);clear h5 f5;go_wp2_with fail
    refine bodyPost_end (results_none rfl _ _ _) rfl ⟨rfl,F5.out,_,_,B5.out,?_⟩;have hE:=E.out;rw[HM0.out] at hE;cases hT:twiceC [] fs with
    | none=>
     rw[hT] at hE;cases m0 with
     | true=>exact .inl ⟨by simp[stE],by simp[stE,stP],hE⟩
     | false=>exact .inr ⟨by simp[stE],by simp[stE],by rw[hE];simp[stE]⟩
    | some b=>
     rw[hT] at hE;refine .inr ⟨by simp[stE],by simp[stE],?_⟩;rw[hE];simp[stE,stP]
end
def repL (n k:Nat):List Value:=List.replicate k (.int .i64 (-1))++List.replicate (n - k) (.int .i64 0)
theorem repL_len {n k:Nat} (h:k≤n):(repL n k).length=n:=by unfold repL;simp;omega
theorem repL_more {n k m:Nat} (h:k+m≤n):splice (repL n k) k (List.replicate m (.int .i64 (-1)))=repL n (k+m):=by
 unfold splice repL;rw[List.take_append_of_le_length (by simp),List.take_of_length_le (by simp),List.drop_append,List.drop_eq_nil_of_le (by simp),List.nil_append,List.drop_replicate,List.length_replicate,List.length_replicate,←List.replicate_append_replicate,List.append_assoc,show n - k - (k+m - k)=n - (k+m) by omega]
theorem make_ints' (n:Nat) (hn:n≤1000000):∀w:World,(Instr.makeSlice 27 (.int .i64 (n:Int)) (.int .i64 (n:Int))).run Tryz.prog w = .ok (.slice (some ⟨w.heap.size,0,none⟩) n n) (w.alloc (.cells (repL n 0).toArray 3)):=by
 intro w;obtain⟨i,hi,hz,hs,hb⟩:=TyInts.hi;have hr:=run_make (P:=Tryz.prog) w 27 3 i (.int .i64 0) TyInts.ht hi hz .i64 .i64 n n (by omega) (Int.le_refl _) (by rw[hb];omega) (by omega);simp only[Int.toNat_natCast,hs,Nat.mul_one] at hr;have e:madeCells (Value.int .i64 0).cells n=(repL n 0).toArray:=by
  show madeCells #[.int .i64 0] n=_
  apply Array.toList_inj.1
  rw[toList_madeCells_one];simp[repL]
 rw[e] at hr;exact hr
theorem below_fr {w0 w:World} (h:Below w0.heap.size w0 w):Fr nob w0 w:=⟨h.1,h.2,h.3,h.4,fun k hk _=>h.5 k hk⟩
set_option maxHeartbeats 2000000 in
set_option maxRecDepth 100000 in
theorem qrepeat_any {w:World}{b:Nat} (n:Nat) (hn:n≤300) (hb:Blk w b 3 #[.int .i64 (-1)]):
  Calls Tryz.prog 58 #[.slice (some ⟨b,0,none⟩) 1 1,.int .i64 (n:Nat)] w fun en w'=>∃A c,en = .returned (.slice A n c)∧Own w' 3 1 (.slice A n c) n (intsI (List.replicate n (-1)))∧(∀x,blk (.slice A n c)=some x→w.heap.size≤x)∧Fr nob w w':=by
 have HB:=hid hb;have hn3:(n:Int)≤300:=by omega
 have HM:=hid (show Calls Tryz.prog 94 #[.int .u64 1,.int .u64 (n:Nat)] w fun en w'=>en = .returned (.tuple #[.int .u64 0,.int .u64 (n:Nat)])∧w'=w from by
  have:=Tryz.bits_Mul 1 n (by decide) (by omega) w;rw[show (1*n / 18446744073709551616:Nat)=0 by omega,show (1*n % 18446744073709551616:Nat)=n by omega] at this;exact this)
 have hmk:=make_ints' n (by omega);have k0:w.cell? ⟨b,0,none⟩=some (.int .i64 (-1)):=(hb.cell 0).trans rfl;have hlt:=hb.lt;clear hb;go_enter Tryz.func58,Tryz.ntmps58;go_wp2_with fail
 refine HM.out.mono ?_;rintro en w1 ⟨rfl,hw⟩;subst hw;obtain⟨m0,hm0⟩:∃m,Nat.min 1 n=m:=⟨_,rfl⟩;have HM0:=hid (show m0≤n∧m0≤1∧(0<n→0<m0) from by rw[←hm0];show min 1 n≤n∧min 1 n≤1∧(0<n→0<min 1 n);omega);have HMM:=hid hm0;have HG:=hid (show (w1.alloc (.cells (repL n 0).toArray 3)).heap[w1.heap.size]?=some (.cells (repL n 0).toArray 3 (0,0)) from Blk.new _ _ _);have HBE:=hid (show Below w1.heap.size w1 (w1.alloc (.cells (repL n 0).toArray 3)) from ⟨rfl,rfl,rfl,by simp,fun k hk=>Below.heap_alloc _ _ _ hk⟩);have HB2:=hid (HB.out.fr ((Fr.refl nob w1).alloc (.cells (repL n 0).toArray 3)) (fun x=>x));have HCP:=hid (show ∀(j:Nat) (v:Value),(List.replicate m0 (Value.int .i64 (-1)))[j]?=some v→(w1.alloc (.cells (repL n 0).toArray 3)).cell? ((⟨b,0,none⟩:Addr).add j)=some v from fun j v hv=>by
  have hl:=(List.getElem?_eq_some_iff.1 hv).1;rw[List.length_replicate] at hl;have hj:j=0:=by have:=HM0.out.2.1;omega
  subst hj;rw[List.getElem?_replicate,if_pos hl] at hv;injection hv with hv;subst hv;exact (HB2.out.cell 0).trans rfl)
 have HFT:=hid (show 0+(List.replicate m0 (Value.int .i64 (-1))).length≤(repL n 0).length from by rw[List.length_replicate,repL_len (Nat.zero_le _)];have:=HM0.out.1;omega);go_wp2_with (refine wpList_copy_splice rfl (.tmp 31) (.tmp 32) 27 27 rfl 3 (by kernel_rfl) (by kernel_rfl) (some ⟨w1.heap.size,0,none⟩) (some ⟨b,0,none⟩) n n 1 1 rfl rfl w1.heap.size 0 (repL n 0) 3 HG.out (List.replicate m0 (.int .i64 (-1))) (by rw[List.length_replicate];exact HMM.out.symm) (fun _=>⟨rfl,_,rfl,HCP.out⟩) HFT.out (fun v hv=>by rw[List.eq_of_mem_replicate hv];rfl) w1.heap.size w1 HBE.out (Nat.le_refl _) ?_;rw[List.length_replicate])
 intro w4 hg4 hb4;have H4:=hid (show w4.heap[w1.heap.size]?=some (.cells (repL n m0).toArray 3 (0,0)) from by
  have:=hg4.out;rw[repL_more (by have:=HM0.out.1;omega),Nat.zero_add] at this;exact this)
 have B4:=hid hb4;clear hg4 hb4 HG HBE HB2 HB hm0 HMM hmk hlt k0 HCP HFT;generalize hR:w1.heap.size=R at *;go_wp2_with fail
 go_loopw [8] (fun v wr=>∃k:Nat,k≤n∧v = .int .i64 k∧Hid (0<n→0<k)∧Hid (wr.heap[R]?=some (.cells (repL n k).toArray 3 (0,0)))∧Hid (Below R w1 wr)) (fun v _=>n - (intOf v).toNat)
 case atStart=>exact⟨m0,HM0.out.1,rfl,hid HM0.out.2.2,H4,B4⟩
 case round=>
  clear H4 B4;obtain⟨k,hk,rfl,HP,H,B⟩:=hrel;by_cases hlt:k<n
  · have hlt2:(k:Int)<(n:Int):=by omega
    have hk0:(0:Int)≤(k:Int):=by omega
    have hkn:(k:Int)≤(n:Int):=by omega
    obtain⟨m,hm⟩:∃m,Nat.min k (n - k)=m:=⟨_,rfl⟩;have HMM:=hid hm;have HML:=hid (show k+m≤n∧m≤k∧0<m from by have:=HP.out;rw[←hm];show k+min k (n - k)≤n∧min k (n - k)≤k∧0<min k (n - k);omega);have HJ:=hid hlt;clear hm;have HD:=hid (show wr.drew.heap[R]?=some (.cells (repL n k).toArray 3 (0,0)) from H.out);have BD:=hid (show Below R w1 wr.drew from ⟨B.out.1,B.out.2,B.out.3,B.out.4,B.out.5⟩);have HCP:=hid (show ∀(j:Nat) (v:Value),(List.replicate m (Value.int .i64 (-1)))[j]?=some v→wr.drew.cell? ((⟨R,0,none⟩:Addr).add j)=some v from fun j v hv=>by
      have hl:=(List.getElem?_eq_some_iff.1 hv).1;rw[List.length_replicate] at hl;rw[List.getElem?_replicate,if_pos hl] at hv;injection hv with hv;subst hv;rw[add_mk,Nat.zero_add];refine ((show Blk wr.drew R 3 (repL n k).toArray from HD.out).cell j).trans ?_;rw[List.getElem?_toArray];unfold repL;rw[List.getElem?_append_left (by rw[List.length_replicate];have:=HML.out.2.1;omega),List.getElem?_replicate,if_pos (by have:=HML.out.2.1;omega)])
    have HFT:=hid (show k+(List.replicate m (Value.int .i64 (-1))).length≤(repL n k).length from by rw[List.length_replicate,repL_len hk];exact HML.out.1);have hne:¬n=k:=by omega
    have hmk9:(m:Int)≤(n:Int):=by have:=HML.out;omega
    have hmk8:(k:Int)+(m:Int)≤(n:Int):=by have:=HML.out;omega
    have hwr:IntKind.i64.wrap ((k:Int)+(m:Int))=((k+m:Nat):Int):=by rw[IntKind.wrap_i64];omega
    clear hlt hk;go_wp2_with fail
    go_region_held3 (fun _=>True) (first|trivial) (first|(refine step_copy_splice rfl (.tmp 41) (.tmp 44) 27 27 rfl 3 (by kernel_rfl) (by kernel_rfl) (some ⟨R,k,none⟩) (some ⟨R,0,none⟩) (n - k) (n - k) k n rfl rfl R k (repL n k) 3 HD.out (List.replicate m (.int .i64 (-1))) (by rw[List.length_replicate];exact HMM.out.symm) (fun _=>⟨rfl,_,rfl,HCP.out⟩) HFT.out (fun v hv=>by rw[List.eq_of_mem_replicate hv];rfl) R w1 BD.out (Nat.le_refl _) ?_;rw[List.length_replicate];intro w4 hg4 hb4))
    all_goals
      have H4:=hid (show w4.heap[R]?=some (.cells (repL n (k+m)).toArray 3 (0,0)) from by
        have:=hg4.out;rw[repL_more HML.out.1] at this;exact this)
      have B4:=hid hb4;clear hg4 hb4 HD BD HCP HFT H B;trace_state
      go_wp2_with fail
      go_roundw
      case rel=>exact⟨k+m,HML.out.1,by go_num,hid (fun _=>by have:=HML.out;omega),H4,B4⟩
      case measure=>simp[intOf];have:=HJ.out;have:=HML.out;omega
  · have hlt2:¬(k:Int)<(n:Int):=by omega
    have hkn:k=n:=by omega
    subst hkn;have HR:=hid hR;clear hlt hk;go_wp2_with fail
    go_ret;have BL:Blk wr R 3 (repL k k).toArray:=H.out;have e:repL k k=intsI (List.replicate k (-1)):=by simp[repL,intsI]
    refine⟨_,_,rfl,⟨by simp[intsI],some ⟨R,0,none⟩,k,rfl,?_⟩,fun x hx=>?_,?_⟩
    · by_cases h0:k=0
      · exact .inl ⟨h0,h0⟩
      · refine .inr ⟨R,_,rfl,by omega,BL,Nat.le_refl _,by unfold maxLen;omega,by rw[e];simp[intsI],?_⟩
        rw[e,List.take_of_length_le (by simp[intsI])]
    · by_cases h0:k=0
      · subst h0;simp[blk] at hx
      · rw[blk_rowP (by omega) (Nat.le_refl _)] at hx
        injection hx with hx
        first|(rw[HR.out,hx];exact Nat.le_refl _)|(rw[hx];exact Nat.le_refl _)
    · exact below_fr (by rw[HR.out];exact B.out)
theorem TreeLow.up {B B':Nat}{w:World}{nv fv:Value}{lvs pvs:List Value}{ns:List NodeM}{fs:List FuncM} (h:TreeLow B w nv fv lvs pvs ns fs) (h1:B≤B') (h2:B'≤w.heap.size):TreeLow B' w nv fv lvs pvs ns fs:=
 ⟨h.tree,fun b hb=>Nat.lt_of_lt_of_le (h.hn b hb) h1,fun b hb=>Nat.lt_of_lt_of_le (h.hf b hb) h1,fun v hv b hb=>Nat.lt_of_lt_of_le (h.hl v hv b hb) h1,fun v hv b hb=>Nat.lt_of_lt_of_le (h.hp v hv b hb) h1,h2⟩
section
variable (ns:List NodeM) (fs:List FuncM)
theorem funcsC_snoc (f:FuncM):∀(l:List FuncM) (k:Nat) (zs:List Nat) (s:CkS),funcsC ns fs k (l++[f]) zs s=(funcsC ns fs k l zs s).bind fun r=>(funcC ns fs (k+l.length) f r.2).map fun s'=>(r.1++[s'.size],s')
 | [],k,zs,s=>by
  show (funcC ns fs k f s).bind _=(CkR.good (zs,s)).bind _
  rw[CkR.bind_good]
  show _=(funcC ns fs (k+0) f s).map _
  rw[Nat.add_zero];cases funcC ns fs k f s<;>rfl
 | a :: l,k,zs,s=>by
  show (funcC ns fs k a s).bind _=((funcC ns fs k a s).bind _).bind _
  cases funcC ns fs k a s with
  | bad e p=>rfl
  | good u=>
   simp only[CkR.bind_good];rw[show k+(a :: l).length=k+1+l.length by simp;omega];exact funcsC_snoc f l (k+1) _ u
theorem funcsC_bad {e p:Nat}:∀(l m:List FuncM) (k:Nat) (zs:List Nat) (s:CkS),funcsC ns fs k l zs s = .bad e p→funcsC ns fs k (l++m) zs s = .bad e p:=by
 intro l m;induction m generalizing l with
 | nil=>intro k zs s h;rw[List.append_nil];exact h
 | cons a m ih=>
  intro k zs s h;have:l++a :: m=(l++[a])++m:=by simp
  rw[this];exact ih (l++[a]) k zs s (by rw[funcsC_snoc,h];rfl)
end
def geoOf (B z g bt bs bf ct cs cf:Nat) (nv fv:Value) (lvs pvs:List Value) (ns:List NodeM) (fs:List FuncM):Geo:=⟨24,B,z,g,bt,bs,bf,ct,cs,cf,nv,fv,lvs,pvs,ns,fs,0⟩
theorem Fr.six (w:World) (T:Nat) (a b c d e f:Value):Fr (oneb T) w ((((((w.setCell ⟨T,0,none⟩ a).setCell ⟨T,1,none⟩ b).setCell ⟨T,2,none⟩ c).setCell ⟨T,3,none⟩ d).setCell ⟨T,4,none⟩ e).setCell ⟨T,5,none⟩ f):=
 (Fr.five w T a b c d e).setCell ⟨T,5,none⟩ f (fun _=>rfl)
theorem ProgAt.farP {w w':World}{nv fv tv sv uv zv:Value}{lvs pvs:List Value}{p:ProgM} (h:ProgAt w nv fv tv sv uv zv lvs pvs p){RB:Nat}{cs:Array Value} (hb:Blk w RB 29 cs) (f:Fr (oneb RB) w w'):ProgAt w' nv fv tv sv uv zv lvs pvs p:=by
 have own:∀{n:Nat} {v:Value} {xs:List Value},Own w 3 1 v n xs→Own w' 3 1 v n xs:=fun ho=>ho.fr f fun b hb' hm=>by
  have hm:b=RB:=hm;subst hm;exact ho.blk_ne hb (by decide) hb'
 exact⟨h.tree.farG hb (by decide) (by decide) (by decide) (by decide) f,own h.types,own h.slots,own h.fn,own h.sizes⟩
theorem six_fr {w wx:World}{T:Nat} (hT:w.heap.size≤T) (F:Fr nob w wx) (a b c d e f:Value):Fr nob w ((((((wx.setCell ⟨T,0,none⟩ a).setCell ⟨T,1,none⟩ b).setCell ⟨T,2,none⟩ c).setCell ⟨T,3,none⟩ d).setCell ⟨T,4,none⟩ e).setCell ⟨T,5,none⟩ f):=
 (F.trans (M:=fun b=>b=T) (Fr.six wx T a b c d e f) (fun _ _ x=>x.elim) (fun b _ hb=>hb)).mono (fun b hb hm=>by have hm:b=T:=hm;omega)
theorem Blk.at_ {w:World}{a:Nat}{t:TypeId}{cs:Array Value} (h:a=w.heap.size):Blk (w.alloc (.cells cs t)) a t cs:=h ▸ Blk.new w t cs
theorem zero_own {w:World}{a n:Nat} (hn:n≤300) (h:Blk w a 3 (repL n 0).toArray):Own w 3 1 (.slice (some ⟨a,0,none⟩) n n) n (ints (List.replicate n 0)):=by
 refine⟨by simp[ints],some ⟨a,0,none⟩,n,rfl,?_⟩;by_cases h0:n=0
 · exact .inl ⟨h0,h0⟩
 · refine .inr ⟨a,_,rfl,by omega,h,Nat.le_refl _,by unfold maxLen;omega,by simp[repL],?_⟩
   rw[List.take_of_length_le (by simp[repL])];simp[repL,ints]
structure Q1 (B g:Nat) (nv fv:Value) (lvs pvs:List Value) (ns:List NodeM) (fs:List FuncM) (w:World) (tv sv uv:Value):Prop where
 tree:TreeLow B w nv fv lvs pvs ns fs
 blk_:Blk w g 94 (hqCells nv fv tv sv uv (.slice none 0 0) (.slice none 0 0) 0 0 0 0)
 types:Own w 3 1 tv ns.length (ints (List.replicate ns.length 0))
 slots:Own w 3 1 sv ns.length (intsI (List.replicate ns.length (-1)))
 fn:Own w 3 1 uv ns.length (ints (List.replicate ns.length 0))
 hg:B≤g
 ht:∀x,blk tv=some x→B≤x
 hs:∀x,blk sv=some x→B≤x
 hf:∀x,blk uv=some x→B≤x
 ts:∀x,blk tv=some x→blk sv≠some x
 tf:∀x,blk tv=some x→blk uv≠some x
 sf:∀x,blk sv=some x→blk uv≠some x
theorem TreeLow.frn {B:Nat}{w w':World}{nv fv:Value}{lvs pvs:List Value}{ns:List NodeM}{fs:List FuncM} (h:TreeLow B w nv fv lvs pvs ns fs) (f:Fr nob w w'):TreeLow B w' nv fv lvs pvs ns fs:=
 h.keep (fun b hb=>f.block b (Nat.lt_of_lt_of_le hb h.le) (fun x=>x)) f.size
theorem Q1.mk' {B g a c n:Nat}{nv fv sv:Value}{lvs pvs:List Value}{ns:List NodeM}{fs:List FuncM}{W:World} (hn:n=ns.length) (hn3:n≤300) (tree:TreeLow B W nv fv lvs pvs ns fs)
  (hb:Blk W g 94 (hqCells nv fv (.slice (some ⟨a,0,none⟩) n n) sv (.slice (some ⟨c,0,none⟩) n n) (.slice none 0 0) (.slice none 0 0) 0 0 0 0)) (h1:Blk W a 3 (repL n 0).toArray) (h2:Own W 3 1 sv n (intsI (List.replicate n (-1)))) (h3:Blk W c 3 (repL n 0).toArray)
  (hsz:B≤a∧B≤c∧B≤g∧a≠c) (hs:∀x,blk sv=some x→B≤x∧x≠a∧x≠c):Q1 B g nv fv lvs pvs ns fs W (.slice (some ⟨a,0,none⟩) n n) sv (.slice (some ⟨c,0,none⟩) n n):=by
 subst hn;have e:∀{d x:Nat},blk (.slice (some ⟨d,0,none⟩) ns.length ns.length)=some x→x=d:=fun {d x} h=>by
  by_cases h0:ns.length=0
  · rw[h0] at h;simp[blk] at h
  · rw[blk_rowP (by omega) (Nat.le_refl _)] at h;injection h with h;exact h.symm
 exact⟨tree,hb,zero_own hn3 h1,h2,zero_own hn3 h3,hsz.2.2.1,fun x hx=>by rw[e hx];exact hsz.1,fun x hx=>(hs x hx).1,fun x hx=>by rw[e hx];exact hsz.2.1,
  fun x hx h=>(hs x h).2.1 (e hx),fun x hx h=>hsz.2.2.2 ((e hx).symm.trans (e h)),fun x hx h=>(hs x hx).2.2 (e h)⟩
theorem Q1.pack {B g a c n:Nat}{w2:World}{nv fv sv:Value}{lvs pvs:List Value}{ns:List NodeM}{fs:List FuncM}{W:World} (hn:n=ns.length) (hn3:n≤300) (tree:TreeLow B W nv fv lvs pvs ns fs)
  (hb:Blk W g 94 (hqCells nv fv (.slice (some ⟨a,0,none⟩) n n) sv (.slice (some ⟨c,0,none⟩) n n) (.slice none 0 0) (.slice none 0 0) 0 0 0 0)) (h1:Blk W a 3 (repL n 0).toArray) (h2:Own W 3 1 sv n (intsI (List.replicate n (-1)))) (h3:Blk W c 3 (repL n 0).toArray)
  (hsz:B≤a∧B≤c∧B≤g∧a≠c) (hs:∀x,blk sv=some x→B≤x∧x≠a∧x≠c) (fw:Fr nob w2 W):
  ∃(g':Nat) (tv sv' uv:Value),Value.pointer (some ⟨g,0,none⟩) = .pointer (some ⟨g',0,none⟩)∧Hid (Q1 B g' nv fv lvs pvs ns fs W tv sv' uv)∧Hid (Fr nob w2 W):=
 ⟨g,_,_,_,rfl,hid (Q1.mk' hn hn3 tree hb h1 h2 h3 hsz hs),hid fw⟩
theorem Q1.toKq {B g:Nat}{nv fv tv sv uv:Value}{lvs pvs:List Value}{ns:List NodeM}{fs:List FuncM}{w:World} (h:Q1 B g nv fv lvs pvs ns fs w tv sv uv) (hok:TreeOk ns fs) (hk:∀nd∈ns,nd.l.length≤300) (hn:0<ns.length) (hf:0<fs.length):
  ∃bt bs bf c1 c2 c3,Kq (geoOf B w.heap.size g bt bs bf c1 c2 c3 nv fv lvs pvs ns fs) w (startC ns) [] 0 0 0:=by
 obtain⟨A1,c1,rfl,-,-⟩:=h.types.cap;obtain⟨A2,c2,rfl,-,-⟩:=h.slots.cap;obtain⟨A3,c3,rfl,-,-⟩:=h.fn.cap;obtain⟨bt,rfl,-⟩:=h.types.some hn;obtain⟨bs,rfl,-⟩:=h.slots.some hn;obtain⟨bf,rfl,-⟩:=h.fn.some hn;have q1:=blk_rowP (b:=bt) hn h.types.capn.1;have q2:=blk_rowP (b:=bs) hn h.slots.capn.1;have q3:=blk_rowP (b:=bf) hn h.fn.capn.1;refine⟨bt,bs,bf,c1,c2,c3,⟨⟨(by decide:24≤1000),h.hg,h.ht _ q1,h.hs _ q2,h.hf _ q3,h.blk_.lt,h.types.blk_lt q1,h.slots.blk_lt q2,h.fn.blk_lt q3,fun e=>h.ts _ q1 (q2.trans (congrArg some (Eq.symm e))),fun e=>h.tf _ q1 (q3.trans (congrArg some (Eq.symm e))),fun e=>h.sf _ q2 (q3.trans (congrArg some (Eq.symm e))),hn,hok.few,hok.fewf,hok.pars,hk,hok⟩,
  h.tree,⟨.slice none 0 0,.slice none 0 0,h.blk_,Own.nil _ _ _,fun b hb=>by simp[blk] at hb,Own.nil _ _ _,fun b hb=>by simp[blk] at hb⟩,h.types,h.slots,h.fn,hf,Nat.zero_le _,fun _=>Nat.zero_le _,Nat.le_refl _,Nat.zero_le _,Nat.le_refl _,Nat.zero_le _⟩⟩
def L2q (B g:Nat) (nv fv:Value) (lvs pvs:List Value) (ns:List NodeM) (fs:List FuncM) (i:Nat) (w:World) (e p:Nat):Prop:=
 w.cell? ⟨g,0,none⟩=some (.int .i64 (e:Nat))∧w.cell? ⟨g,1,none⟩=some (.int .i64 (p:Nat))∧g<w.heap.size ∧
 ((e=0∧p=0∧headsC fs = .good ()∧0<fs.length∧∃G zs s k,Kq G w s zs k 0 0∧G.B=B∧G.g=g∧G.M=24∧G.L=0∧G.nv=nv∧G.fv=fv∧G.lvs=lvs∧G.pvs=pvs∧G.ns=ns∧G.fs=fs∧zs.length=i∧funcsC ns fs 0 (fs.take i) [] (startC ns) = .good (zs,s))∨(e≠0∧e≤99∧checkT ns fs = .bad e p))
theorem L2q.no {B g i e p:Nat}{nv fv:Value}{lvs pvs:List Value}{ns:List NodeM}{fs:List FuncM}{w w':World} (h:L2q B g nv fv lvs pvs ns fs i w e p) (f:Fr nob w w'):L2q B g nv fv lvs pvs ns fs i w' e p:=by
 obtain⟨h1,h2,h3,h4⟩:=h;refine⟨(f.cell (p:=⟨g,0,none⟩) h3 (fun x=>x)).trans h1,(f.cell (p:=⟨g,1,none⟩) h3 (fun x=>x)).trans h2,Nat.lt_of_lt_of_le h3 f.size,?_⟩;rcases h4 with ⟨a,b,c,d,G,zs,s,k,hk,r⟩|h4
 · exact .inl ⟨a,b,c,d,G,zs,s,k,hk.no f,r⟩
 · exact .inr h4
section
variable {w w':World}{lvs pvs:List Value}{ns:List NodeM}{fs:List FuncM}
set_option maxHeartbeats 2000000 in
set_option maxRecDepth 100000 in
theorem qall_check {NA FA:Option Addr}{NC FC:Nat} (ht:TreeAt 0 w (.slice NA ns.length NC) (.slice FA fs.length FC) lvs pvs ns fs) (hok:TreeOk ns fs) (hk:∀nd∈ns,nd.l.length≤300):
  Calls Tryz.prog 31 #[.agg #[.slice NA ns.length NC,.slice FA fs.length FC]] w fun en w'=>CheckAt w' en (.slice NA ns.length NC) (.slice FA fs.length FC) lvs pvs (checkT ns fs)∧Fr nob w w':=by
 have hns:=hok.few;have hfs:=hok.fewf;have hn3:(ns.length:Int)≤300:=by omega
 have hf3:(fs.length:Int)≤6:=by omega
 have HO:=hid hok;have HKD:=hid hk;have F2:=hid (show Fr nob w ((w.alloc (.cells #[.slice NA ns.length NC,.slice FA fs.length FC] 26)).alloc (.cells #[.slice none 0 0,.slice none 0 0,.slice none 0 0,.slice none 0 0,.slice none 0 0,.slice none 0 0] 29)) from ((Fr.refl nob w).alloc _).alloc _);have TB2:=hid ((Blk.new w 26 #[.slice NA ns.length NC,.slice FA fs.length FC]).alloc (.cells #[.slice none 0 0,.slice none 0 0,.slice none 0 0,.slice none 0 0,.slice none 0 0,.slice none 0 0] 29));have RB2:=hid (show Blk ((w.alloc (.cells #[.slice NA ns.length NC,.slice FA fs.length FC] 26)).alloc (.cells #[.slice none 0 0,.slice none 0 0,.slice none 0 0,.slice none 0 0,.slice none 0 0,.slice none 0 0] 29)) (w.heap.size+1) 29 #[.slice none 0 0,.slice none 0 0,.slice none 0 0,.slice none 0 0,.slice none 0 0,.slice none 0 0] from Blk.at_ (by simp));have TL:=hid ((TreeLow.of ht).keep (w':=(w.alloc (.cells #[.slice NA ns.length NC,.slice FA fs.length FC] 26)).alloc (.cells #[.slice none 0 0,.slice none 0 0,.slice none 0 0,.slice none 0 0,.slice none 0 0,.slice none 0 0] 29)) (fun b hb=>(F2.out.block b hb (fun x=>x))) F2.out.size);have hmk:=make_ints' ns.length (by omega);clear ht hok hk;go_enter Tryz.func31,Tryz.ntmps31;go_upto_region 2 with fail;have HSZ:=hid (show ((w.alloc (.cells #[.slice NA ns.length NC,.slice FA fs.length FC] 26)).alloc (.cells #[.slice none 0 0,.slice none 0 0,.slice none 0 0,.slice none 0 0,.slice none 0 0,.slice none 0 0] 29)).heap.size=w.heap.size+2 from by simp);generalize ((w.alloc (.cells #[.slice NA ns.length NC,.slice FA fs.length FC] 26)).alloc (.cells #[.slice none 0 0,.slice none 0 0,.slice none 0 0,.slice none 0 0,.slice none 0 0,.slice none 0 0] 29))=w2 at *;generalize hT:w.heap.size=T at *
 have KF:=hid (show ∀wx,Fr nob w2 wx→wx.cell? ⟨T,0,none⟩=some (.slice NA ns.length NC)∧wx.cell? ⟨T,1,none⟩=some (.slice FA fs.length FC) from fun wx f=>⟨((TB2.out.fr f (fun x=>x)).cell 0).trans rfl,((TB2.out.fr f (fun x=>x)).cell 1).trans rfl⟩);obtain⟨t0,t1⟩:=KF.out w2 (Fr.refl nob w2);have HN9:=hid hns;have HB2:=hid (show w2.heap.size=T+2 from HSZ.out);have TL2:=hid (show TreeLow (T+2) w2 (.slice NA ns.length NC) (.slice FA fs.length FC) lvs pvs ns fs from TL.out.up (by omega) (by rw[HB2.out];exact Nat.le_refl _));go_cut [6] (fun v wx=>∃(g:Nat) (tv sv uv:Value),v = .pointer (some ⟨g,0,none⟩)∧Hid (Q1 (T+2) g (.slice NA ns.length NC) (.slice FA fs.length FC) lvs pvs ns fs wx tv sv uv)∧Hid (Fr nob w2 wx))
 case first=>
  go_region_held3 (fun wx=>wx.cell? ⟨T,0,none⟩=some (.slice NA ns.length NC)∧wx.cell? ⟨T,1,none⟩=some (.slice FA fs.length FC)) (first|exact⟨t0,t1⟩|(refine KF.out _ ?_;repeat (first|exact F8.out|exact Fr.refl nob w2|exact (Fr.refl nob w2).drew|refine Fr.alloc ?_ _|refine Fr.drew ?_))) (first
   | (go_at_call 58;go_loud (refine (qrepeat_any ns.length HN9.out (by repeat (first|exact Blk.at_ (by simp)|refine Blk.alloc ?_ _))).mono ?_);go_loud (rintro en w8 ⟨A8,c8,rfl,ho8,hn8,f8⟩);go_loud (have O8:=hid ho8);go_loud (have N8:=hid hn8);go_loud (have P8:=hid f8);go_loud (have F8:=hid (show Fr nob w2 w8 from Fr.tr (by repeat (first|exact Fr.refl nob w2|refine Fr.alloc ?_ _|refine Fr.drew ?_)) f8));go_loud (clear ho8 hn8 f8)))
  all_goals
   go_wp2_with fail
   go_meet
   have hz:=P8.out.size;have hz0:=HB2.out;simp at hz
   apply Q1.pack rfl HN9.out
   case hb=>refine Blk.at_ ?_;simp
   case fw=>repeat (first|exact F8.out|exact Fr.refl nob w2|refine Fr.alloc ?_ _|refine Fr.drew ?_)
   case tree=>
     refine TL2.out.frn ?_;repeat (first|exact F8.out|exact Fr.refl nob w2|refine Fr.alloc ?_ _|refine Fr.drew ?_)
   case h1=>repeat (first|(refine Blk.at_ ?_;simp;done)|refine Blk.alloc ?_ _|refine Blk.fr ?_ P8.out (fun x=>x)|refine Blk.fr ?_ (Fr.refl nob _).drew (fun x=>x))
   case h3=>repeat (first|(refine Blk.at_ ?_;simp;done)|refine Blk.alloc ?_ _|refine Blk.fr ?_ P8.out (fun x=>x)|refine Blk.fr ?_ (Fr.refl nob _).drew (fun x=>x))
   case h2=>repeat (first|exact O8.out|refine Own.alloc ?_ _)
   case hsz=>refine⟨by omega,by omega,by omega,by omega⟩
   case hs=>
     intro x hx;have q1:=N8.out x hx;have q2:=O8.out.blk_lt hx;simp at q1
     exact⟨by omega,by omega,by omega⟩
 case rest=>
  obtain⟨g,tv,sv,uv,rfl,Q,F3⟩:=hcut;have TB3:=hid (TB2.out.fr F3.out (fun x=>x));have RB3:=hid (RB2.out.fr F3.out (fun x=>x));have c1:wc.cell? ⟨T,1,none⟩=some (.slice FA fs.length FC):=(TB3.out.cell 1).trans rfl;clear KF t0 t1 hmk TB2 RB2 TL TL2;go_wp2_with fail
  refine (qheads_any Q.out.blk_ Q.out.tree.tree HO.out.fewf HO.out.pars).mono ?_;rintro en w4 ⟨rfl,f4,e,p,hb4,hm⟩;have GT:=hid (show T+2≤g from Q.out.hg);have F4:=hid (show Fr (fun b=>T+2≤b) w2 w4 from Fr.trans F3.out f4 (fun _ _ x=>x.elim) (fun b _ hb=>by rw[show b=g from hb];exact GT.out));have T4:=hid (TB3.out.fr f4 (fun hb=>by have h1:T=g:=hb;have:=GT.out;omega));have R4:=hid (RB3.out.fr f4 (fun hb=>by have h1:T+1=g:=hb;have:=GT.out;omega));have L4:=hid (Q.out.tree.keep (w':=w4) (fun b hb=>f4.block b (Nat.lt_of_lt_of_le hb Q.out.tree.le) (fun hm=>by have h1:b=g:=hm;have:=GT.out;omega)) f4.size);have LL:=hid (show L2q (T+2) g (.slice NA ns.length NC) (.slice FA fs.length FC) lvs pvs ns fs 0 w4 e p from by
   refine⟨(hb4.cell 0).trans rfl,(hb4.cell 1).trans rfl,hb4.lt,?_⟩;rcases hm with ⟨rfl,rfl,h3⟩|⟨h1,h2,h3⟩
   · have hne:0<fs.length:=by
       cases hfs':fs with
       | nil=>rw[hfs'] at h3;cases h3
       | cons a l=>simp
     have hnn:0<ns.length:=by
       obtain⟨c,hc,_⟩:=HO.out.bodies _ (List.getElem_mem hne);have:=(List.getElem?_eq_some_iff.1 hc).1;omega
     obtain⟨bt,bs,bf,ct,cs,cf,hck⟩:=Q.out.toKq HO.out HKD.out hnn hne;refine .inl ⟨rfl,rfl,h3,hne,geoOf (T+2) wc.heap.size g bt bs bf ct cs cf (.slice NA ns.length NC) (.slice FA fs.length FC) lvs pvs ns fs,[],startC ns,0,?_,rfl,rfl,rfl,rfl,rfl,rfl,rfl,rfl,rfl,rfl,rfl,by rw[List.take_zero];rfl⟩;refine hck.keep f4.size fun b hbl hbb=>?_
     by_cases hbg:b=g
     · subst hbg
       have e1:w4.heap[b]?=some (.cells (hqCells (.slice NA ns.length NC) (.slice FA fs.length FC) tv sv uv (.slice none 0 0) (.slice none 0 0) 0 0 0 0) 94 (0,0)):=hb4;have e3:wc.heap[b]?=some (.cells (hqCells (.slice NA ns.length NC) (.slice FA fs.length FC) tv sv uv (.slice none 0 0) (.slice none 0 0) 0 0 0 0) 94 (0,0)):=Q.out.blk_;rw[e1,e3]
     · exact f4.block b hbl hbg
   · refine .inr ⟨h1,h2,?_⟩
     unfold checkT;rw[h3];rfl)
  have t1:w4.cell? ⟨T,1,none⟩=some (.slice FA fs.length FC):=(T4.out.cell 1).trans rfl;clear Q F3 f4 hb4 hm TB3 RB3 c1;go_wp2_with fail
  clear t1;go_loopw [30] (fun i wq=>∃(j e p:Nat),j≤fs.length∧i = .int .i64 j∧Hid (L2q (T+2) g (.slice NA ns.length NC) (.slice FA fs.length FC) lvs pvs ns fs j wq e p)∧Hid (Blk wq T 26 #[.slice NA ns.length NC,.slice FA fs.length FC])∧Hid (Blk wq (T+1) 29 #[.slice none 0 0,.slice none 0 0,.slice none 0 0,.slice none 0 0,.slice none 0 0,.slice none 0 0])∧Hid (TreeLow (T+2) wq (.slice NA ns.length NC) (.slice FA fs.length FC) lvs pvs ns fs)∧Hid (Fr (fun b=>T+2≤b) w2 wq)) (fun i _=>fs.length - (intOf i).toNat)
  case atStart=>exact⟨0,e,p,Nat.zero_le _,rfl,LL,T4,R4,L4,F4⟩
  case round=>
   clear LL T4 R4 L4 F4;obtain⟨j,e,p,hj,rfl,LL,TT,RR,TW,FR⟩:=hrel;by_cases hlt:j<fs.length
   · have hlt2:(j:Int)<(fs.length:Int):=by omega
     obtain⟨f,hf⟩:∃f,fs[j]?=some f:=⟨_,List.getElem?_eq_getElem hlt⟩;obtain⟨pv,hpv⟩:∃pv,pvs[j]?=some pv:=⟨_,List.getElem?_eq_getElem (by have:=TW.out.tree.samef;omega)⟩;have hpo:=TW.out.tree.pars.get hf hpv;obtain⟨PA,PC,hpe,-,-⟩:=hpo.cap;obtain⟨fb,e9,hcell⟩:=TW.out.tree.fns.some (by omega);subst e9;subst hpe;have key:=fnCells_all hf hpv;have y0:=hcell _ _ (key 0 _ rfl);have y1:=hcell _ _ (key 1 _ rfl);have y2:=hcell _ _ (key 2 _ rfl);have y3:=hcell _ _ (key 3 _ rfl);have y4:=hcell _ _ (key 4 _ rfl);rw[Nat.add_zero] at y0;have FE:=hid (show Fr nob wr (wr.alloc (.cells #[.string (bs f.name),.int .i64 (f.line:Nat),.slice PA f.params.length PC,.int .i64 (f.ret:Nat),.int .i64 (f.body:Nat)] 48)) from (Fr.refl nob wr).alloc _);have BE:=hid (Blk.new wr 48 #[.string (bs f.name),.int .i64 (f.line:Nat),.slice PA f.params.length PC,.int .i64 (f.ret:Nat),.int .i64 (f.body:Nat)]);have HF:=hid (And.intro hf hpv);have HJ:=hid hlt;have hj6:(j:Int)≤6:=by omega
     clear hf hpv hpo hcell key hlt hj;go_upto_region 7 with fail;clear y0 y1 y2 y3 y4;generalize hw5:wr.alloc (.cells #[.string (bs f.name),.int .i64 (f.line:Nat),.slice PA f.params.length PC,.int .i64 (f.ret:Nat),.int .i64 (f.body:Nat)] 48)=w5 at *;have L5:=hid (LL.out.no FE.out);have T5:=hid (TT.out.fr FE.out (fun x=>x));have R5:=hid (RR.out.fr FE.out (fun x=>x));have W5:=hid (TW.out.frn FE.out);have F5:=hid (FR.out.tr (Fr.ofNo FE.out));clear LL TT RR TW FR FE hw5;generalize wr.heap.size=E at *;have c0:=L5.out.1;have glt:=L5.out.2.2.1;by_cases he:e=0
     · have heb:((e:Int)==0)=true:=by rw[he];rfl
       rcases L5.out.2.2.2 with ⟨_,hp0,hh,hf0,GG,zs,s,k,hck,g1,g2,g3,gL,g4,g5,g6,g7,g8,g9,hzl,hfu⟩|⟨h0,_⟩
       case inr=>exact absurd he h0
       have hbd:=HO.out.bodies f (List.mem_of_getElem? HF.out.1);have HC:=hid (qfunction_any (k:=j) g3 gL hck (by rw[g9];exact HF.out.1) (by omega) (by rw[g7];exact HF.out.2) rfl (fun zs=>by
        obtain⟨c,hc,hcb⟩:=hbd;exact qblock_any _ f.body c GG hck.geo g3 (by rw[g8];exact (List.getElem?_eq_some_iff.1 hc).1) (by rw[g8];exact hc) (by simpa[clsB] using hcb)))
       have HX:=hid (And.intro hh (And.intro hf0 (And.intro hzl hfu)));have HG:=hid (And.intro g1 (And.intro g2 (And.intro g3 (And.intro gL (And.intro g4 (And.intro g5 (And.intro g6 (And.intro g7 (And.intro g8 g9)))))))));rw[g2] at HC;have b0:=(BE.out.cell 0).trans (show _=some (Value.string (bs f.name)) from rfl);have b1:=(BE.out.cell 1).trans (show _=some (Value.int .i64 (f.line:Nat)) from rfl);have b2:=(BE.out.cell 2).trans (show _=some (Value.slice PA f.params.length PC) from rfl);have b3:=(BE.out.cell 3).trans (show _=some (Value.int .i64 (f.ret:Nat)) from rfl);have b4:=(BE.out.cell 4).trans (show _=some (Value.int .i64 (f.body:Nat)) from rfl);clear hck g1 g2 g3 gL g4 g5 g6 g7 g8 g9 hh hf0 hzl hfu hbd hp0;go_wp2_with fail
       refine HC.out.mono ?_;rintro en w6 ⟨rfl,hk6,f6⟩;obtain⟨g1,g2,g3,gL,g4,g5,g6,g7,g8,g9⟩:=HG.out;rw[g1] at f6;rw[g8,g9] at hk6;have F6:=hid (show Fr (fun b=>T+2≤b) w2 w6 from F5.out.tr f6);have T6:=hid (T5.out.fr f6 (fun hb=>by have h1:T+2≤T:=hb;omega));have R6:=hid (R5.out.fr f6 (fun hb=>by have h1:T+2≤T+1:=hb;omega));have W6:=hid (W5.out.keep (w':=w6) (fun b hb=>f6.block b (Nat.lt_of_lt_of_le hb W5.out.le) (fun hm=>by have h1:T+2≤b:=hm;omega)) f6.size);have L6:=hid (show ∃e p,L2q (T+2) g (.slice NA ns.length NC) (.slice (some ⟨fb,0,none⟩) fs.length FC) lvs pvs ns fs (j+1) w6 e p from by
        obtain⟨hh,hf0,hzl,hfu⟩:=HX.out;have hf:=HF.out.1;have hT:fs.take (j+1)=fs.take j++[f]:=by rw[List.take_add_one,hf];rfl
        have hlj:(fs.take j).length=j:=by rw[List.length_take];have:=HJ.out;omega
        cases hfn:funcC ns fs j f s with
        | good s'=>
          rw[hfn] at hk6;obtain⟨Z,hc5⟩:=hk6;obtain⟨_,_,-,-,-,-,-,-,-,-,-,q0,q1,-⟩:=hc5.cells;have hgl:=hc5.g_lt;have g2':(GG.atZ Z).g=g:=g2;rw[g2'] at q0 q1 hgl;refine⟨0,0,q0,q1,hgl,.inl ⟨rfl,rfl,hh,hf0,GG.atZ Z,zs++[s'.size],s',j,hc5,g1,g2,g3,gL,g4,g5,g6,g7,g8,g9,by rw[List.length_append,hzl];rfl,?_⟩⟩;rw[hT,funcsC_snoc,hfu,CkR.bind_good,hlj,Nat.zero_add,hfn];rfl
        | bad e' p'=>
          rw[hfn] at hk6;obtain⟨h1,h2,Z,s',zs',hc5⟩:=hk6;obtain⟨_,_,-,-,-,-,-,-,-,-,-,q0,q1,-⟩:=hc5.cells;have hgl:=hc5.g_lt;have g2':(GG.atZ Z).more.g=g:=g2;rw[g2'] at q0 q1 hgl;refine⟨e',p',q0,q1,hgl,.inr ⟨h1,h2,?_⟩⟩;unfold checkT;rw[hh,CkR.bind_good];have hb:funcsC ns fs 0 (fs.take (j+1)) [] (startC ns) = .bad e' p':=by
           rw[hT,funcsC_snoc,hfu,CkR.bind_good,hlj,Nat.zero_add,hfn];rfl
          have:=funcsC_bad ns fs (fs.take (j+1)) (fs.drop (j+1)) 0 [] (startC ns) hb;rw[List.take_append_drop] at this;rw[this];rfl)
       clear hk6 f6 g1 g2 g3 gL g4 g5 g6 g7 g8 g9 HC HX HG L5 T5 R5 W5 F5 c0 glt b0 b1 b2 b3 b4 BE he;obtain⟨e',p',L7⟩:=L6.out;have L7:=hid L7;clear L6;go_wp2_with fail
       go_roundw
       case rel=>exact⟨j+1,e',p',by have:=HJ.out;omega,by go_num,L7,T6,R6,W6,F6⟩
       case measure=>simp[intOf];have:=HJ.out;omega
     · have heb:((e:Int)==0)=false:=beq_eq_false_iff_ne.2 (by omega)
       have L7:=hid (show L2q (T+2) g (.slice NA ns.length NC) (.slice (some ⟨fb,0,none⟩) fs.length FC) lvs pvs ns fs (j+1) w5 e p from by
        obtain⟨q0,q1,q2,q3⟩:=L5.out;rcases q3 with ⟨h0,_⟩|h1
        · exact absurd h0 he
        · exact⟨q0,q1,q2,.inr h1⟩)
       clear L5 BE he;go_wp2_with fail
       clear c0 glt;go_roundw
       case rel=>exact⟨j+1,e,p,by have:=HJ.out;omega,by go_num,L7,T5,R5,W5,F5⟩
       case measure=>simp[intOf];have:=HJ.out;omega
   · have hlt2:¬(j:Int)<(fs.length:Int):=by omega
     have hje2:j=fs.length:=by omega
     subst hje2;have c0:=LL.out.1;have c1:=LL.out.2.1;have glt:=LL.out.2.2.1;have z0:=RR.out.frozen 0;have z1:=RR.out.frozen 1;have z2:=RR.out.frozen 2;have z3:=RR.out.frozen 3;have z4:=RR.out.frozen 4;have z5:=RR.out.frozen 5;have rlt:=RR.out.lt;have gnr:¬g=T+1:=by have:=GT.out;omega
     have r0:wr.cell? ⟨T+1,0,none⟩=some (.slice none 0 0):=(RR.out.cell 0).trans rfl;have r1:wr.cell? ⟨T+1,1,none⟩=some (.slice none 0 0):=(RR.out.cell 1).trans rfl;have r2:wr.cell? ⟨T+1,2,none⟩=some (.slice none 0 0):=(RR.out.cell 2).trans rfl;have r3:wr.cell? ⟨T+1,3,none⟩=some (.slice none 0 0):=(RR.out.cell 3).trans rfl;have r4:wr.cell? ⟨T+1,4,none⟩=some (.slice none 0 0):=(RR.out.cell 4).trans rfl;have r5:wr.cell? ⟨T+1,5,none⟩=some (.slice none 0 0):=(RR.out.cell 5).trans rfl;have FW:=hid (show Fr nob w2 wr→True from fun _=>trivial);have FF:=hid (show ∀w',Fr (oneb (T+1)) wr w'→Fr nob w w' from fun w' f=>by
       have h1:Fr (fun b=>T≤b) w w':=(Fr.ofNo (M:=fun b=>T≤b) F2.out).tr ((FR.out.mono (fun b _ hb=>by have hb:T+2≤b:=hb;show T≤b;omega)).trans f (fun _ _ x=>x) (fun b _ hb=>by rw[show b=T+1 from hb];show T≤T+1;omega));exact h1.mono (fun b hb hm=>by have hm:T≤b:=hm;omega))
     clear hlt hj;by_cases he:e=0
     · have hne:((e:Int) != 0)=false:=by rw[he];rfl
       have heb:((e:Int)==0)=true:=by rw[he];rfl
       rcases LL.out.2.2.2 with ⟨-,hp0,hh,hf0,GG,zs,s,k,hck,g1,g2,g3,gL,g4,g5,g6,g7,g8,g9,hzl,hfu⟩|⟨h0,_⟩
       case inr=>exact absurd he h0
       rw[List.take_of_length_le (Nat.le_refl _)] at hfu;have CA:=hid (show checkT ns fs = .good (⟨ns,fs,s.types,s.slots,s.fn,zs⟩:ProgM) from by unfold checkT;rw[hh,CkR.bind_good,hfu];rfl);obtain⟨M,B,Z,gg,bt,bq,bf,ct,cq,cf,nv,fv,lv,pv,nn,ff,LLL⟩:=GG;dsimp only at g1 g2 g3 gL g4 g5 g6 g7 g8 g9;subst g1 g2 g4 g5 g6 g7 g8 g9;obtain⟨zv,vv,hb,hz,-⟩:=hck.ex;obtain⟨ZA,ZC,rfl,-,-⟩:=hz.cap;dsimp only at hb hz;have q2:wr.cell? ⟨gg,2,none⟩=some (.slice NA nn.length NC):=(hb.cell 2).trans rfl;have q3:wr.cell? ⟨gg,3,none⟩=some (.slice FA ff.length FC):=(hb.cell 3).trans rfl;have q4:wr.cell? ⟨gg,4,none⟩=some (.slice (some ⟨bt,0,none⟩) nn.length ct):=(hb.cell 4).trans rfl;have q5:wr.cell? ⟨gg,5,none⟩=some (.slice (some ⟨bq,0,none⟩) nn.length cq):=(hb.cell 5).trans rfl;have q6:wr.cell? ⟨gg,6,none⟩=some (.slice (some ⟨bf,0,none⟩) nn.length cf):=(hb.cell 6).trans rfl;have q7:wr.cell? ⟨gg,7,none⟩=some (.slice ZA zs.length ZC):=(hb.cell 7).trans rfl;have HPR:=hid (show ProgAt wr (.slice NA nn.length NC) (.slice FA ff.length FC) (.slice (some ⟨bt,0,none⟩) nn.length ct) (.slice (some ⟨bq,0,none⟩) nn.length cq) (.slice (some ⟨bf,0,none⟩) nn.length cf) (.slice ZA zs.length ZC) lv pv (⟨nn,ff,s.types,s.slots,s.fn,zs⟩:ProgM) from
        ⟨hck.tree.tree,by have h9:=hck.types;have h8:=h9.len;simp[ints] at h8;rw[show s.types.length=nn.length from h8];exact h9,by have h9:=hck.slots;have h8:=h9.len;simp[intsI] at h8;rw[show s.slots.length=nn.length from h8];exact h9,by have h9:=hck.fn;have h8:=h9.len;simp[ints] at h8;rw[show s.fn.length=nn.length from h8];exact h9,hz⟩)
       have BE:=hid (show Blk ((((((wr.setCell ⟨T+1,0,none⟩ (.slice NA nn.length NC)).setCell ⟨T+1,1,none⟩ (.slice FA ff.length FC)).setCell ⟨T+1,2,none⟩ (.slice (some ⟨bt,0,none⟩) nn.length ct)).setCell ⟨T+1,3,none⟩ (.slice (some ⟨bq,0,none⟩) nn.length cq)).setCell ⟨T+1,4,none⟩ (.slice (some ⟨bf,0,none⟩) nn.length cf)).setCell ⟨T+1,5,none⟩ (.slice ZA zs.length ZC)) (T+1) 29 #[.slice NA nn.length NC,.slice FA ff.length FC,.slice (some ⟨bt,0,none⟩) nn.length ct,.slice (some ⟨bq,0,none⟩) nn.length cq,.slice (some ⟨bf,0,none⟩) nn.length cf,.slice ZA zs.length ZC] from ((((((RR.out.setCell 0 (.slice NA nn.length NC)).setCell 1 (.slice FA ff.length FC)).setCell 2 (.slice (some ⟨bt,0,none⟩) nn.length ct)).setCell 3 (.slice (some ⟨bq,0,none⟩) nn.length cq)).setCell 4 (.slice (some ⟨bf,0,none⟩) nn.length cf)).setCell 5 (.slice ZA zs.length ZC)));have FE:=hid (FF.out ((((((wr.setCell ⟨T+1,0,none⟩ (.slice NA nn.length NC)).setCell ⟨T+1,1,none⟩ (.slice FA ff.length FC)).setCell ⟨T+1,2,none⟩ (.slice (some ⟨bt,0,none⟩) nn.length ct)).setCell ⟨T+1,3,none⟩ (.slice (some ⟨bq,0,none⟩) nn.length cq)).setCell ⟨T+1,4,none⟩ (.slice (some ⟨bf,0,none⟩) nn.length cf)).setCell ⟨T+1,5,none⟩ (.slice ZA zs.length ZC)) (Fr.six wr (T+1) (.slice NA nn.length NC) (.slice FA ff.length FC) (.slice (some ⟨bt,0,none⟩) nn.length ct) (.slice (some ⟨bq,0,none⟩) nn.length cq) (.slice (some ⟨bf,0,none⟩) nn.length cf) (.slice ZA zs.length ZC)));have PE:=hid (HPR.out.farP RR.out (Fr.six wr (T+1) (.slice NA nn.length NC) (.slice FA ff.length FC) (.slice (some ⟨bt,0,none⟩) nn.length ct) (.slice (some ⟨bq,0,none⟩) nn.length cq) (.slice (some ⟨bf,0,none⟩) nn.length cf) (.slice ZA zs.length ZC)));clear hck hb hz hh hf0 hzl hfu hp0 he g3 gL LL;go_wp2_with fail
       all_goals
        clear r0 r1 r2 r3 r4 r5 z0 z1 z2 z3 z4 z5;generalize ((((((wr.setCell ⟨T+1,0,none⟩ (.slice NA nn.length NC)).setCell ⟨T+1,1,none⟩ (.slice FA ff.length FC)).setCell ⟨T+1,2,none⟩ (.slice (some ⟨bt,0,none⟩) nn.length ct)).setCell ⟨T+1,3,none⟩ (.slice (some ⟨bq,0,none⟩) nn.length cq)).setCell ⟨T+1,4,none⟩ (.slice (some ⟨bf,0,none⟩) nn.length cf)).setCell ⟨T+1,5,none⟩ (.slice ZA zs.length ZC))=wz at *;have z0:wz.cell? ⟨T+1,0,none⟩=some (.slice NA nn.length NC):=(BE.out.cell 0).trans rfl;have z1:wz.cell? ⟨T+1,1,none⟩=some (.slice FA ff.length FC):=(BE.out.cell 1).trans rfl;have z2:wz.cell? ⟨T+1,2,none⟩=some (.slice (some ⟨bt,0,none⟩) nn.length ct):=(BE.out.cell 2).trans rfl;have z3:wz.cell? ⟨T+1,3,none⟩=some (.slice (some ⟨bq,0,none⟩) nn.length cq):=(BE.out.cell 3).trans rfl;have z4:wz.cell? ⟨T+1,4,none⟩=some (.slice (some ⟨bf,0,none⟩) nn.length cf):=(BE.out.cell 4).trans rfl;have z5:wz.cell? ⟨T+1,5,none⟩=some (.slice ZA zs.length ZC):=(BE.out.cell 5).trans rfl;go_wp2_with fail
        refine bodyPost_ret (v:= .tuple #[.agg #[.slice NA nn.length NC,.slice FA ff.length FC,.slice (some ⟨bt,0,none⟩) nn.length ct,.slice (some ⟨bq,0,none⟩) nn.length cq,.slice (some ⟨bf,0,none⟩) nn.length cf,.slice ZA zs.length ZC],.int .i64 0,.int .i64 0]) (by simp[results,Tryz.results31,go_sem,z0,z1,z2,z3,z4,z5]) rfl ⟨by rw[CA.out];exact⟨_,_,_,_,rfl,by first|exact PE.out|exact PE.out.no ((Fr.refl nob _).drew)⟩,by first|exact FE.out|exact FE.out.drew⟩
     · have heb:((e:Int)==0)=false:=beq_eq_false_iff_ne.2 (by omega)
       have hne:((e:Int) != 0)=true:=by rw[bne,beq_eq_false_iff_ne.2 (by omega)];rfl
       have CA:=hid (show checkT ns fs = .bad e p∧e≠0∧e≤99 from by
        rcases LL.out.2.2.2 with ⟨h1,_⟩|⟨h1,h2,h3⟩
        · exact absurd h1 he
        · exact⟨h3,h1,h2⟩)
       clear he;go_wp2_with fail
       have BE:=hid (show Blk ((((((wr.setCell ⟨T+1,0,none⟩ (.slice none 0 0)).setCell ⟨T+1,1,none⟩ (.slice none 0 0)).setCell ⟨T+1,2,none⟩ (.slice none 0 0)).setCell ⟨T+1,3,none⟩ (.slice none 0 0)).setCell ⟨T+1,4,none⟩ (.slice none 0 0)).setCell ⟨T+1,5,none⟩ (.slice none 0 0)) (T+1) 29 #[.slice none 0 0,.slice none 0 0,.slice none 0 0,.slice none 0 0,.slice none 0 0,.slice none 0 0] from ((((((RR.out.setCell 0 (.slice none 0 0)).setCell 1 (.slice none 0 0)).setCell 2 (.slice none 0 0)).setCell 3 (.slice none 0 0)).setCell 4 (.slice none 0 0)).setCell 5 (.slice none 0 0)));have FE:=hid (FF.out ((((((wr.setCell ⟨T+1,0,none⟩ (.slice none 0 0)).setCell ⟨T+1,1,none⟩ (.slice none 0 0)).setCell ⟨T+1,2,none⟩ (.slice none 0 0)).setCell ⟨T+1,3,none⟩ (.slice none 0 0)).setCell ⟨T+1,4,none⟩ (.slice none 0 0)).setCell ⟨T+1,5,none⟩ (.slice none 0 0)) (Fr.six wr (T+1) (.slice none 0 0) (.slice none 0 0) (.slice none 0 0) (.slice none 0 0) (.slice none 0 0) (.slice none 0 0)));clear heb rlt;go_region_law (fail)
       all_goals
        clear r0 r1 r2 r3 r4 r5 z0 z1 z2 z3 z4 z5;generalize ((((((wr.setCell ⟨T+1,0,none⟩ (.slice none 0 0)).setCell ⟨T+1,1,none⟩ (.slice none 0 0)).setCell ⟨T+1,2,none⟩ (.slice none 0 0)).setCell ⟨T+1,3,none⟩ (.slice none 0 0)).setCell ⟨T+1,4,none⟩ (.slice none 0 0)).setCell ⟨T+1,5,none⟩ (.slice none 0 0))=wz at *;have z0:wz.cell? ⟨T+1,0,none⟩=some (.slice none 0 0):=(BE.out.cell 0).trans rfl;have z1:wz.cell? ⟨T+1,1,none⟩=some (.slice none 0 0):=(BE.out.cell 1).trans rfl;have z2:wz.cell? ⟨T+1,2,none⟩=some (.slice none 0 0):=(BE.out.cell 2).trans rfl;have z3:wz.cell? ⟨T+1,3,none⟩=some (.slice none 0 0):=(BE.out.cell 3).trans rfl;have z4:wz.cell? ⟨T+1,4,none⟩=some (.slice none 0 0):=(BE.out.cell 4).trans rfl;have z5:wz.cell? ⟨T+1,5,none⟩=some (.slice none 0 0):=(BE.out.cell 5).trans rfl;go_wp2_with fail
        refine bodyPost_ret (v:= .tuple #[.agg #[.slice none 0 0,.slice none 0 0,.slice none 0 0,.slice none 0 0,.slice none 0 0,.slice none 0 0],.int .i64 p,.int .i64 e]) (by simp[results,Tryz.results31,go_sem,z0,z1,z2,z3,z4,z5]) rfl ⟨by rw[CA.out.1];exact⟨rfl,CA.out.2⟩,by first|exact FE.out|exact FE.out.drew⟩
end
def BadLt {α:Type} (n:Nat) (r:CkR α):Prop:=match r with
 | .bad _ p=>p<n
 | .good _=>True
section
variable {α β:Type}{n:Nat}
theorem BadLt.bind {r:CkR α}{f:α→CkR β} (h:BadLt n r) (g:∀a,BadLt n (f a)):BadLt n (r.bind f):=by
 cases r with
 | bad e p=>exact h
 | good a=>exact g a
theorem BadLt.map {r:CkR α}{f:α→β} (h:BadLt n r):BadLt n (r.map f):=by
 cases r with
 | bad e p=>exact h
 | good a=>trivial
theorem BadLt.ite {c:Prop} [Decidable c] {r q:CkR α} (h:BadLt n r) (g:BadLt n q):BadLt n (if c then r else q):=by
 split
 · exact h
 · exact g
end
section
variable {ns:List NodeM}{fs:List FuncM}{k x n:Nat}{s:CkS}{ex:Nat→CkS→CkR (Nat×CkS)}{bl:Nat→CkS→CkR CkS}
theorem named_lt (hx:x<n) (name:List UInt8):BadLt n (namedC x name s):=by
 unfold namedC;cases findV s.vars name with
 | none=>exact hx
 | some v=>trivial
theorem args_lt (hex:∀y s,BadLt n (ex y s)):∀(l:List Nat) (s:CkS),BadLt n (argsC ex l s)
 | [],s=>trivial
 | a :: l,s=>by
  unfold argsC;exact (hex _ _).bind fun r=>(args_lt hex l _).map
theorem tells_lt (hx:x<n) (hex:∀y s,BadLt n (ex y s)) (nd:NodeM):BadLt n (tellsC fs ex x nd s):=by
 have hc:BadLt n (callC fs ex x nd s):=by
  unfold callC;cases findF fs nd.name with
  | none=>exact hx
  | some j=>exact (args_lt hex _ _).bind fun r=>BadLt.ite hx (BadLt.ite hx trivial)
 unfold tellsC;refine .ite trivial (.ite trivial (.ite trivial (.ite (named_lt hx _) (.ite hc (.ite ((named_lt hx _).bind fun t=>(hex _ _).bind fun r=> .ite trivial hx) (.ite ((hex _ _).bind fun a=>(hex _ _).bind fun b=> .ite hx trivial) ?_))))));exact (hex _ _).bind fun r=> .ite (.ite trivial hx) (.ite (.ite trivial hx) (.ite (.ite trivial hx) (.ite trivial hx)))
theorem expr_lt (hn:0<ns.length):∀(f x:Nat) (s:CkS),BadLt ns.length (exprC ns fs k f x s)
 | 0,x,s=>hn
 | f+1,x,s=>by
  unfold exprC;cases hx:ns[x]? with
  | none=>exact hn
  | some nd=>exact (tells_lt (List.getElem?_eq_some_iff.1 hx).1 (fun y s=>expr_lt hn f y s) nd).map
theorem seq_lt {st:Nat→CkS→CkR CkS} (hst:∀y s,BadLt n (st y s)):∀(l:List Nat) (s:CkS),BadLt n (seqC st l s)
 | [],s=>trivial
 | a :: l,s=>by
  unfold seqC;exact (hst _ _).bind fun r=>seq_lt hst l _
theorem stm_lt (hx:x<n) (hex:∀y s,BadLt n (ex y s)) (hbl:∀y s,BadLt n (bl y s)) (nd:NodeM):BadLt n (stmC fs k ex bl x nd s):=by
 unfold stmC letC retC;refine .ite ?_ (.ite ?_ (.ite ?_ (.ite (hex _ _).map (.ite ?_ (.ite ?_ ?_)))))
 · exact (hex _ _).bind fun r=> .ite hx (.ite hx (.ite hx trivial))
 · exact (named_lt hx _).bind fun t=>(hex _ _).bind fun r=> .ite trivial hx
 · exact (named_lt hx _).bind fun t=>(hex _ _).bind fun r=>(hex _ _).bind fun q=> .ite trivial hx
 · exact (hex _ _).bind fun r=> .ite trivial hx
 · exact .ite (.ite ((hex _ _).bind fun r=> .ite trivial hx) trivial) hx
 · exact (hex _ _).bind fun r=> .ite (seq_lt hbl _ _) hx
theorem block_lt (hn:0<ns.length):∀(f x:Nat) (s:CkS),BadLt ns.length (blockC ns fs k f x s)
 | 0,x,s=>hn
 | f+1,x,s=>by
  unfold blockC;cases hx:ns[x]? with
  | none=>exact hn
  | some nd=>
   refine (seq_lt (fun y s=>?_) _ _).map;cases hy:ns[y]? with
   | none=>exact hn
   | some na=>exact stm_lt (List.getElem?_eq_some_iff.1 hy).1 (fun y s=>expr_lt hn _ y s) (fun y s=>block_lt hn f y s) na
theorem pars_lt {body:Nat} (hb:body<n):∀(l:List (List UInt8×Nat)) (vs:List VarM),BadLt n (parsC body l vs)
 | [],vs=>trivial
 | p :: l,vs=>by
  unfold parsC;exact .ite hb (pars_lt hb l _)
theorem funcs_lt (hn:0<ns.length):∀(l:List FuncM) (k:Nat) (zs:List Nat) (s:CkS),(∀f∈l,f.body<ns.length)→BadLt ns.length (funcsC ns fs k l zs s)
 | [],k,zs,s,_=>trivial
 | f :: l,k,zs,s,h=>by
  unfold funcsC funcC;exact ((pars_lt (h f (List.mem_cons_self ..)) _ _).bind fun vs=>block_lt hn _ _ _).bind fun r=>funcs_lt hn l _ _ _ (fun g hg=>h g (List.mem_cons_of_mem _ hg))
theorem twice_lt:∀(l:List FuncM) (seen:List (List UInt8)) (b:Nat),(∀f∈l,f.body<n)→twiceC seen l=some b→b<n
 | [],seen,b,_,h=>by cases h
 | f :: l,seen,b,hb,h=>by
  unfold twiceC at h;split at h
  · injection h with h
    subst h;exact hb f (List.mem_cons_self ..)
  · exact twice_lt l _ b (fun g hg=>hb g (List.mem_cons_of_mem _ hg)) h
end
theorem body_lt {ns:List NodeM}{fs:List FuncM} (hok:TreeOk ns fs):∀f∈fs,f.body<ns.length:=fun f hf=>by
 obtain⟨c,hc,_⟩:=hok.bodies f hf;exact (List.getElem?_eq_some_iff.1 hc).1
theorem check_lt {ns:List NodeM}{fs:List FuncM} (hok:TreeOk ns fs){e p:Nat} (h:checkT ns fs = .bad e p) (he:e≠44):p<ns.length:=by
 have hb:=body_lt hok;unfold checkT headsC at h;cases ht:twiceC [] fs with
 | some b=>
  rw[ht] at h;injection h with h1 h2;subst h2;exact twice_lt fs [] b hb ht
 | none=>
  rw[ht] at h;dsimp only at h;by_cases hm:fs.any isMain=true
  · rw[if_pos hm] at h
    have hn:0<ns.length:=by
     obtain⟨f,hf,_⟩:=List.any_eq_true.1 hm;have:=hb f hf;omega
    have:=(funcs_lt (fs:=fs) hn fs 0 [] (startC ns) hb).map (f:=fun r=>(⟨ns,fs,r.2.types,r.2.slots,r.2.fn,r.1⟩:ProgM));rw[CkR.bind_good] at h;rw[h] at this;exact this
  · rw[if_neg hm] at h
    injection h with h1 h2;exact absurd h1.symm he
theorem parse_bad1 {l:List UInt8}{p er:Nat} (hr:parseM l=some (.bad p er)):1≤er:=by
 unfold parseM at hr;cases hl:lexM l with
 | bad i k=>
  rw[hl] at hr;simp at hr
  have:=lexM_bad hl;omega
 | good ts=>
  rw[hl] at hr;simp only[parseT,Option.map_eq_some_iff] at hr;obtain⟨q,hq,hr⟩:=hr;split at hr
  · injection hr with h1 h2
    omega
  · split at hr
    · injection hr with h1 h2
      omega
    · cases hr
end Go.Proofs.YtlbjicjinnnboaaGreatDoor
/- ParseBelow: lines rise from what is above to what is below. Printed by wip/tools/mkbelow.py. -/
namespace Go.Proofs.YtlbjicjinnnboaaGreatDoor
open Go.RowKit
namespace Pw
def LK (ns:List NodeM) (L x:Nat):Prop:=∃c,ns[x]?=some c∧L≤c.line
theorem LK.mono {ns:List NodeM}{L x:Nat} (h:LK ns L x) (y:List NodeM):LK (ns++y) L x:=by
 obtain⟨c,hc,hk⟩:=h;exact⟨c,by rw[List.getElem?_append_left (List.getElem?_eq_some_iff.1 hc).1];exact hc,hk⟩
theorem LK.ext {s t:PS}{L x:Nat} (h:LK s.nodes L x) (e:Ext s t):LK t.nodes L x:=by
 obtain⟨y,hy⟩:=e.nodes;rw[hy];exact h.mono y
theorem LK.le {ns:List NodeM}{L M x:Nat} (h:LK ns L x) (hm:M≤L):LK ns M x:=by
 obtain⟨c,hc,hk⟩:=h;exact⟨c,hc,Nat.le_trans hm hk⟩
def LinesOk (ns:List NodeM):Prop:=∀(i:Nat) (nd:NodeM),ns[i]?=some nd→∀x∈nd.l,LK ns nd.line x
theorem LinesOk.snoc {ns:List NodeM}{nd:NodeM} (h:LinesOk ns) (hn:∀x∈nd.l,LK ns nd.line x):LinesOk (ns++[nd]):=by
 intro i x hx;by_cases hi:i<ns.length
 · rw[List.getElem?_append_left hi] at hx
   exact fun y hy=>(h i x hx y hy).mono _
 · rw[List.getElem?_append_right (by omega)] at hx
   by_cases he:i=ns.length
   · subst he
     rw[Nat.sub_self] at hx;simp at hx
     subst hx;exact fun y hy=>(hn y hy).mono _
   · rw[List.getElem?_eq_none (by simp;omega)] at hx;cases hx
def AllL (ns:List NodeM) (L:Nat) (l:List Nat):Prop:=∀a∈l,LK ns L a
theorem AllL.ext {s t:PS}{L:Nat}{l:List Nat} (h:AllL s.nodes L l) (e:Ext s t):AllL t.nodes L l:=fun a ha=>(h a ha).ext e
theorem AllL.le {ns:List NodeM}{L M:Nat}{l:List Nat} (h:AllL ns L l) (hm:M≤L):AllL ns M l:=fun a ha=>(h a ha).le hm
theorem AllL.app {ns:List NodeM}{L:Nat}{l m:List Nat} (h:AllL ns L l) (g:AllL ns L m):AllL ns L (l++m):=fun a ha=>(List.mem_append.1 ha).elim (h a) (g a)
theorem AllL.nil (ns:List NodeM) (L:Nat):AllL ns L []:=fun a ha=>by cases ha
def LOk (ns:List NodeM) (L:Nat) (l:List Nat):Prop:=LinesOk ns∧AllL ns L l
theorem put_ln {k line n L:Nat}{name:List UInt8}{l:List Nat}{s:PS} (h:LinesOk s.nodes) (hn:AllL s.nodes line l) (hL:L≤line):LOk (pPut k line n name l s).2.nodes L (pPut k line n name l s).1:=
 ⟨h.snoc hn,fun a ha=>by rw[List.mem_singleton.1 ha];exact⟨⟨k,line,n,name,l⟩,by show (s.nodes++[_])[s.nodes.length]?=_;simp,hL⟩⟩
section
variable {src:List UInt8}{ts:List Tok}
def MonoT (src:List UInt8) (ts:List Tok):Prop:=∀i j,i≤j→j<ts.length→lineN src (ts.getD i tok0).place≤lineN src (ts.getD j tok0).place
theorem pl_mono (hm:MonoT src ts){s t:PS} (h:Ext s t) (ht:PSOk ts t):pLine src ts s≤pLine src ts t:=hm _ _ h.i ht.room
def preL (src:List UInt8) (ts:List Tok) (k:Task) (L:Nat) (s:PS):Prop:=match k with
 | .more _ line x=>L≤line∧line≤pLine src ts s∧LK s.nodes line x
 | .args l=>AllL s.nodes L l
 | .stmts l=>AllL s.nodes L l
 | .named line=>L≤line∧line≤pLine src ts s
 | _=>True
theorem run_ln (hm:MonoT src ts) (ht:ToksOk ts):∀(n:Nat) (k:Task) (s:PS) (r:List Nat×PS),run src ts n k s=some r→PSOk ts s→r.2.e=0→LinesOk s.nodes→∀L,L≤pLine src ts s→preL src ts k L s→LOk r.2.nodes L r.1:=by
 intro n;induction n with
 | zero=>intro k s r h;simp[run] at h
 | succ n ih=>
  intro k s r h hs he hw L hL hp;have ih2:∀{k:Task} {t:PS} {r:List Nat×PS} {ns:List NodeM},run src ts n k t=some r→PSOk ts t→r.2.e=0→t.nodes=ns→LinesOk ns→Ext s t→preL src ts k (pLine src ts s) t→LOk r.2.nodes (pLine src ts s) r.1:=fun h1 h2 h3 h4 h5 h6 h7=>ih _ _ _ h1 h2 h3 (by rw[h4];exact h5) _ (pl_mono hm h6 h2) h7
  have HM:=hid hm;cases k with
  | atom=>
   simp only[run] at h;split at h
   · rename_i h0
     simp only[Option.some.injEq] at h;subst h;exact absurd he h0
   · rename_i h0
     have h0:s.e=0:=by simpa using h0
     split at h
     · simp only[Option.some.injEq] at h;subst h
       exact put_ln hw (AllL.nil _ _) hL
     · split at h
       · simp only[Option.some.injEq] at h;subst h;exact put_ln hw (AllL.nil _ _) hL
       · split at h
         · rename_i h3
           split at h
           · rename_i hx
             simp only[Option.map_eq_some_iff] at h;obtain⟨q,hq,rfl⟩:=h;have e1:q.2.e=0:=((Ext.refl q.2).must (ts:=ts) [93]).e0 he;obtain⟨a,b⟩:=ih2 hq (((hs.goKind ht h3 (by omega)).down ht h0).must ht _) e1 (by rw[nodes_must,nodes_down];rfl) hw (by repeat (first|exact Ext.refl _|apply Ext.must|apply Ext.go|apply Ext.down|apply Ext.up|apply Ext.named|apply Ext.typed)) trivial;refine put_ln (s:=pUp (pMust ts [93] q.2)) (by show LinesOk (pMust ts [93] q.2).nodes;rw[nodes_must];exact a) ?_ hL
             show AllL (pMust ts [93] q.2).nodes _ _
             rw[nodes_must];exact b
           · simp only[Option.some.injEq] at h;subst h;exact put_ln hw (AllL.nil _ _) hL
         · split at h
           · simp only[Option.some.injEq] at h;subst h;exact put_ln hw (AllL.nil _ _) hL
           · split at h
             · simp only[Option.some.injEq] at h;subst h;exact put_ln hw (AllL.nil _ _) hL
             · split at h
               · rename_i hl
                 split at h
                 · simp only[Option.map_eq_some_iff] at h
                   obtain⟨q,hq,rfl⟩:=h;have e1:q.2.e=0:=((Ext.refl q.2).must (ts:=ts) [41]).e0 he;obtain⟨a,b⟩:=ih2 hq (((hs.goIs ht hl).down ht h0).must ht _) e1 (by rw[nodes_must,nodes_down];rfl) hw (by repeat (first|exact Ext.refl _|apply Ext.must|apply Ext.go|apply Ext.down|apply Ext.up|apply Ext.named|apply Ext.typed)) trivial;refine put_ln (s:=pUp (pMust ts [41] q.2)) (by show LinesOk (pMust ts [41] q.2).nodes;rw[nodes_must];exact a) ?_ hL
                   show AllL (pMust ts [41] q.2).nodes _ _
                   rw[nodes_must];exact b
                 · simp only[Option.some.injEq] at h;subst h;exact (e_fail (by decide) he).elim
               · split at h
                 · simp only[Option.map_eq_some_iff] at h
                   obtain⟨q,hq,rfl⟩:=h;have e1:q.2.e=0:=((Ext.refl q.2).must (ts:=ts) [41]).e0 he;obtain⟨a,b⟩:=ih2 hq ((hs.down ht h0).must ht _) e1 (by rw[nodes_must,nodes_down]) hw (by repeat (first|exact Ext.refl _|apply Ext.must|apply Ext.go|apply Ext.down|apply Ext.up|apply Ext.named|apply Ext.typed)) trivial;refine⟨by show LinesOk (pMust ts [41] q.2).nodes;rw[nodes_must];exact a,?_⟩
                   show AllL (pMust ts [41] q.2).nodes _ _
                   rw[nodes_must];exact b.le hL
                 · simp only[Option.some.injEq] at h;subst h;exact (e_fail (by decide) he).elim
  | factor=>
   simp only[run] at h;split at h
   · rename_i hx
     simp only[Option.map_eq_some_iff] at h;obtain⟨q,hq,rfl⟩:=h;obtain⟨a,b⟩:=ih2 hq (hs.goDown ht hx) he (show (pDown ts s).nodes=s.nodes from nodes_down s) hw (by repeat (first|exact Ext.refl _|apply Ext.must|apply Ext.go|apply Ext.down|apply Ext.up|apply Ext.named|apply Ext.typed)) trivial;exact put_ln (s:=pUp q.2) a b hL
   · split at h
     · rename_i hx
       simp only[Option.map_eq_some_iff] at h;obtain⟨q,hq,rfl⟩:=h;obtain⟨a,b⟩:=ih2 hq (hs.goDown ht hx) he (show (pDown ts s).nodes=s.nodes from nodes_down s) hw (by repeat (first|exact Ext.refl _|apply Ext.must|apply Ext.go|apply Ext.down|apply Ext.up|apply Ext.named|apply Ext.typed)) trivial;exact put_ln (s:=pUp q.2) a b hL
     · exact ih _ _ _ h hs he hw L hL trivial
  | chain lv=>
   simp only[run] at h;split at h
   · exact ih _ _ _ h hs he hw L hL trivial
   · simp only[Option.bind_eq_some_iff] at h
     obtain⟨q,hq,h⟩:=h;have hq1:=run_one _ _ _ _ hq trivial;have e1:q.2.e=0:=(run_ext _ _ _ _ h).e0 he;obtain⟨a,b⟩:=ih2 hq hs e1 rfl hw (Ext.refl s) trivial;have hok:=run_ok ht _ _ _ _ hq hs;have hle:=pl_mono hm (run_ext _ _ _ _ hq) hok;have hx:LK q.2.nodes (pLine src ts s) (q.1.headD 0):=b _ (by rw[hq1];exact List.mem_singleton.2 rfl);exact ih _ _ _ h hok he a L (Nat.le_trans hL hle) ⟨hL,hle,hx⟩
  | more lv line x=>
   obtain⟨hp1,hp2,hp3⟩:=hp;simp only[run] at h;split at h
   · simp only[Option.some.injEq] at h;subst h
     exact⟨hw,fun a ha=>by rw[List.mem_singleton.1 ha];exact hp3.le hp1⟩
   · rename_i hx
     simp only[Option.bind_eq_some_iff] at h;obtain⟨q,hq,h⟩:=h;have hq1:=run_one _ _ _ _ hq trivial;have hok:=run_ok ht _ _ _ _ hq (hs.goNext ht hx);have hgo:Ext s (pGo s):=(Ext.refl s).go;have hkx:LK q.2.nodes line x:=LK.ext (s:=pGo s) hp3 (run_ext _ _ _ _ hq);have kids:AllL q.2.nodes (pLine src ts s) q.1→AllL q.2.nodes line [x,q.1.headD 0]:=fun b y hy=>by
       rcases List.mem_cons.1 hy with hy|hy
       · rw[hy];exact hkx
       · rw[List.mem_singleton.1 hy]
         exact (b _ (by rw[hq1];exact List.mem_singleton.2 rfl)).le hp2
     split at h
     · simp only[Option.some.injEq] at h;subst h
       obtain⟨a,b⟩:=ih2 hq (hs.goNext ht hx) he (show (pGo s).nodes=s.nodes from rfl) hw hgo trivial;exact put_ln a (kids b) hp1
     · have e1:q.2.e=0:=(run_ext _ _ _ _ h).e0 he
       obtain⟨a,b⟩:=ih2 hq (hs.goNext ht hx) e1 (show (pGo s).nodes=s.nodes from rfl) hw hgo trivial;obtain⟨c,d⟩:=put_ln (k:=9) (line:=line) (n:=0) (name:=pNext ts lv s) (L:=line) a (kids b) (Nat.le_refl _);have hok2:=hok.put 9 line 0 (pNext ts lv s) [x,q.1.headD 0];have hle:pLine src ts s≤pLine src ts (pPut 9 line 0 (pNext ts lv s) [x,q.1.headD 0] q.2).2:=pl_mono hm ((hgo.trans (run_ext _ _ _ _ hq)).put 9 line 0 (pNext ts lv s) [x,q.1.headD 0]) hok2;exact ih _ _ _ h hok2 he c L (Nat.le_trans hL hle) ⟨hp1,Nat.le_trans hp2 hle,d _ (List.mem_singleton.2 rfl)⟩
  | args l=>
   simp only[run,Option.bind_eq_some_iff] at h;obtain⟨q,hq,h⟩:=h;have hok:=run_ok ht _ _ _ _ hq hs;have hle:=run_ext _ _ _ _ hq;split at h
   · rename_i hx
     have e1:q.2.e=0:=(pIs_kind hx).1;obtain⟨a,b⟩:=ih2 hq hs e1 rfl hw (Ext.refl s) trivial;exact ih _ _ _ h (hok.goIs ht hx) he a L (Nat.le_trans hL (pl_mono hm hle.go (hok.goIs ht hx))) (show AllL q.2.nodes L (l++q.1) from (AllL.ext (s:=s) hp hle).app (b.le hL))
   · simp only[Option.some.injEq] at h;subst h
     obtain⟨a,b⟩:=ih2 hq hs he rfl hw (Ext.refl s) trivial;exact⟨a,(AllL.ext (s:=s) hp hle).app (b.le hL)⟩
  | call=>
   simp only[run,Option.map_eq_some_iff] at h;obtain⟨q,hq,rfl⟩:=h;have e1:q.2.e=0:=((Ext.refl q.2).must (ts:=ts) [41]).e0 he;have hw2:LinesOk (pMust ts [40] (pNamed ts s)).nodes:=by rw[nodes_must,nodes_named];exact hw
   have key:LOk q.2.nodes (pLine src ts s) q.1:=by
     split at hq
     · exact ih2 hq ((hs.named ht).must ht _) e1 rfl hw2 (by repeat (first|exact Ext.refl _|apply Ext.must|apply Ext.go|apply Ext.down|apply Ext.up|apply Ext.named|apply Ext.typed)) (AllL.nil _ _)
     · simp only[Option.some.injEq] at hq;subst hq
       exact⟨hw2,AllL.nil _ _⟩
   refine put_ln (s:=pMust ts [41] q.2) (by rw[nodes_must];exact key.1) ?_ hL;rw[nodes_must];exact key.2
  | right=>
   simp only[run] at h;split at h
   · simp only[Option.some.injEq] at h;subst h;exact put_ln hw (AllL.nil _ _) hL
   · split at h
     · rename_i hx
       simp only[Option.map_eq_some_iff] at h;obtain⟨q,hq,rfl⟩:=h;have e1:q.2.e=0:=((Ext.refl q.2).must (ts:=ts) [41]).e0 he;obtain⟨a,b⟩:=ih2 hq ((hs.goIs ht hx).must ht _) e1 (by rw[nodes_must];rfl) hw (by repeat (first|exact Ext.refl _|apply Ext.must|apply Ext.go|apply Ext.down|apply Ext.up|apply Ext.named|apply Ext.typed)) trivial;refine put_ln (s:=pMust ts [41] q.2) (by rw[nodes_must];exact a) ?_ hL;rw[nodes_must];exact b
     · split at h
       · exact ih _ _ _ h hs he hw L hL trivial
       · exact ih _ _ _ h hs he hw L hL trivial
  | block=>
   simp only[run] at h;split at h
   · rename_i hx
     simp only[Option.map_eq_some_iff] at h;obtain⟨q,hq,rfl⟩:=h;have e1:q.2.e=0:=((Ext.refl q.2).must (ts:=ts) [125]).e0 he;obtain⟨a,b⟩:=ih2 hq ((hs.downIs ht hx).must ht _) e1 (by rw[nodes_must,nodes_down]) hw (by repeat (first|exact Ext.refl _|apply Ext.must|apply Ext.go|apply Ext.down|apply Ext.up|apply Ext.named|apply Ext.typed)) (AllL.nil _ _);refine put_ln (s:=pUp (pMust ts [125] q.2)) (by show LinesOk (pMust ts [125] q.2).nodes;rw[nodes_must];exact a) ?_ hL
     show AllL (pMust ts [125] q.2).nodes _ _
     rw[nodes_must];exact b
   · simp only[Option.some.injEq] at h;subst h;exact (e_fail (by decide) he).elim
  | stmts l=>
   simp only[run] at h;split at h
   · rename_i h0
     simp only[Option.some.injEq] at h;subst h;exact absurd he h0
   · split at h
     · simp only[Option.some.injEq] at h;subst h;exact⟨hw,hp⟩
     · simp only[Option.bind_eq_some_iff] at h
       obtain⟨q,hq,h⟩:=h;have e1:q.2.e=0:=(run_ext _ _ _ _ h).e0 he;obtain⟨a,b⟩:=ih2 hq hs e1 rfl hw (Ext.refl s) trivial;have hle:=run_ext _ _ _ _ hq;have hok:=run_ok ht _ _ _ _ hq hs;exact ih _ _ _ h hok he a L (Nat.le_trans hL (pl_mono hm hle hok)) (show AllL q.2.nodes L (l++q.1) from (AllL.ext (s:=s) hp hle).app (b.le hL))
  | named line=>
   obtain⟨hp1,hp2⟩:=hp;simp only[run] at h;split at h
   · simp only[Option.map_eq_some_iff] at h
     obtain⟨q,hq,rfl⟩:=h;have e1:q.2.e=0:=((Ext.refl q.2).must (ts:=ts) [59]).e0 he;obtain⟨a,b⟩:=ih2 hq hs e1 rfl hw (Ext.refl s) trivial;refine put_ln (s:=pMust ts [59] q.2) (by rw[nodes_must];exact a) ?_ hp1;rw[nodes_must];exact b.le hp2
   · split at h
     · rename_i hx
       simp only[Option.map_eq_some_iff,Option.bind_eq_some_iff] at h;obtain⟨q,hq,u,hu,rfl⟩:=h;have e2:u.2.e=0:=((Ext.refl u.2).must (ts:=ts) [59]).e0 he;have hx2:=((((Ext.refl q.2).must (ts:=ts) [93]).up).must (ts:=ts) [61]);have e1:q.2.e=0:=hx2.e0 ((run_ext _ _ _ _ hu).e0 e2);have hsn:PSOk ts (pNamed ts s):=hs.named ht;have hxs:Ext s (pMust ts [91] (pDown ts (pNamed ts s))):=(by repeat (first|exact Ext.refl _|apply Ext.must|apply Ext.go|apply Ext.down|apply Ext.up|apply Ext.named|apply Ext.typed));obtain⟨a,b⟩:=ih2 hq ((hsn.downIs ht hx).must ht _) e1 (by rw[nodes_must,nodes_down,nodes_named]) hw hxs trivial;have hokq:=run_ok ht _ _ _ _ hq ((hsn.downIs ht hx).must ht _);obtain⟨c,d⟩:=ih2 hu (((hokq.must ht _).up).must ht _) e2 (show (pMust ts [61] (pUp (pMust ts [93] q.2))).nodes=q.2.nodes by rw[nodes_must];exact nodes_must _ _) a ((hxs.trans (run_ext _ _ _ _ hq)).trans hx2) trivial;refine put_ln (s:=pMust ts [59] u.2) (by rw[nodes_must];exact c) ?_ hp1;rw[nodes_must];exact ((AllL.ext (s:=q.2) b (hx2.trans (run_ext _ _ _ _ hu))).app d).le hp2
     · simp only[Option.map_eq_some_iff] at h
       obtain⟨q,hq,rfl⟩:=h;have e1:q.2.e=0:=((Ext.refl q.2).must (ts:=ts) [59]).e0 he;obtain⟨a,b⟩:=ih2 hq ((hs.named ht).must ht _) e1 (by rw[nodes_must,nodes_named]) hw (by repeat (first|exact Ext.refl _|apply Ext.must|apply Ext.go|apply Ext.down|apply Ext.up|apply Ext.named|apply Ext.typed)) trivial;refine put_ln (s:=pMust ts [59] q.2) (by rw[nodes_must];exact a) ?_ hp1;rw[nodes_must];exact b.le hp2
  | stmt=>
   simp only[run] at h;split at h
   · rename_i hwd
     simp only[Option.map_eq_some_iff] at h;obtain⟨q,hq,rfl⟩:=h;have e1:q.2.e=0:=((Ext.refl q.2).must (ts:=ts) [59]).e0 he;obtain⟨a,b⟩:=ih2 hq (((hs.goWord ht hwd (by simp)).named ht).must ht _) e1 (by rw[nodes_must,nodes_named];rfl) hw (by repeat (first|exact Ext.refl _|apply Ext.must|apply Ext.go|apply Ext.down|apply Ext.up|apply Ext.named|apply Ext.typed)) trivial;refine put_ln (s:=pMust ts [59] q.2) (by rw[nodes_must];exact a) ?_ hL;rw[nodes_must];exact b
   · split at h
     · rename_i hwd
       simp only[Option.map_eq_some_iff] at h;obtain⟨q,hq,rfl⟩:=h;have e1:q.2.e=0:=((Ext.refl q.2).must (ts:=ts) [59]).e0 he;obtain⟨a,b⟩:=ih2 hq (hs.goWord ht hwd (by simp)) e1 (show (pGo s).nodes=s.nodes from rfl) hw (by repeat (first|exact Ext.refl _|apply Ext.must|apply Ext.go|apply Ext.down|apply Ext.up|apply Ext.named|apply Ext.typed)) trivial;refine put_ln (s:=pMust ts [59] q.2) (by rw[nodes_must];exact a) ?_ hL;rw[nodes_must];exact b
     · split at h
       · rename_i hwd
         simp only[Option.map_eq_some_iff,Option.bind_eq_some_iff] at h;obtain⟨q,hq,u,hu,rfl⟩:=h;have e1:q.2.e=0:=(run_ext _ _ _ _ hu).e0 he;have hxs:Ext s (pGo s):=(Ext.refl s).go;obtain⟨a,b⟩:=ih2 hq (hs.goWord ht hwd (by simp)) e1 (show (pGo s).nodes=s.nodes from rfl) hw hxs trivial;obtain⟨c,d⟩:=ih2 hu (run_ok ht _ _ _ _ hq (hs.goWord ht hwd (by simp))) he rfl a (hxs.trans (run_ext _ _ _ _ hq)) trivial;exact put_ln (s:=u.2) c ((AllL.ext (s:=q.2) b (run_ext _ _ _ _ hu)).app d) hL
       · split at h
         · rename_i hwd
           simp only[Option.bind_eq_some_iff] at h;obtain⟨q,hq,u,hu,h⟩:=h;have hokq:=run_ok ht _ _ _ _ hq (hs.goWord ht hwd (by simp));have hoku:=run_ok ht _ _ _ _ hu hokq;have hxs:Ext s (pGo s):=(Ext.refl s).go;have hxq:=hxs.trans (run_ext _ _ _ _ hq);have hxu:=hxq.trans (run_ext _ _ _ _ hu);split at h
           · rename_i hx
             simp only[Option.map_eq_some_iff] at h;obtain⟨v,hv,rfl⟩:=h;have e2:u.2.e=0:=(pIs_kind hx).1;have e1:q.2.e=0:=(run_ext _ _ _ _ hu).e0 e2;obtain⟨a,b⟩:=ih2 hq (hs.goWord ht hwd (by simp)) e1 (show (pGo s).nodes=s.nodes from rfl) hw hxs trivial;obtain⟨c,d⟩:=ih2 hu hokq e2 rfl a hxq trivial;obtain⟨f,g⟩:=ih2 hv (hoku.goIs ht hx) he (show (pGo u.2).nodes=u.2.nodes from rfl) c hxu.go trivial;have e3:Ext u.2 v.2:=((Ext.refl u.2).go).trans (run_ext _ _ _ _ hv);exact put_ln (s:=v.2) f (((AllL.ext (s:=u.2) ((AllL.ext (s:=q.2) b (run_ext _ _ _ _ hu)).app d) e3)).app g) hL
           · simp only[Option.some.injEq] at h;subst h
             have e1:q.2.e=0:=(run_ext _ _ _ _ hu).e0 he;obtain⟨a,b⟩:=ih2 hq (hs.goWord ht hwd (by simp)) e1 (show (pGo s).nodes=s.nodes from rfl) hw hxs trivial;obtain⟨c,d⟩:=ih2 hu hokq he rfl a hxq trivial;exact put_ln (s:=u.2) c ((AllL.ext (s:=q.2) b (run_ext _ _ _ _ hu)).app d) hL
         · split at h
           · rename_i hwd
             split at h
             · simp only[Option.some.injEq] at h;subst h
               exact put_ln (s:=pMust ts [59] (pGo s)) (by rw[nodes_must];exact hw) (AllL.nil _ _) hL
             · simp only[Option.map_eq_some_iff] at h
               obtain⟨q,hq,rfl⟩:=h;have e1:q.2.e=0:=((Ext.refl q.2).must (ts:=ts) [59]).e0 he;obtain⟨a,b⟩:=ih2 hq (hs.goWord ht hwd (by simp)) e1 (show (pGo s).nodes=s.nodes from rfl) hw (by repeat (first|exact Ext.refl _|apply Ext.must|apply Ext.go|apply Ext.down|apply Ext.up|apply Ext.named|apply Ext.typed)) trivial;refine put_ln (s:=pMust ts [59] q.2) (by rw[nodes_must];exact a) ?_ hL;rw[nodes_must];exact b
           · exact ih _ _ _ h hs he hw L hL ⟨hL,Nat.le_refl _⟩
end
end Pw
end Go.Proofs.YtlbjicjinnnboaaGreatDoor
/- The parser: how often a node hangs on others: just once. -/
namespace Go.Proofs.YtlbjicjinnnboaaGreatDoor
namespace Pw
open Go.RowKit
def parN (ns:List NodeM) (x:Nat):Nat:=(ns.map fun nd=>nd.l.count x).sum
def mN (ns:List NodeM) (x:Nat):Nat:=parN ns x+(if ns.length≤x then 1 else 0)
section
variable {src:List UInt8}{ts:List Tok}
theorem mN_put (k line n:Nat) (name:List UInt8) (l:List Nat) (s:PS) (x:Nat):mN (pPut k line n name l s).2.nodes x+(pPut k line n name l s).1.count x=mN s.nodes x+l.count x:=by
 show mN (s.nodes++[⟨k,line,n,name,l⟩]) x+[s.nodes.length].count x=_
 unfold mN parN;rw[List.map_append,List.sum_append,List.length_append,List.count_singleton];simp only[List.map_cons,List.map_nil,List.sum_cons,List.sum_nil,List.length_cons,List.length_nil];by_cases h:s.nodes.length=x
 · subst h
   rw[if_neg (by omega),if_pos (Nat.le_refl _)];simp;omega
 · have hb:(s.nodes.length==x)=false:=by simpa using h
   rw[hb];by_cases h2:s.nodes.length≤x
   · rw[if_pos (show s.nodes.length+(0+1)≤x by omega),if_pos h2];simp<;>omega
   · rw[if_neg (show ¬s.nodes.length+(0+1)≤x by omega),if_neg h2];simp<;>omega
theorem e_must {x:List UInt8}{s:PS} (h:(pMust ts x s).e=0):s.e=0:=((Ext.refl s).must (ts:=ts) x).e0 h
theorem run_e {n:Nat}{k:Task}{s:PS}{r:List Nat×PS} (h:run src ts n k s=some r) (he:r.2.e=0):s.e=0:=(run_ext _ _ _ _ h).e0 he
theorem nodes_go (s:PS):(pGo s).nodes=s.nodes:=rfl
theorem nodes_up (s:PS):(pUp s).nodes=s.nodes:=rfl
theorem run_par:∀(n:Nat) (k:Task) (s:PS) (r:List Nat×PS),run src ts n k s=some r→r.2.e=0→∀x,mN r.2.nodes x+r.1.count x=mN s.nodes x+(pendT k).count x:=by
 intro n;induction n with
 | zero=>intro k s r h;simp[run] at h
 | succ n ih=>
  intro k s r h he x;have ih2:∀{k:Task} {s:PS} {r:List Nat×PS} {ns:List NodeM},run src ts n k s=some r→r.2.e=0→s.nodes=ns→mN r.2.nodes x+r.1.count x=mN ns x+(pendT k).count x:=fun h1 h2 h3=>by
   subst h3;exact ih _ _ _ h1 h2 x
  have put0:∀(k line m:Nat) (name:List UInt8) (s:PS),mN (pPut k line m name [] s).2.nodes x+(pPut k line m name [] s).1.count x=mN s.nodes x+0:=fun k line m name s=>by
   rw[mN_put];rfl
  cases k with
  | atom=>
   simp only[run] at h;simp only[pendT,List.count_nil];split at h
   · rename_i h0
     simp only[Option.some.injEq] at h;subst h;exact absurd he h0
   · split at h
     · simp only[Option.some.injEq] at h;subst h;exact put0 _ _ _ _ (pGo s)
     · split at h
       · simp only[Option.some.injEq] at h;subst h;exact put0 _ _ _ _ (pGo s)
       · split at h
         · split at h
           · simp only[Option.map_eq_some_iff] at h
             obtain⟨q,hq,rfl⟩:=h;have c:=ih2 hq (e_must (x:=[93]) (ts:=ts) he) (show _=s.nodes by rw[nodes_must,nodes_down];rfl);rw[mN_put,nodes_up,nodes_must];simp only[pendT,List.count_nil] at c;omega
           · simp only[Option.some.injEq] at h;subst h;exact put0 _ _ _ _ (pGo s)
         · split at h
           · simp only[Option.some.injEq] at h;subst h;exact put0 _ _ _ _ (pGo s)
           · split at h
             · simp only[Option.some.injEq] at h;subst h;exact put0 _ _ _ _ (pGo s)
             · split at h
               · split at h
                 · simp only[Option.map_eq_some_iff] at h
                   obtain⟨q,hq,rfl⟩:=h;have c:=ih2 hq (e_must (x:=[41]) (ts:=ts) he) (show _=s.nodes by rw[nodes_must,nodes_down];rfl);rw[mN_put,nodes_up,nodes_must];simp only[pendT,List.count_nil] at c;omega
                 · simp only[Option.some.injEq] at h;subst h;exact (e_fail (by decide) he).elim
               · split at h
                 · simp only[Option.map_eq_some_iff] at h
                   obtain⟨q,hq,rfl⟩:=h;have c:=ih2 hq (e_must (x:=[41]) (ts:=ts) he) (show _=s.nodes by rw[nodes_must,nodes_down])
                   show mN (pMust ts [41] q.2).nodes x+q.1.count x=_
                   rw[nodes_must];exact c
                 · simp only[Option.some.injEq] at h;subst h;exact (e_fail (by decide) he).elim
  | factor=>
   simp only[run] at h;simp only[pendT,List.count_nil];have go:∀{k},((run src ts n .factor (pGo (pDown ts s))).map fun r=>pPut k (pLine src ts s) 0 [] r.1 (pUp r.2))=some r→mN r.2.nodes x+r.1.count x=mN s.nodes x+0:=fun h=>by
     simp only[Option.map_eq_some_iff] at h;obtain⟨q,hq,rfl⟩:=h;have c:=ih2 hq he (show (pDown ts s).nodes=s.nodes from nodes_down s);rw[mN_put,nodes_up];simp only[pendT,List.count_nil] at c;omega
   split at h
   · exact go h
   · split at h
     · exact go h
     · exact ih _ _ _ h he x
  | chain lv=>
   simp only[run] at h;simp only[pendT,List.count_nil];split at h
   · exact ih _ _ _ h he x
   · simp only[Option.bind_eq_some_iff] at h
     obtain⟨q,hq,h⟩:=h;have hq1:=run_one _ _ _ _ hq trivial;have c:=ih2 hq (run_e h he) rfl;have h9:=ih _ _ _ h he x;simp only[pendT,List.count_nil] at c h9;rw[hq1] at c;have e2:[q.1.headD 0]=[oneOf q.1]:=rfl;rw[e2] at h9;omega
  | more lv line y=>
   simp only[run] at h;simp only[pendT];split at h
   · simp only[Option.some.injEq] at h;subst h;rfl
   · simp only[Option.bind_eq_some_iff] at h
     obtain⟨q,hq,h⟩:=h;have hq1:=run_one _ _ _ _ hq trivial;have key:q.2.e=0→mN (pPut 9 line 0 (pNext ts lv s) [y,q.1.headD 0] q.2).2.nodes x+(pPut 9 line 0 (pNext ts lv s) [y,q.1.headD 0] q.2).1.count x=mN s.nodes x+[y].count x:=fun e1=>by
       have c:=ih2 hq e1 (show (pGo s).nodes=s.nodes from rfl);simp only[pendT,List.count_nil] at c;rw[mN_put];have e3:[y,q.1.headD 0].count x=[y].count x+[oneOf q.1].count x:=List.count_append (l₁:=[y]) (l₂:=[oneOf q.1]);rw[hq1] at c;omega
     split at h
     · simp only[Option.some.injEq] at h;subst h
       exact key he
     · have e5:=run_e h he
       have h5:=key e5;have h9:=ih _ _ _ h he x;simp only[pendT] at h9;have e4:[(pPut 9 line 0 (pNext ts lv s) [y,q.1.headD 0] q.2).1.headD 0]=(pPut 9 line 0 (pNext ts lv s) [y,q.1.headD 0] q.2).1:=rfl;rw[e4] at h9;omega
  | args l=>
   simp only[run,Option.bind_eq_some_iff] at h;simp only[pendT];obtain⟨q,hq,h⟩:=h;split at h
   · have e1:=run_e h he
     have c:=ih2 hq e1 rfl;have h9:=ih _ _ _ h he x;simp only[pendT,List.count_nil,List.count_append,nodes_go] at c h9;omega
   · simp only[Option.some.injEq] at h;subst h
     have c:=ih2 hq he rfl;simp only[pendT,List.count_nil] at c
     show mN q.2.nodes x+(l++q.1).count x=_
     rw[List.count_append];omega
  | call=>
   simp only[run,Option.map_eq_some_iff] at h;simp only[pendT,List.count_nil];obtain⟨q,hq,rfl⟩:=h;have e1:q.2.e=0:=e_must (x:=[41]) (ts:=ts) he;have hn:(pMust ts [40] (pNamed ts s)).nodes=s.nodes:=by rw[nodes_must,nodes_named]
   have key:mN q.2.nodes x+q.1.count x=mN s.nodes x:=by
     split at hq
     · have c:=ih2 hq e1 hn
       simp only[pendT,List.count_nil] at c;exact c
     · simp only[Option.some.injEq] at hq;subst hq
       show mN (pMust ts [40] (pNamed ts s)).nodes x+0=_
       rw[hn];rfl
   rw[mN_put,nodes_must];omega
  | right=>
   simp only[run] at h;simp only[pendT,List.count_nil];split at h
   · simp only[Option.some.injEq] at h;subst h;exact put0 _ _ _ _ (pGo s)
   · split at h
     · simp only[Option.map_eq_some_iff] at h
       obtain⟨q,hq,rfl⟩:=h;have c:=ih2 hq (e_must (x:=[41]) (ts:=ts) he) (show _=s.nodes by rw[nodes_must];rfl);simp only[pendT,List.count_nil] at c;rw[mN_put,nodes_must];omega
     · split at h<;>exact ih _ _ _ h he x
  | block=>
   simp only[run] at h;simp only[pendT,List.count_nil];split at h
   · simp only[Option.map_eq_some_iff] at h
     obtain⟨q,hq,rfl⟩:=h;have c:=ih2 hq (e_must (x:=[125]) (ts:=ts) he) (show _=s.nodes by rw[nodes_must,nodes_down]);simp only[pendT,List.count_nil] at c;rw[mN_put,nodes_up,nodes_must];omega
   · simp only[Option.some.injEq] at h;subst h;exact (e_fail (by decide) he).elim
  | stmts l=>
   simp only[run] at h;simp only[pendT];split at h
   · rename_i h0
     simp only[Option.some.injEq] at h;subst h;exact absurd he h0
   · split at h
     · simp only[Option.some.injEq] at h;subst h;rfl
     · simp only[Option.bind_eq_some_iff] at h
       obtain⟨q,hq,h⟩:=h;have c:=ih2 hq (run_e h he) rfl;have h9:=ih _ _ _ h he x;simp only[pendT,List.count_nil,List.count_append] at c h9;omega
  | named line=>
   simp only[run] at h;simp only[pendT,List.count_nil];split at h
   · simp only[Option.map_eq_some_iff] at h
     obtain⟨q,hq,rfl⟩:=h;have c:=ih2 hq (e_must (x:=[59]) (ts:=ts) he) rfl;simp only[pendT,List.count_nil] at c;rw[mN_put,nodes_must];omega
   · split at h
     · simp only[Option.map_eq_some_iff,Option.bind_eq_some_iff] at h
       obtain⟨q,hq,u,hu,rfl⟩:=h;have e2:u.2.e=0:=e_must (x:=[59]) (ts:=ts) he;have e1:q.2.e=0:=e_must (ts:=ts) (x:=[93]) (s:=q.2) (e_must (ts:=ts) (x:=[61]) (s:=pUp (pMust ts [93] q.2)) (run_e hu e2));have c:=ih2 hq e1 (show _=s.nodes by rw[nodes_must,nodes_down,nodes_named]);have g:=ih2 hu e2 (show (pMust ts [61] (pUp (pMust ts [93] q.2))).nodes=q.2.nodes by rw[nodes_must];exact nodes_must _ _);simp only[pendT,List.count_nil] at c g;rw[mN_put,nodes_must,List.count_append];omega
     · simp only[Option.map_eq_some_iff] at h
       obtain⟨q,hq,rfl⟩:=h;have c:=ih2 hq (e_must (x:=[59]) (ts:=ts) he) (show _=s.nodes by rw[nodes_must,nodes_named]);simp only[pendT,List.count_nil] at c;rw[mN_put,nodes_must];omega
  | stmt=>
   simp only[run] at h;simp only[pendT,List.count_nil];split at h
   · simp only[Option.map_eq_some_iff] at h
     obtain⟨q,hq,rfl⟩:=h;have c:=ih2 hq (e_must (x:=[59]) (ts:=ts) he) (show _=s.nodes by rw[nodes_must,nodes_named];rfl);simp only[pendT,List.count_nil] at c;rw[mN_put,nodes_must];omega
   · split at h
     · simp only[Option.map_eq_some_iff] at h
       obtain⟨q,hq,rfl⟩:=h;have c:=ih2 hq (e_must (x:=[59]) (ts:=ts) he) (show (pGo s).nodes=s.nodes from rfl);simp only[pendT,List.count_nil] at c;rw[mN_put,nodes_must];omega
     · split at h
       · simp only[Option.map_eq_some_iff,Option.bind_eq_some_iff] at h
         obtain⟨q,hq,u,hu,rfl⟩:=h;have e1:q.2.e=0:=run_e hu he;have c:=ih2 hq e1 (show (pGo s).nodes=s.nodes from rfl);have g:=ih2 hu he rfl;simp only[pendT,List.count_nil] at c g;rw[mN_put,List.count_append];omega
       · split at h
         · simp only[Option.bind_eq_some_iff] at h
           obtain⟨q,hq,u,hu,h⟩:=h;split at h
           · rename_i hx
             simp only[Option.map_eq_some_iff] at h;obtain⟨v,hv,rfl⟩:=h;have e2:u.2.e=0:=run_e (s:=pGo u.2) hv he;have e1:q.2.e=0:=run_e hu e2;have c:=ih2 hq e1 (show (pGo s).nodes=s.nodes from rfl);have g:=ih2 hu e2 rfl;have g2:=ih2 hv he (show (pGo u.2).nodes=u.2.nodes from rfl);simp only[pendT,List.count_nil] at c g g2;rw[mN_put,List.count_append,List.count_append];omega
           · simp only[Option.some.injEq] at h;subst h
             have e1:q.2.e=0:=run_e hu he;have c:=ih2 hq e1 (show (pGo s).nodes=s.nodes from rfl);have g:=ih2 hu he rfl;simp only[pendT,List.count_nil] at c g;rw[mN_put,List.count_append];omega
         · split at h
           · split at h
             · simp only[Option.some.injEq] at h;subst h
               have:=put0 17 (pLine src ts s) 0 [] (pMust ts [59] (pGo s));rw[nodes_must] at this;exact this
             · simp only[Option.map_eq_some_iff] at h
               obtain⟨q,hq,rfl⟩:=h;have c:=ih2 hq (e_must (x:=[59]) (ts:=ts) he) (show (pGo s).nodes=s.nodes from rfl);simp only[pendT,List.count_nil] at c;rw[mN_put,nodes_must];omega
           · exact ih _ _ _ h he x
def bodyN (fs:List FuncM) (x:Nat):Nat:=(fs.map (·.body)).count x
theorem func_par {n:Nat}{s:PS}{fs:FuncM×PS} (h:runFunc src ts n s=some fs) (he:fs.2.e=0) (x:Nat):mN fs.2.nodes x+[fs.1.body].count x=mN s.nodes x:=by
 simp only[runFunc,Option.bind_eq_some_iff,Option.map_eq_some_iff] at h;obtain⟨p,hp,b,hb,rfl⟩:=h;have hn1:(pMust ts [40] (pNamed ts (pMust ts [102,110] s))).nodes=s.nodes:=by rw[nodes_must,nodes_named,nodes_must]
 have h2:p.2.nodes=s.nodes:=by
  split at hp
  · rw[params_nodes _ _ _ _ hp,hn1]
  · simp only[Option.some.injEq] at hp
    subst hp;exact hn1
 have hb1:=run_one _ _ _ _ hb trivial;have c:=run_par _ _ _ _ hb he x;simp only[pendT,List.count_nil] at c;have hn:(if pIs ts [123] (pMust ts [41] p.2)=true then pMust ts [41] p.2 else pTyped ts (pMust ts [41] p.2)).nodes=s.nodes:=by
  split
  · rw[nodes_must,h2]
  · rw[nodes_typed,nodes_must,h2]
 rw[hn] at c;rw[hb1] at c;exact c
theorem fns_par:∀(n:Nat) (acc:List FuncM) (s:PS) (r:List FuncM×PS),runFns src ts n acc s=some r→r.2.e=0→∀x,mN r.2.nodes x+bodyN r.1 x=mN s.nodes x+bodyN acc x
 | 0,_,_,_,h,_,_=>by simp[runFns] at h
 | n+1,acc,s,r,h,he,x=>by
  simp only[runFns] at h;split at h
  · simp only[Option.some.injEq] at h;subst h;rfl
  · split at h
    · simp only[Option.some.injEq] at h;subst h;rfl
    · simp only[Option.bind_eq_some_iff] at h
      obtain⟨fs,hfs,h⟩:=h;have c:=fns_par n _ _ _ h he x;have d:=func_par hfs ((fns_ext _ _ _ _ h).e0 he) x;have e:bodyN (acc++[fs.1]) x=bodyN acc x+[fs.1.body].count x:=by simp[bodyN,List.count_append]
      omega
end
theorem parse_par {src:List UInt8}{ns:List NodeM}{fs:List FuncM} (h:parseM src=some (.good ns fs)) (x:Nat):parN ns x+bodyN fs x=if x<ns.length then 1 else 0:=by
 unfold parseM at h;cases hl:lexM src with
 | bad p e=>rw[hl] at h;simp at h
 | good ts=>
  rw[hl] at h;simp only[parseT,Option.map_eq_some_iff] at h;obtain⟨q,hq,h⟩:=h;split at h
  · cases h
  · rename_i h0
    have h0:q.2.e=0:=by simpa using h0
    split at h
    · cases h
    · injection h with h1 h2
      subst h1;subst h2;have c:=fns_par _ _ _ _ hq h0 x;have e:mN [] x=1:=by simp[mN,parN]
      rw[e] at c;have e2:bodyN [] x=0:=rfl;rw[e2] at c;unfold mN at c;by_cases hx:q.2.nodes.length≤x
      · rw[if_pos hx] at c;rw[if_neg (by omega)];omega
      · rw[if_neg hx] at c;rw[if_pos (by omega)];omega
end Pw
end Go.Proofs.YtlbjicjinnnboaaGreatDoor
