/- Mks: KsN, KsSz. -/
import Derived.Test.YtlbjicjinnnboaaGreatDoorMkP
import Derived.BigQuiet
set_option linter.unusedVariables false
set_option linter.unusedSimpArgs false
/- CheckSizes: the row of next slots in memory. -/
namespace Go.Proofs.YtlbjicjinnnboaaGreatDoor
open Go.RowKit
open Pw
structure NxAt (w0:World) (A:Option Addr) (n c:Nat) (ls:List Nat) (w:World):Prop where
 fr:Fr nob w0 w
 own:Own w 3 1 (.slice A n c) n (ints ls)
 new:∀b,blk (.slice A n c)=some b→w0.heap.size≤b
section
variable {w0 w w1:World}{A:Option Addr}{n c:Nat}{ls:List Nat}
theorem ints_I (l:List Nat):ints l=intsI (l.map fun x:Nat=>(x:Int)):=by unfold ints intsI;rw[List.map_map];rfl
theorem NxAt.len (h:NxAt w0 A n c ls w):ls.length=n:=by have:=h.own.len;unfold ints at this;rw[List.length_map] at this;omega
theorem NxAt.no (h:NxAt w0 A n c ls w) (f:Fr nob w w1):NxAt w0 A n c ls w1:=⟨h.fr.tr f,h.own.fr f (fun _ _ x=>x),h.new⟩
theorem NxAt.app (h:NxAt w0 A n c ls w) (f1:Fr nob w w1){A6:Option Addr}{c6 x:Nat}{w6:World} (ho6:Own w6 3 1 (.slice A6 (n+1) c6) (n+1) (ints ls++[.int .i64 (x:Nat)])) (hf6:Fr (obl (blk (.slice A n c))) w1 w6) (hv6:blk (.slice A6 (n+1) c6)=blk (.slice A n c)∨blk (.slice A6 (n+1) c6)=some w1.heap.size):NxAt w0 A6 (n+1) c6 (ls++[x]) w6:=by
 have h1:=h.no f1;refine⟨h1.fr.trans hf6 (fun _ _ x=>x) (fun b hlt hm=>by have:=h.new b hm;omega),by unfold ints at ho6 ⊢;rw[List.map_append];exact ho6,fun b hb=>?_⟩;rcases hv6 with e|e
 · exact h.new b (e ▸ hb)
 · rw[e] at hb;injection hb with hb
   have:=h1.fr.size;omega
theorem NxAt.set (h:NxAt w0 A n c ls w){k x:Nat}{v:Nat} (hv:ls[k]?=some v):∃b,A=some ⟨b,0,none⟩∧w.cell? ⟨b,k,none⟩=some (.int .i64 (v:Nat))∧w.frozen? ⟨b,k,none⟩=false∧b<w.heap.size∧NxAt w0 A n c (ls.set k x) (w.setCell ⟨b,k,none⟩ (.int .i64 (x:Nat))):=by
 have hk:=(List.getElem?_eq_some_iff.1 hv).1;rw[h.len] at hk;obtain⟨b,e,hc⟩:=h.own.some (by omega);subst e;have hcn:n≤c:=by obtain⟨_,_,e,hc,_⟩:=h.own.cap;injection e with _ _ e;subst e;exact hc
 have hb:blk (.slice (some ⟨b,0,none⟩) n c)=some b:=by simp[blk];omega
 have hcell:=hc k (.int .i64 (v:Nat)) (by unfold ints;rw[List.getElem?_map,hv];rfl);obtain⟨cs,hbk⟩:=h.own.ty hb;have f:Fr (oneb b) w (w.setCell ⟨b,k,none⟩ (.int .i64 (x:Nat))):=(Fr.refl _ w).setCell _ _ (fun _=>rfl);refine⟨b,rfl,by simpa using hcell,hbk.frozen k,hbk.lt,h.fr.trans f (fun _ _ x=>x) (fun q hlt hm=>by have hm:q=b:=hm;have:=h.new b hb;omega),?_,h.new⟩;have:=h.own.store hb k (.int .i64 (x:Nat));unfold ints at this ⊢;rw[List.map_set];simpa using this
end
theorem nextL_le {p:ProgM} (hi:ProgIs p){i k v:Nat} (h:(nextL p i)[k]?=some v):v≤3+i:=by
 have hk:k<p.fs.length:=by have:=(List.getElem?_eq_some_iff.1 h).1;rw[nextL_len] at this;exact this
 rw[nextL_get hk] at h;injection h with h;have h1:cntL p i k≤i:=by unfold cntL;exact Nat.le_trans List.countP_le_length (by simp)
 have h2:parL p k≤3:=by unfold parL;rw[List.getElem?_eq_getElem hk];exact hi.tree.ok.pars _ (List.getElem_mem hk)
 omega
set_option maxHeartbeats 4000000 in
set_option maxRecDepth 100000 in
theorem checkSizes_walk {V:World→Prop} (HQ:QSrc V) (s:ByteArray) (w:World) (hv:V w):Calls Tryz.prog 11 #[.string s] w fun e w'=>e = .returned (.bool true)∧Fr nob w w':=by
 have HSH:=hid (shown4_any HQ w hv);obtain⟨T,hT⟩:∃T,s.data.toList.take 700=T:=⟨_,rfl⟩;have HSO:=hid (fun w'=>short4_any s w');rw[hT] at HSO;have hTl:T.length≤700:=by rw[←hT,List.length_take];omega
 obtain⟨r,hr⟩:=source_some T;have HS:=hid (fun w' (f:Fr nob w w')=>HQ.src (bs T) w' (HQ.no _ _ hv f) (by show T.toArray.size≤_;rw[List.size_toArray];omega) r hr);have HR:=hid hr;clear hT hTl hr hv HQ;go_enter Tryz.func11,Tryz.ntmps11;go_wp2_with fail
 refine HSH.out.mono ?_;rintro e w1 ⟨rfl,hf1⟩;have F1:=hid hf1;clear hf1 HSH;go_wp2_with fail
 refine (HSO.out w1).mono ?_;rintro e w1' ⟨rfl,hw⟩;subst hw;go_wp2_with fail
 refine (HS.out _ F1.out).mono ?_;rintro e w2 ⟨hsa,hf2⟩;have F2:=hid (F1.out.tr hf2);clear hf2 HS HSO F1;cases r with
 | bad p er=>
  obtain⟨he,he0⟩:=hsa;have he:e = .returned (.tuple #[.agg #[.slice none 0 0,.slice none 0 0,.slice none 0 0,.slice none 0 0,.slice none 0 0,.slice none 0 0],.int .i64 (p:Nat),.int .i64 (er:Nat)]):=he;subst he;have heb:((er:Int)==0)=false:=beq_eq_false_iff_ne.2 (by omega);have hne:((er:Int) != 0)=true:=by rw[bne,heb];rfl
  clear he0;go_wp2_with fail
  go_ret;exact⟨rfl,F2.out.alloc _⟩
 | good p=>
  have HI:=hid (source_is HR.out).1;obtain⟨g,ub,zb,hg,pf,rfl⟩:=source_prog hsa HI.out;subst hg;rw[pf.val];have P2:=hid (pf.no ((Fr.refl nob w2).alloc (.cells #[.slice (some ⟨g.nb,0,none⟩) g.p.ns.length g.nc,.slice (some ⟨g.fb,0,none⟩) g.p.fs.length g.fc,.slice (some ⟨g.tb,0,none⟩) g.p.ns.length g.tc,.slice (some ⟨g.sb,0,none⟩) g.p.ns.length g.sc,.slice (some ⟨ub,0,none⟩) g.p.ns.length g.uc,.slice (some ⟨zb,0,none⟩) g.p.fs.length g.zc] 29)));have F3:=hid (F2.out.alloc (.cells #[.slice (some ⟨g.nb,0,none⟩) g.p.ns.length g.nc,.slice (some ⟨g.fb,0,none⟩) g.p.fs.length g.fc,.slice (some ⟨g.tb,0,none⟩) g.p.ns.length g.tc,.slice (some ⟨g.sb,0,none⟩) g.p.ns.length g.sc,.slice (some ⟨ub,0,none⟩) g.p.ns.length g.uc,.slice (some ⟨zb,0,none⟩) g.p.fs.length g.zc] 29));have BP:=hid (Blk.new w2 29 #[.slice (some ⟨g.nb,0,none⟩) g.p.ns.length g.nc,.slice (some ⟨g.fb,0,none⟩) g.p.fs.length g.fc,.slice (some ⟨g.tb,0,none⟩) g.p.ns.length g.tc,.slice (some ⟨g.sb,0,none⟩) g.p.ns.length g.sc,.slice (some ⟨ub,0,none⟩) g.p.ns.length g.uc,.slice (some ⟨zb,0,none⟩) g.p.fs.length g.zc]);have hf6:(g.p.fs.length:Int)≤6:=by have:=HI.out.tree.ok.fewf;omega
  have hn3:(g.p.ns.length:Int)≤300:=by have:=HI.out.tree.ok.few;omega
  obtain⟨m,hm⟩:∃m,m=g.p.fs.length:=⟨_,rfl⟩;obtain⟨n,hn⟩:∃n,n=g.p.ns.length:=⟨_,rfl⟩;have HM:=hid hm;have HN:=hid hn;rw[←hm,←hn] at BP F3 P2;rw[←hm] at hf6;rw[←hn] at hn3;rw[←hm,←hn];clear hsa pf F2 hm hn;go_upto_region 5 with fail;generalize w2.alloc (.cells #[.slice (some ⟨g.nb,0,none⟩) n g.nc,.slice (some ⟨g.fb,0,none⟩) m g.fc,.slice (some ⟨g.tb,0,none⟩) n g.tc,.slice (some ⟨g.sb,0,none⟩) n g.sc,.slice (some ⟨ub,0,none⟩) n g.uc,.slice (some ⟨zb,0,none⟩) m g.zc] 29)=w4 at *;generalize w2.heap.size=PB at *;have N0:=hid (show NxAt w4 (some ⟨w4.heap.size,0,none⟩) 0 0 [] (w4.alloc (.cells #[] 3)) from ⟨(Fr.refl _ _).alloc _,Own.empty _ _ _ _,fun b hb=>by simp[blk] at hb<;>omega⟩);go_upto_region 6 with fail;generalize w4.alloc (.cells #[] 3)=w5 at *;generalize w4.heap.size=NB at *;go_wp2_with fail
  go_loopw [7,8] (fun l i wr=>∃(j:Nat) (A:Option Addr) (c:Nat),j≤m∧l = .slice A j c∧i = .int .i64 j∧Hid (NxAt w4 A j c ((g.p.fs.take j).map fun f=>f.params.length) wr)) (fun _ i _=>m - (intOf i).toNat)
  case atStart=>exact⟨0,_,_,Nat.zero_le _,rfl,rfl,N0⟩
  case round=>
   clear N0;obtain⟨j,A,c,hj,rfl,rfl,NX⟩:=hrel;by_cases hlt:j<m
   · obtain⟨f,hf⟩:∃f,g.p.fs[j]?=some f:=⟨_,List.getElem?_eq_getElem (by rw[←HM.out];exact hlt)⟩
     obtain⟨pv,hpo,-,-,d2,-,-⟩:=(P2.out.no NX.out.fr).pg.tree.fn hf;obtain⟨PA,PC,rfl,hpc,-⟩:=hpo.cap;have hp3:f.params.length≤3:=HI.out.tree.ok.pars f (List.mem_of_getElem? hf);obtain⟨-,q1,-,-,-,-,-⟩:=(BP.out.fr NX.out.fr (fun x=>x)).sixth;have EQ:=hid (show (g.p.fs.take (j+1)).map (fun f=>f.params.length)=(g.p.fs.take j).map (fun f=>f.params.length)++[f.params.length] from by rw[List.take_add_one,hf];simp);obtain⟨k,hk⟩:∃k,f.params.length=k:=⟨_,rfl⟩;obtain⟨ls,hls⟩:∃ls,(g.p.fs.take j).map (fun f=>f.params.length)=ls:=⟨_,rfl⟩;rw[hk] at d2 hp3 EQ hpc;rw[hls] at EQ NX;have hlt2:(j:Int)<(m:Int):=by omega
     have hj6:j≤6:=by omega
     have hk3:(k:Int)≤3:=by omega
     have HV:=hid (NX.out.own.alloc (.cells #[.int .i64 (k:Nat)] 3));have HR:=hid (Rd.ofBlk (n:=1) (size:=1) (cs:=[.int .i64 (k:Nat)]) (Blk.new wr 3 [.int .i64 (k:Nat)].toArray) rfl (by decide));have HJ:=hid hlt;clear hf hpo hlt hj hk hls;go_wp2_with (at_builtin;revert HJ)
     intro HJ;refine wpList_append (v:= .slice A j c) (n:=j) (m:=1) (xs:=ints ls) (news:=[.int .i64 (k:Nat)]) rfl _ _ rfl TyInts rfl rfl HV.out HR.out (by simp[Value.oneCell']) (by omega) (by unfold maxLen;omega) ?_;intro A6 c6 w6 ho6 hf6 hv6;have N6:=hid (NX.out.app ((Fr.refl nob wr).alloc (.cells #[.int .i64 (k:Nat)] 3)) ho6 hf6 hv6);rw[←EQ.out] at N6;clear ho6 hf6 hv6 HV HR NX d2 q1;go_wp2_with fail
     go_roundw
     case rel=>exact⟨j+1,A6,c6,by have:=HJ.out;omega,rfl,by go_num,N6⟩
     case measure=>simp[intOf];have:=HJ.out;omega
   · have hjm:j=m:=by omega
     subst hjm;have hlt2:¬(j:Int)<(j:Int):=by omega
     rw[List.take_of_length_le (Nat.le_of_eq HM.out.symm),←sizes_start] at NX;obtain⟨q0,q1,q2,q3,q4,q5,-⟩:=(BP.out.fr NX.out.fr (fun x=>x)).sixth;have hjj:((j:Int) != (j:Int))=false:=by simp
     have hnn:((n:Int) != (n:Int))=false:=by simp
     clear hlt hj;go_wp2_with fail
     clear q0 q1 q2 q3 q4 q5;have NX0:=hid NX.out;clear NX;go_loopw [9] (fun i wq=>∃x:Nat,x≤n∧i = .int .i64 x∧Hid (NxAt w4 A j c (nextL g.p x) wq)) (fun i _=>n - (intOf i).toNat)
     case atStart=>exact⟨0,Nat.zero_le _,rfl,NX0⟩
     case round=>
      clear NX0;obtain⟨x,hx,rfl,NX⟩:=hrel;obtain⟨q0,q1,q2,q3,q4,q5,-⟩:=(BP.out.fr NX.out.fr (fun x=>x)).sixth;by_cases hlt:x<n
      · obtain⟨nd,hnd⟩:∃nd,g.p.ns[x]?=some nd:=⟨_,List.getElem?_eq_getElem (by rw[←HN.out];exact hlt)⟩
        have PR:=hid (P2.out.no NX.out.fr);obtain⟨lv,-,e0,-,-,-,-,-,-⟩:=PR.out.pg.node hnd;have hlt2:(x:Int)<(n:Int):=by omega
        have HJ:=hid hlt;by_cases hk:nd.kind=10
        · obtain⟨k,v,h1,h2,h3,h4,h5⟩:=sizes_let HI.out hnd hk
          have u0:=PR.out.fnc h1;have u1:=PR.out.slc h4;obtain⟨b,rfl,b0,-,-,-⟩:=NX.out.set (x:=v+1) h3;rw[hk] at e0;have hkm:(k:Int)<(j:Int):=by have:=HM.out;omega
          have hk0:decide ((k:Int)<0)=false:=by simp
          have hk1:decide (j≤k)=false:=by simp;omega
          have hv3:=nextL_le HI.out h3;have hvv:((v:Int) != (v:Int))=false:=by simp
          have hv4:(v:Int)+1≤1000:=by omega
          have H3:=hid h3;have H5:=hid h5;clear hlt hx hnd h1 h2 h3 h4 h5 hk hv3;go_wp2_with fail
          go_quiet (fail)
          have NX2:=hid (NX.out.no ((Fr.refl nob wr).drewN nq));clear NX PR b0 u0 u1 e0 q0 q1 q2 q3 q4 q5;generalize wr.drewN nq=w7 at *;obtain⟨b',e,b0,b1,b2,NS⟩:=NX2.out.set (x:=v+1) H3.out;injection e with e;injection e with e;subst e;rw[←H5.out] at NS;have NS2:=hid NS;have hk2:¬(k:Int)<0:=by omega
          clear NS NX2 H3 H5 hk0 hk1 hvv;go_wp2_with fail
          go_roundw
          case rel=>exact⟨x+1,by have:=HJ.out;omega,by go_num,by first|exact NS2|exact hid (by simpa using NS2.out)⟩
          case measure=>simp[intOf];have:=HJ.out;omega
        · have EQ:=hid (sizes_other hnd hk)
          have i0:((nd.kind:Int) != 10)=true:=by simp;omega
          clear hlt hx hnd hk;go_wp2_with fail
          go_roundw
          case rel=>exact⟨x+1,by have:=HJ.out;omega,by go_num,by rw[EQ.out];exact NX⟩
          case measure=>simp[intOf];have:=HJ.out;omega
      · have hxn:x=n:=by omega
        subst hxn;have hlt2:¬(x:Int)<(x:Int):=by omega
        rw[HN.out,sizes_end HI.out] at NX;have PR:=hid (P2.out.no NX.out.fr);have hi:=ints4_any A (some ⟨zb,0,none⟩) j j c g.zc (g.p.sizes.map fun x:Nat=>(x:Int)) (g.p.sizes.map fun x:Nat=>(x:Int)) wr (by rw[←ints_I];exact NX.out.own.rd) (by rw[←ints_I];have:=PR.out.sz.rd;rw[←HM.out] at this;exact this);have HI2:=hid hi;have F9:=hid (F3.out.tr NX.out.fr);clear hi hlt hx NX PR;go_wp2_with fail
        refine HI2.out.mono ?_;rintro e w9 ⟨rfl,q,rfl⟩;simp only[decide_true];go_wp2_with fail
        go_ret;exact⟨rfl,F9.out.drewN _⟩
end Go.Proofs.YtlbjicjinnnboaaGreatDoor
