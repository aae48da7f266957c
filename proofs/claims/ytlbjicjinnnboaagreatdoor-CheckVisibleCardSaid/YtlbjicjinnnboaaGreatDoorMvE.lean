/- The parser's functions: atom. Printed by wip/tools/mkright.py. -/
import Derived.Test.YtlbjicjinnnboaaGreatDoorUShelf
import Derived.Test.YtlbjicjinnnboaaGreatDoorMvD
import Derived.Lib.AtoiAll
set_option maxHeartbeats 8000000
set_option maxRecDepth 100000
set_option linter.unusedVariables false
set_option linter.unusedSimpArgs false
namespace Go.Proofs.YtlbjicjinnnboaaGreatDoor
open Go.RowKit Go.Proofs.Tryz
section
variable {src:ByteArray}{tb tc:Nat}{ts:List Tok}{g:Nat}{n:Nat}
theorem Fr.bytes {w w':World} (e:TypeId) (h:w'=w∨∃t,w'=Lib.bytesWorld w e t):Fr nob w w':=by
 rcases h with rfl|⟨t,rfl⟩
 . exact Fr.refl _ _
 . have hb:=Lib.bytesWorld_below w e t
   exact⟨hb.os,hb.tape,hb.output,hb.size,λk hk _=>hb.block k hk⟩
theorem xC:∀(l:List UInt8) (a:Nat),dK l->aO a l<=9223372036854775807->Lib.parseUint10 a l = .ok (aO a l)
 | [],a,_,_=>rfl
 | c :: r,a,hd,hv=>by
  have hc:=hd c List.mem_cons_self;rw[eB] at hv ⊢;have hge:=qC (a*10+(c.toNat - 48)) r;unfold Lib.parseUint10;rw[if_pos hc,if_neg (by omega),if_neg (by omega)];exact xC r _ (λx hx=>hd x (List.mem_cons_of_mem _ hx)) hv
theorem aKm {l:List UInt8} (h0:l≠[]) (hd:dK l) (hv:aO 0 l<=9223372036854775807):Lib.atoiAll l = .ok (aO 0 l:Nat):=by
 cases l with
 | nil=>exact absurd rfl h0
 | cons c r=>
  have hc:=hd c List.mem_cons_self;have hm:Lib.parseMag (c :: r) = .ok (aO 0 (c :: r)):=by
   unfold Lib.parseMag;rw[if_neg (by simp)];exact xC _ _ hd hv
  unfold Lib.atoiAll;have h45:¬c.toNat=45:=by omega
  have h43:¬c.toNat=43:=by omega
  simp only[h43,h45,or_self,if_false];rw[hm];dsimp only;rw[if_neg (by omega),if_neg (by simp)]
theorem aKl (ih:∀m,m<n->Good src tb tc ts g m):Does src tb tc ts g n .atom 224 #[(g,())]:=by
 cases n with
 | zero=>exact Does.zero _ _ _
 | succ n=>
  intro R w0 w s r h hr hn;have IH:=hD (ih n (Nat.lt_succ_self n));have S0:=hD h;simp only[run] at hr;obtain⟨tk,htk⟩:∃tk,(bI ts s).kind=tk:=⟨_,rfl⟩;obtain⟨tt,htt⟩:∃tt,(bI ts s).text=tt:=⟨_,rfl⟩;obtain⟨tp,htp⟩:∃tp,(bI ts s).place=tp:=⟨_,rfl⟩;obtain⟨bt,hbt⟩:∃bt,bs tt=bt:=⟨_,rfl⟩;have HK:=hD htk;have HT:=hD htt;have HP:=hD htp;have HBT:=hD hbt;rw[htk,htt] at hr;have hmem:bI ts s∈ts:=by
    unfold bI;rw[List.getD,gE h.ok.room];exact List.getElem_mem _
  have HMEM:=hD hmem;clear htk htt htp hbt hmem;by_cases he0:s.e=0
  . rw[if_neg (by omega)] at hr
    have he:((s.e:Int)==0)=true:=by rw[he0];rfl
    have H0:=hD he0;by_cases k1:tk=1
    . rw[if_pos k1] at hr
      simp only[aA0] at hr;subst hr;obtain⟨z0,z1,z2⟩:=h.toks.nums _ HMEM (by rw[HK.o,k1]);rw[HT.o] at z0 z1 z2;have HQ:=hD (aKm z0 z1 z2);have hsz:bt.size<=9223372036854775806:=by
        have h9:=h.toks.short _ HMEM.o;rw[HT.o] at h9;rw[<-HBT.o]
        show tt.toArray.size<=_
        rw[List.size_toArray];omega
      have HSZ:=hD hsz;have HO:=hD (h.ok.lQ h.toks HK (by omega));have hn2:s.nodes.length+1<=1000000:=by simpa[bR,pGo] using hn
      have HN:=hD (show s.nodes.length<=1000000 by omega);have e1:((tk:Int)==1)=true:=by rw[k1];rfl
      clear k1 he0 z0 z1 z2 hsz hn2;clear h ih hn;go_enter func224,ntmps224;go_wp2_with fail
      refine stepM (S0.o.line rfl) λw1 S1=>?_;obtain⟨hg1,c11,c21,c41,c51,f21,f41⟩:=S1.o.cells;obtain⟨hr1,x0,x1,x2⟩:=S1.o.tok;rw[HK.o] at x0;rw[HT.o,HBT.o] at x1;rw[HP.o] at x2;have n1:=World.new_ne w1 (g,U1) c11;have n2:=World.new_ne w1 (tb,s.i*3) x0;go_wp2_with fail
      go_region_held3 (λwx=>wx.cell? (g,1)=(tb,ts.length,tc)∧wx.cell? (g,2)=s.i∧wx.cell? (tb,s.i*3)=tk∧wx.cell? (tb,s.i*3+1)=bt∧wx.cell? (tb,s.i*3+2)=tp) (go_keep) (first|fail)
      have Z2:=hD (S1.o.no (((fR w1).alloc (.cells #[tk,bt,tp] 115)).drew));have BT:Hd (Blk (w1.alloc (.cells #[tk,bt,tp] 115)).drew w1.heap.size 115 #[tk,bt,tp]):=Blk.new w1 _ _;clear hr1 x0 x1 x2 n1 n2 c11 c21 c41 c51 f21 f41 S1 S0;generalize (w1.alloc (.cells #[tk,bt,tp] 115)).drew=w2 at *;have hgB:g≠w1.heap.size:=Nat.ne_of_lt hg1;clear hg1;generalize w1.heap.size=B at *;have HGB:=hD hgB.symm;clear hgB;have S2:=hD Z2.o.here;obtain⟨hg2,c12,c22,c42,c52,f22,f42⟩:=S2.o.cells;have hi2:=S2.o.i_le;have BT2:=S2.o.fr.blk BT HGB (by decide);have d02:=BT2.cell 0;have d12:=BT2.cell 1;simp at d02 d12
      clear BT2;go_upto_region 7 with (fail);have S3:=hD (S2.o.go HO);clear hg2 c12 c22 c42 c52 f22 f42 hi2 he e1 d02 d12;generalize w2.setCell (g,U2) ((s.i:Int)+1:Int)=w3 at *;have BT3:=S3.o.fr.blk BT HGB (by decide);have d03:=BT3.cell 0;have d13:=BT3.cell 1;simp at d03 d13
      clear BT3;go_wp2_with (go_at_call 232;go_must (refine stepM (strconv_Atoi_ok _ HSZ _ (by rw[<-HBT.o];exact HQ) _) λw4 hw=>?_;have F4:=hD (Fr.bytes _ hw);have S4:=hD (S3.o.no F4);clear hw))
      refine stepM (S4.o.wD 1 _ (aNt tt) rfl rfl (name:=[]) rfl HN) λw5 S5=>?_;go_wp2
      go_ret;exact⟨rfl,Z2.o.back S5⟩
    . rw[if_neg k1] at hr
      have e1:((tk:Int)==1)=false:=bN.2 (by omega);by_cases k2:tk=2
      . rw[if_pos k2] at hr
        simp only[aA0] at hr;subst hr;have HO:=hD (h.ok.lQ h.toks HK (by omega));have hn2:s.nodes.length+1<=1000000:=by simpa[bR,pGo] using hn
        have HN:=hD (show s.nodes.length<=1000000 by omega);have e2:((tk:Int)==2)=true:=by rw[k2];rfl
        clear k1 k2 he0 hn2;clear h ih hn;go_enter func224,ntmps224;go_wp2_with fail
        refine stepM (S0.o.line rfl) λw1 S1=>?_;obtain⟨hg1,c11,c21,c41,c51,f21,f41⟩:=S1.o.cells;obtain⟨hr1,x0,x1,x2⟩:=S1.o.tok;rw[HK.o] at x0;rw[HT.o,HBT.o] at x1;rw[HP.o] at x2;have n1:=World.new_ne w1 (g,U1) c11;have n2:=World.new_ne w1 (tb,s.i*3) x0;go_wp2_with fail
        go_region_held3 (λwx=>wx.cell? (g,1)=(tb,ts.length,tc)∧wx.cell? (g,2)=s.i∧wx.cell? (tb,s.i*3)=tk∧wx.cell? (tb,s.i*3+1)=bt∧wx.cell? (tb,s.i*3+2)=tp) (go_keep) (first|fail)
        have Z2:=hD (S1.o.no (((fR w1).alloc (.cells #[tk,bt,tp] 115)).drew));have BT:Hd (Blk (w1.alloc (.cells #[tk,bt,tp] 115)).drew w1.heap.size 115 #[tk,bt,tp]):=Blk.new w1 _ _;clear hr1 x0 x1 x2 n1 n2 c11 c21 c41 c51 f21 f41 S1 S0;generalize (w1.alloc (.cells #[tk,bt,tp] 115)).drew=w2 at *;have hgB:g≠w1.heap.size:=Nat.ne_of_lt hg1;clear hg1;generalize w1.heap.size=B at *;have HGB:=hD hgB.symm;clear hgB;have S2:=hD Z2.o.here;obtain⟨hg2,c12,c22,c42,c52,f22,f42⟩:=S2.o.cells;have hi2:=S2.o.i_le;have BT2:=S2.o.fr.blk BT HGB (by decide);have d02:=BT2.cell 0;have d12:=BT2.cell 1;simp at d02 d12
        clear BT2;go_upto_region 11 with (fail);have S3:=hD (S2.o.go HO);clear hg2 c12 c22 c42 c52 f22 f42 hi2 he e1 e2 d02 d12;generalize w2.setCell (g,U2) ((s.i:Int)+1:Int)=w3 at *;have BT3:=S3.o.fr.blk BT HGB (by decide);have d03:=BT3.cell 0;have d13:=BT3.cell 1;simp at d03 d13
        clear BT3;go_wp2_with fail
        refine stepM (S3.o.wD 3 _ 0 rfl rfl (name:=tt) HBT HN) λw4 S4=>?_;clear d03 d13;go_wp2
        go_ret;exact⟨rfl,Z2.o.back S4⟩
      . rw[if_neg k2] at hr
        have e2:((tk:Int)==2)=false:=bN.2 (by omega);by_cases k3:tk=3
        . rw[if_pos k3] at hr
          have HO:=hD (h.ok.lQ h.toks HK (by omega));have e3:((tk:Int)==3)=true:=by rw[k3];rfl
          clear k1 k2 k3 he0;by_cases hm:pIs ts [91] (pGo s)=true
          . rw[if_pos hm] at hr
            simp only[mS] at hr;obtain⟨q,hq,rfl⟩:=hr;have hq1:=aJ _ _ _ _ hq trivial;have hd:=iG _ _ _ _ hq;rw[bH,dO,lV] at hd;have hdl:=h.ok.fine H0.o;have HDB:=hD (show (1:Int)<=((aA ts [93] q.2).deep:Int)∧((aA ts [93] q.2).deep:Int)<=20 by rw[bH];omega);have HD:=hD (show 1<=(aA ts [93] q.2).deep by rw[bH];omega);have hn2:(aA ts [93] q.2).nodes.length+1<=1000000:=by simpa[bR,pUp] using hn
            have HN:=hD (show (aA ts [93] q.2).nodes.length<=1000000 by omega);have HN1:=hD (Nat.le_trans (aV ((Ext.refl q.2).must (ts:=ts) [93])) HN);have HM:=hD hm;have HQ:=hD hq;rw[hq1];clear hq hq1 hd hdl hn2 hm;clear h ih hn;go_enter func224,ntmps224;go_wp2_with fail
            refine stepM (S0.o.line rfl) λw1 S1=>?_;obtain⟨hg1,c11,c21,c41,c51,f21,f41⟩:=S1.o.cells;obtain⟨hr1,x0,x1,x2⟩:=S1.o.tok;rw[HK.o] at x0;rw[HT.o,HBT.o] at x1;rw[HP.o] at x2;have n1:=World.new_ne w1 (g,U1) c11;have n2:=World.new_ne w1 (tb,s.i*3) x0;go_wp2_with fail
            go_region_held3 (λwx=>wx.cell? (g,1)=(tb,ts.length,tc)∧wx.cell? (g,2)=s.i∧wx.cell? (tb,s.i*3)=tk∧wx.cell? (tb,s.i*3+1)=bt∧wx.cell? (tb,s.i*3+2)=tp) (go_keep) (first|fail)
            have Z2:=hD (S1.o.no (((fR w1).alloc (.cells #[tk,bt,tp] 115)).drew));have BT:Hd (Blk (w1.alloc (.cells #[tk,bt,tp] 115)).drew w1.heap.size 115 #[tk,bt,tp]):=Blk.new w1 _ _;clear hr1 x0 x1 x2 n1 n2 c11 c21 c41 c51 f21 f41 S1 S0;generalize (w1.alloc (.cells #[tk,bt,tp] 115)).drew=w2 at *;have hgB:g≠w1.heap.size:=Nat.ne_of_lt hg1;clear hg1;generalize w1.heap.size=B at *;have HGB:=hD hgB.symm;clear hgB;have S2:=hD Z2.o.here;obtain⟨hg2,c12,c22,c42,c52,f22,f42⟩:=S2.o.cells;have hi2:=S2.o.i_le;have BT2:=S2.o.fr.blk BT HGB (by decide);have d02:=BT2.cell 0;have d12:=BT2.cell 1;simp at d02 d12
            clear BT2;go_wp2_with fail
            have S3:=hD (S2.o.go HO);clear hg2 c12 c22 c42 c52 f22 f42 hi2 he e1 e2 e3 d02 d12;generalize w2.setCell (g,U2) ((s.i:Int)+1:Int)=w3 at *;refine stepM (S3.o.is ⟨#[91]⟩ HM) λw4 S4=>?_;go_wp2_with fail
            refine stepM (S4.o.down H0) λw5 S5=>?_;go_wp2_with fail
            refine stepM (S5.o.must ⟨#[91]⟩) λw6 S6=>?_;go_wp2_with fail
            refine stepM (IH.o.expr _ _ _ _ _ S6 HQ HN1) λw7 S7=>?_;go_wp2_with fail
            refine stepM (S7.o.must ⟨#[93]⟩) λw8 S8=>?_;obtain⟨hg8,c18,c28,c48,c58,f28,f48⟩:=S8.o.cells;have hi8:=S8.o.i_le;obtain⟨hl8,hu8⟩:=HDB.o;go_upto_region 22 with (fail);have S9:=hD (S8.o.up HD);clear hg8 c18 c28 c48 c58 f28 f48 hi8 hl8 hu8;generalize w8.setCell (g,U4) (((aA ts [93] (q.2)).deep:Int) - 1:Int)=w9 at *;have BT9:=S9.o.fr.blk BT HGB (by decide);have d09:=BT9.cell 0;have d19:=BT9.cell 1;simp at d09 d19
            clear BT9;go_wp2_with fail
            refine stepM (S9.o.xA (oneOf q.1) rfl 5 _ 0 rfl rfl (name:=tt) HBT HN) λw10 S10=>?_;clear d09 d19;go_wp2
            go_ret;exact⟨rfl,Z2.o.back S10⟩
          . rw[if_neg hm] at hr
            simp only[aA0] at hr;subst hr;have hn2:s.nodes.length+1<=1000000:=by simpa[bR,pGo] using hn
            have HN:=hD (show s.nodes.length<=1000000 by omega);have HM:=hD (show pIs ts [91] (pGo s)=false by simpa using hm);clear hn2 hm;clear h ih hn;go_enter func224,ntmps224;go_wp2_with fail
            refine stepM (S0.o.line rfl) λw1 S1=>?_;obtain⟨hg1,c11,c21,c41,c51,f21,f41⟩:=S1.o.cells;obtain⟨hr1,x0,x1,x2⟩:=S1.o.tok;rw[HK.o] at x0;rw[HT.o,HBT.o] at x1;rw[HP.o] at x2;have n1:=World.new_ne w1 (g,U1) c11;have n2:=World.new_ne w1 (tb,s.i*3) x0;go_wp2_with fail
            go_region_held3 (λwx=>wx.cell? (g,1)=(tb,ts.length,tc)∧wx.cell? (g,2)=s.i∧wx.cell? (tb,s.i*3)=tk∧wx.cell? (tb,s.i*3+1)=bt∧wx.cell? (tb,s.i*3+2)=tp) (go_keep) (first|fail)
            have Z2:=hD (S1.o.no (((fR w1).alloc (.cells #[tk,bt,tp] 115)).drew));have BT:Hd (Blk (w1.alloc (.cells #[tk,bt,tp] 115)).drew w1.heap.size 115 #[tk,bt,tp]):=Blk.new w1 _ _;clear hr1 x0 x1 x2 n1 n2 c11 c21 c41 c51 f21 f41 S1 S0;generalize (w1.alloc (.cells #[tk,bt,tp] 115)).drew=w2 at *;have hgB:g≠w1.heap.size:=Nat.ne_of_lt hg1;clear hg1;generalize w1.heap.size=B at *;have HGB:=hD hgB.symm;clear hgB;have S2:=hD Z2.o.here;obtain⟨hg2,c12,c22,c42,c52,f22,f42⟩:=S2.o.cells;have hi2:=S2.o.i_le;have BT2:=S2.o.fr.blk BT HGB (by decide);have d02:=BT2.cell 0;have d12:=BT2.cell 1;simp at d02 d12
            clear BT2;go_wp2_with fail
            have S3:=hD (S2.o.go HO);clear hg2 c12 c22 c42 c52 f22 f42 hi2 he e1 e2 e3 d02 d12;generalize w2.setCell (g,U2) ((s.i:Int)+1:Int)=w3 at *;refine stepM (S3.o.is ⟨#[91]⟩ HM) λw4 S4=>?_;have BT4:=S4.o.fr.blk BT HGB (by decide);have d04:=BT4.cell 0;have d14:=BT4.cell 1;simp at d04 d14
            clear BT4;go_wp2_with fail
            refine stepM (S4.o.wD 4 _ 0 rfl rfl (name:=tt) HBT HN) λw5 S5=>?_;clear d04 d14;go_wp2
            go_ret;exact⟨rfl,Z2.o.back S5⟩
        . rw[if_neg k3] at hr
          have e3:((tk:Int)==3)=false:=bN.2 (by omega);clear k1 k2 k3 he0;by_cases ht:pIs ts [116,114,117,101] s=true
          . rw[if_pos ht] at hr
            simp only[aA0] at hr;subst hr;have HO:=hD (h.ok.yL h.toks ht);have hn2:s.nodes.length+1<=1000000:=by simpa[bR,pGo] using hn
            have HN:=hD (show s.nodes.length<=1000000 by omega);have HM:=hD ht;obtain⟨b,hb⟩:∃b,pIs ts [102,97,108,115,101] s=b:=⟨_,rfl⟩;have HB:=hD hb;clear ht hn2 hb;clear h ih hn;go_enter func224,ntmps224;go_wp2_with fail
            refine stepM (S0.o.line rfl) λw1 S1=>?_;obtain⟨hg1,c11,c21,c41,c51,f21,f41⟩:=S1.o.cells;obtain⟨hr1,x0,x1,x2⟩:=S1.o.tok;rw[HK.o] at x0;rw[HT.o,HBT.o] at x1;rw[HP.o] at x2;have n1:=World.new_ne w1 (g,U1) c11;have n2:=World.new_ne w1 (tb,s.i*3) x0;go_wp2_with fail
            go_region_held3 (λwx=>wx.cell? (g,1)=(tb,ts.length,tc)∧wx.cell? (g,2)=s.i∧wx.cell? (tb,s.i*3)=tk∧wx.cell? (tb,s.i*3+1)=bt∧wx.cell? (tb,s.i*3+2)=tp) (go_keep) (first|fail)
            have Z2:=hD (S1.o.no (((fR w1).alloc (.cells #[tk,bt,tp] 115)).drew));have BT:Hd (Blk (w1.alloc (.cells #[tk,bt,tp] 115)).drew w1.heap.size 115 #[tk,bt,tp]):=Blk.new w1 _ _;clear hr1 x0 x1 x2 n1 n2 c11 c21 c41 c51 f21 f41 S1 S0;generalize (w1.alloc (.cells #[tk,bt,tp] 115)).drew=w2 at *;have hgB:g≠w1.heap.size:=Nat.ne_of_lt hg1;clear hg1;generalize w1.heap.size=B at *;have HGB:=hD hgB.symm;clear hgB;have S2:=hD Z2.o.here;obtain⟨hg2,c12,c22,c42,c52,f22,f42⟩:=S2.o.cells;have hi2:=S2.o.i_le;have BT2:=S2.o.fr.blk BT HGB (by decide);have d02:=BT2.cell 0;have d12:=BT2.cell 1;simp at d02 d12
            clear BT2;go_wp2_with fail
            clear hg2 c12 c22 c42 c52 f22 f42 hi2 he e1 e2 e3 d02 d12;refine stepM (S2.o.is ⟨#[116,114,117,101]⟩ HM) λw3 S3=>?_;go_wp2_with fail
            refine stepM (S3.o.is ⟨#[102,97,108,115,101]⟩ (b:=b) HB) λw4 S4=>?_;obtain⟨hg4,c14,c24,c44,c54,f24,f44⟩:=S4.o.cells;have hi4:=S4.o.i_le;go_wp2_with fail
            have HZ5:=hD (show (w4.setCell (g,U2) (((s).i:Int)+1:Int)).heap.size=w4.heap.size by simp);have S5:=hD (S4.o.go HO);clear hg4 c14 c24 c44 c54 f24 f44 hi4;generalize w4.setCell (g,U2) (((s).i:Int)+1:Int)=w5 at *;refine stepM (S5.o.wD 2 _ 1 rfl rfl (name:=[]) rfl HN) λw6 S6=>?_;go_wp2
            go_ret;exact⟨rfl,Z2.o.back S6⟩
          . rw[if_neg ht] at hr
            have HT1:=hD (show pIs ts [116,114,117,101] s=false by simpa using ht);clear ht;by_cases ht:pIs ts [102,97,108,115,101] s=true
            . rw[if_pos ht] at hr
              simp only[aA0] at hr;subst hr;have HO:=hD (h.ok.yL h.toks ht);have hn2:s.nodes.length+1<=1000000:=by simpa[bR,pGo] using hn
              have HN:=hD (show s.nodes.length<=1000000 by omega);have HM:=hD ht;clear ht hn2;clear h ih hn;go_enter func224,ntmps224;go_wp2_with fail
              refine stepM (S0.o.line rfl) λw1 S1=>?_;obtain⟨hg1,c11,c21,c41,c51,f21,f41⟩:=S1.o.cells;obtain⟨hr1,x0,x1,x2⟩:=S1.o.tok;rw[HK.o] at x0;rw[HT.o,HBT.o] at x1;rw[HP.o] at x2;have n1:=World.new_ne w1 (g,U1) c11;have n2:=World.new_ne w1 (tb,s.i*3) x0;go_wp2_with fail
              go_region_held3 (λwx=>wx.cell? (g,1)=(tb,ts.length,tc)∧wx.cell? (g,2)=s.i∧wx.cell? (tb,s.i*3)=tk∧wx.cell? (tb,s.i*3+1)=bt∧wx.cell? (tb,s.i*3+2)=tp) (go_keep) (first|fail)
              have Z2:=hD (S1.o.no (((fR w1).alloc (.cells #[tk,bt,tp] 115)).drew));have BT:Hd (Blk (w1.alloc (.cells #[tk,bt,tp] 115)).drew w1.heap.size 115 #[tk,bt,tp]):=Blk.new w1 _ _;clear hr1 x0 x1 x2 n1 n2 c11 c21 c41 c51 f21 f41 S1 S0;generalize (w1.alloc (.cells #[tk,bt,tp] 115)).drew=w2 at *;have hgB:g≠w1.heap.size:=Nat.ne_of_lt hg1;clear hg1;generalize w1.heap.size=B at *;have HGB:=hD hgB.symm;clear hgB;have S2:=hD Z2.o.here;obtain⟨hg2,c12,c22,c42,c52,f22,f42⟩:=S2.o.cells;have hi2:=S2.o.i_le;have BT2:=S2.o.fr.blk BT HGB (by decide);have d02:=BT2.cell 0;have d12:=BT2.cell 1;simp at d02 d12
              clear BT2;go_wp2_with fail
              clear hg2 c12 c22 c42 c52 f22 f42 hi2 he e1 e2 e3 d02 d12;refine stepM (S2.o.is ⟨#[116,114,117,101]⟩ HT1) λw3 S3=>?_;go_wp2_with fail
              refine stepM (S3.o.is ⟨#[102,97,108,115,101]⟩ HM) λw4 S4=>?_;obtain⟨hg4,c14,c24,c44,c54,f24,f44⟩:=S4.o.cells;have hi4:=S4.o.i_le;go_wp2_with fail
              have HZ5:=hD (show (w4.setCell (g,U2) (((s).i:Int)+1:Int)).heap.size=w4.heap.size by simp);have S5:=hD (S4.o.go HO);clear hg4 c14 c24 c44 c54 f24 f44 hi4;generalize w4.setCell (g,U2) (((s).i:Int)+1:Int)=w5 at *;refine stepM (S5.o.wD 2 _ 0 rfl rfl (name:=[]) rfl HN) λw6 S6=>?_;go_wp2
              go_ret;exact⟨rfl,Z2.o.back S6⟩
            . rw[if_neg ht] at hr
              have HF1:=hD (show pIs ts [102,97,108,115,101] s=false by simpa using ht);clear ht;by_cases ht:pIs ts [108,101,110] s=true
              . rw[if_pos ht] at hr
                have HL:=hD ht;have HO:=hD (h.ok.yL h.toks ht);clear ht;by_cases hm:pIs ts [40] (pGo s)=true
                . rw[if_pos hm] at hr
                  simp only[mS] at hr;obtain⟨q,hq,rfl⟩:=hr;have hq1:=aJ _ _ _ _ hq trivial;have hd:=iG _ _ _ _ hq;rw[bH,dO,lV] at hd;have hdl:=h.ok.fine H0.o;have HDB:=hD (show (1:Int)<=((aA ts [41] q.2).deep:Int)∧((aA ts [41] q.2).deep:Int)<=20 by rw[bH];omega);have HD:=hD (show 1<=(aA ts [41] q.2).deep by rw[bH];omega);have hn2:(aA ts [41] q.2).nodes.length+1<=1000000:=by simpa[bR,pUp] using hn
                  have HN:=hD (show (aA ts [41] q.2).nodes.length<=1000000 by omega);have HN1:=hD (Nat.le_trans (aV ((Ext.refl q.2).must (ts:=ts) [41])) HN);have HM:=hD hm;have HQ:=hD hq;rw[hq1];clear hq hq1 hd hdl hn2 hm;clear h ih hn;go_enter func224,ntmps224;go_wp2_with fail
                  refine stepM (S0.o.line rfl) λw1 S1=>?_;obtain⟨hg1,c11,c21,c41,c51,f21,f41⟩:=S1.o.cells;obtain⟨hr1,x0,x1,x2⟩:=S1.o.tok;rw[HK.o] at x0;rw[HT.o,HBT.o] at x1;rw[HP.o] at x2;have n1:=World.new_ne w1 (g,U1) c11;have n2:=World.new_ne w1 (tb,s.i*3) x0;go_wp2_with fail
                  go_region_held3 (λwx=>wx.cell? (g,1)=(tb,ts.length,tc)∧wx.cell? (g,2)=s.i∧wx.cell? (tb,s.i*3)=tk∧wx.cell? (tb,s.i*3+1)=bt∧wx.cell? (tb,s.i*3+2)=tp) (go_keep) (first|fail)
                  have Z2:=hD (S1.o.no (((fR w1).alloc (.cells #[tk,bt,tp] 115)).drew));have BT:Hd (Blk (w1.alloc (.cells #[tk,bt,tp] 115)).drew w1.heap.size 115 #[tk,bt,tp]):=Blk.new w1 _ _;clear hr1 x0 x1 x2 n1 n2 c11 c21 c41 c51 f21 f41 S1 S0;generalize (w1.alloc (.cells #[tk,bt,tp] 115)).drew=w2 at *;have hgB:g≠w1.heap.size:=Nat.ne_of_lt hg1;clear hg1;generalize w1.heap.size=B at *;have HGB:=hD hgB.symm;clear hgB;have S2:=hD Z2.o.here;obtain⟨hg2,c12,c22,c42,c52,f22,f42⟩:=S2.o.cells;have hi2:=S2.o.i_le;have BT2:=S2.o.fr.blk BT HGB (by decide);have d02:=BT2.cell 0;have d12:=BT2.cell 1;simp at d02 d12
                  clear BT2;go_wp2_with fail
                  clear hg2 c12 c22 c42 c52 f22 f42 hi2 he e1 e2 e3 d02 d12;refine stepM (S2.o.is ⟨#[116,114,117,101]⟩ HT1) λw3 S3=>?_;go_wp2_with fail
                  refine stepM (S3.o.is ⟨#[102,97,108,115,101]⟩ HF1) λw4 S4=>?_;go_wp2_with fail
                  refine stepM (S4.o.is ⟨#[108,101,110]⟩ HL) λw5 S5=>?_;obtain⟨hg5,c15,c25,c45,c55,f25,f45⟩:=S5.o.cells;have hi5:=S5.o.i_le;go_wp2_with fail
                  have HZ6:=hD (show (w5.setCell (g,U2) (((s).i:Int)+1:Int)).heap.size=w5.heap.size by simp);have S6:=hD (S5.o.go HO);clear hg5 c15 c25 c45 c55 f25 f45 hi5;generalize w5.setCell (g,U2) (((s).i:Int)+1:Int)=w6 at *;refine stepM (S6.o.is ⟨#[40]⟩ HM) λw7 S7=>?_;go_wp2_with fail
                  refine stepM (S7.o.down H0) λw8 S8=>?_;go_wp2_with fail
                  refine stepM (S8.o.must ⟨#[40]⟩) λw9 S9=>?_;go_wp2_with fail
                  refine stepM (IH.o.expr _ _ _ _ _ S9 HQ HN1) λw10 S10=>?_;go_wp2_with fail
                  refine stepM (S10.o.must ⟨#[41]⟩) λw11 S11=>?_;obtain⟨hg11,c111,c211,c411,c511,f211,f411⟩:=S11.o.cells;have hi11:=S11.o.i_le;obtain⟨hl11,hu11⟩:=HDB.o;go_wp2_with fail
                  have HZ12:=hD (show (w11.setCell (g,U4) (((aA ts [41] (q.2)).deep:Int) - 1:Int)).heap.size=w11.heap.size by simp);have S12:=hD (S11.o.up HD);clear hg11 c111 c211 c411 c511 f211 f411 hi11 hl11 hu11;generalize w11.setCell (g,U4) (((aA ts [41] (q.2)).deep:Int) - 1:Int)=w12 at *;refine stepM (S12.o.xA (oneOf q.1) HZ12 6 _ 0 rfl rfl (name:=[]) rfl HN) λw13 S13=>?_;go_wp2
                  go_ret;exact⟨rfl,Z2.o.back S13⟩
                . rw[if_neg hm] at hr
                  simp only[aA0] at hr;subst hr;have HM:=hD (show pIs ts [40] (pGo s)=false by simpa using hm);clear hm;clear h ih hn;go_enter func224,ntmps224;go_wp2_with fail
                  refine stepM (S0.o.line rfl) λw1 S1=>?_;obtain⟨hg1,c11,c21,c41,c51,f21,f41⟩:=S1.o.cells;obtain⟨hr1,x0,x1,x2⟩:=S1.o.tok;rw[HK.o] at x0;rw[HT.o,HBT.o] at x1;rw[HP.o] at x2;have n1:=World.new_ne w1 (g,U1) c11;have n2:=World.new_ne w1 (tb,s.i*3) x0;go_wp2_with fail
                  go_region_held3 (λwx=>wx.cell? (g,1)=(tb,ts.length,tc)∧wx.cell? (g,2)=s.i∧wx.cell? (tb,s.i*3)=tk∧wx.cell? (tb,s.i*3+1)=bt∧wx.cell? (tb,s.i*3+2)=tp) (go_keep) (first|fail)
                  have Z2:=hD (S1.o.no (((fR w1).alloc (.cells #[tk,bt,tp] 115)).drew));have BT:Hd (Blk (w1.alloc (.cells #[tk,bt,tp] 115)).drew w1.heap.size 115 #[tk,bt,tp]):=Blk.new w1 _ _;clear hr1 x0 x1 x2 n1 n2 c11 c21 c41 c51 f21 f41 S1 S0;generalize (w1.alloc (.cells #[tk,bt,tp] 115)).drew=w2 at *;have hgB:g≠w1.heap.size:=Nat.ne_of_lt hg1;clear hg1;generalize w1.heap.size=B at *;have HGB:=hD hgB.symm;clear hgB;have S2:=hD Z2.o.here;obtain⟨hg2,c12,c22,c42,c52,f22,f42⟩:=S2.o.cells;have hi2:=S2.o.i_le;have BT2:=S2.o.fr.blk BT HGB (by decide);have d02:=BT2.cell 0;have d12:=BT2.cell 1;simp at d02 d12
                  clear BT2;go_wp2_with fail
                  clear hg2 c12 c22 c42 c52 f22 f42 hi2 he e1 e2 e3 d02 d12;refine stepM (S2.o.is ⟨#[116,114,117,101]⟩ HT1) λw3 S3=>?_;go_wp2_with fail
                  refine stepM (S3.o.is ⟨#[102,97,108,115,101]⟩ HF1) λw4 S4=>?_;go_wp2_with fail
                  refine stepM (S4.o.is ⟨#[108,101,110]⟩ HL) λw5 S5=>?_;obtain⟨hg5,c15,c25,c45,c55,f25,f45⟩:=S5.o.cells;have hi5:=S5.o.i_le;go_wp2_with fail
                  have HZ6:=hD (show (w5.setCell (g,U2) (((s).i:Int)+1:Int)).heap.size=w5.heap.size by simp);have S6:=hD (S5.o.go HO);clear hg5 c15 c25 c45 c55 f25 f45 hi5;generalize w5.setCell (g,U2) (((s).i:Int)+1:Int)=w6 at *;refine stepM (S6.o.is ⟨#[40]⟩ HM) λw7 S7=>?_;go_wp2_with fail
                  refine stepM (S7.o.fails 20 (by decide) (by decide)) λw8 S8=>?_;go_wp2
                  go_ret;exact⟨rfl,Z2.o.back S8⟩
              . rw[if_neg ht] at hr
                have HL:=hD (show pIs ts [108,101,110] s=false by simpa using ht);clear ht;by_cases hm:pIs ts [40] s=true
                . rw[if_pos hm] at hr
                  simp only[mS] at hr;obtain⟨q,hq,rfl⟩:=hr;have hd:=iG _ _ _ _ hq;rw[bH,dO] at hd;have hdl:=h.ok.fine H0.o;have HDB:=hD (show (1:Int)<=((aA ts [41] q.2).deep:Int)∧((aA ts [41] q.2).deep:Int)<=20 by rw[bH];omega);have HD:=hD (show 1<=(aA ts [41] q.2).deep by rw[bH];omega);have HN:=hD (show (aA ts [41] q.2).nodes.length<=1000000 by simpa[pUp] using hn);have HN1:=hD (Nat.le_trans (aV ((Ext.refl q.2).must (ts:=ts) [41])) HN);have HM:=hD hm;have HQ:=hD hq;clear hq hd hdl hm;clear h ih hn;go_enter func224,ntmps224;go_wp2_with fail
                  refine stepM (S0.o.line rfl) λw1 S1=>?_;obtain⟨hg1,c11,c21,c41,c51,f21,f41⟩:=S1.o.cells;obtain⟨hr1,x0,x1,x2⟩:=S1.o.tok;rw[HK.o] at x0;rw[HT.o,HBT.o] at x1;rw[HP.o] at x2;have n1:=World.new_ne w1 (g,U1) c11;have n2:=World.new_ne w1 (tb,s.i*3) x0;go_wp2_with fail
                  go_region_held3 (λwx=>wx.cell? (g,1)=(tb,ts.length,tc)∧wx.cell? (g,2)=s.i∧wx.cell? (tb,s.i*3)=tk∧wx.cell? (tb,s.i*3+1)=bt∧wx.cell? (tb,s.i*3+2)=tp) (go_keep) (first|fail)
                  have Z2:=hD (S1.o.no (((fR w1).alloc (.cells #[tk,bt,tp] 115)).drew));have BT:Hd (Blk (w1.alloc (.cells #[tk,bt,tp] 115)).drew w1.heap.size 115 #[tk,bt,tp]):=Blk.new w1 _ _;clear hr1 x0 x1 x2 n1 n2 c11 c21 c41 c51 f21 f41 S1 S0;generalize (w1.alloc (.cells #[tk,bt,tp] 115)).drew=w2 at *;have hgB:g≠w1.heap.size:=Nat.ne_of_lt hg1;clear hg1;generalize w1.heap.size=B at *;have HGB:=hD hgB.symm;clear hgB;have S2:=hD Z2.o.here;obtain⟨hg2,c12,c22,c42,c52,f22,f42⟩:=S2.o.cells;have hi2:=S2.o.i_le;have BT2:=S2.o.fr.blk BT HGB (by decide);have d02:=BT2.cell 0;have d12:=BT2.cell 1;simp at d02 d12
                  clear BT2;go_wp2_with fail
                  clear hg2 c12 c22 c42 c52 f22 f42 hi2 he e1 e2 e3 d02 d12;refine stepM (S2.o.is ⟨#[116,114,117,101]⟩ HT1) λw3 S3=>?_;go_wp2_with fail
                  refine stepM (S3.o.is ⟨#[102,97,108,115,101]⟩ HF1) λw4 S4=>?_;go_wp2_with fail
                  refine stepM (S4.o.is ⟨#[108,101,110]⟩ HL) λw5 S5=>?_;go_wp2_with fail
                  refine stepM (S5.o.is ⟨#[40]⟩ HM) λw6 S6=>?_;go_wp2_with fail
                  refine stepM (S6.o.down H0) λw7 S7=>?_;go_wp2_with fail
                  refine stepM (S7.o.must ⟨#[40]⟩) λw8 S8=>?_;go_wp2_with fail
                  refine stepM (IH.o.expr _ _ _ _ _ S8 HQ HN1) λw9 S9=>?_;go_wp2_with fail
                  refine stepM (S9.o.must ⟨#[41]⟩) λw10 S10=>?_;obtain⟨hg10,c110,c210,c410,c510,f210,f410⟩:=S10.o.cells;have hi10:=S10.o.i_le;obtain⟨hl10,hu10⟩:=HDB.o;go_wp2_with fail
                  have S11:=hD (S10.o.up HD);clear hg10 c110 c210 c410 c510 f210 f410 hi10 hl10 hu10;generalize w10.setCell (g,U4) (((aA ts [41] (q.2)).deep:Int) - 1:Int)=w11 at *;go_ret;exact⟨rfl,Z2.o.back S11⟩
                . rw[if_neg hm] at hr
                  simp only[aA0] at hr;subst hr;have HM:=hD (show pIs ts [40] s=false by simpa using hm);clear hm;clear h ih hn;go_enter func224,ntmps224;go_wp2_with fail
                  refine stepM (S0.o.line rfl) λw1 S1=>?_;obtain⟨hg1,c11,c21,c41,c51,f21,f41⟩:=S1.o.cells;obtain⟨hr1,x0,x1,x2⟩:=S1.o.tok;rw[HK.o] at x0;rw[HT.o,HBT.o] at x1;rw[HP.o] at x2;have n1:=World.new_ne w1 (g,U1) c11;have n2:=World.new_ne w1 (tb,s.i*3) x0;go_wp2_with fail
                  go_region_held3 (λwx=>wx.cell? (g,1)=(tb,ts.length,tc)∧wx.cell? (g,2)=s.i∧wx.cell? (tb,s.i*3)=tk∧wx.cell? (tb,s.i*3+1)=bt∧wx.cell? (tb,s.i*3+2)=tp) (go_keep) (first|fail)
                  have Z2:=hD (S1.o.no (((fR w1).alloc (.cells #[tk,bt,tp] 115)).drew));have BT:Hd (Blk (w1.alloc (.cells #[tk,bt,tp] 115)).drew w1.heap.size 115 #[tk,bt,tp]):=Blk.new w1 _ _;clear hr1 x0 x1 x2 n1 n2 c11 c21 c41 c51 f21 f41 S1 S0;generalize (w1.alloc (.cells #[tk,bt,tp] 115)).drew=w2 at *;have hgB:g≠w1.heap.size:=Nat.ne_of_lt hg1;clear hg1;generalize w1.heap.size=B at *;have HGB:=hD hgB.symm;clear hgB;have S2:=hD Z2.o.here;obtain⟨hg2,c12,c22,c42,c52,f22,f42⟩:=S2.o.cells;have hi2:=S2.o.i_le;have BT2:=S2.o.fr.blk BT HGB (by decide);have d02:=BT2.cell 0;have d12:=BT2.cell 1;simp at d02 d12
                  clear BT2;go_wp2_with fail
                  clear hg2 c12 c22 c42 c52 f22 f42 hi2 he e1 e2 e3 d02 d12;refine stepM (S2.o.is ⟨#[116,114,117,101]⟩ HT1) λw3 S3=>?_;go_wp2_with fail
                  refine stepM (S3.o.is ⟨#[102,97,108,115,101]⟩ HF1) λw4 S4=>?_;go_wp2_with fail
                  refine stepM (S4.o.is ⟨#[108,101,110]⟩ HL) λw5 S5=>?_;go_wp2_with fail
                  refine stepM (S5.o.is ⟨#[40]⟩ HM) λw6 S6=>?_;go_wp2_with fail
                  refine stepM (S6.o.fails 20 (by decide) (by decide)) λw7 S7=>?_;go_wp2
                  go_ret;exact⟨rfl,Z2.o.back S7⟩
  . rw[if_pos he0] at hr
    simp only[aA0] at hr;subst hr;have he:((s.e:Int)==0)=false:=bN.2 (by omega);clear he0;clear h ih hn;go_enter func224,ntmps224;go_wp2_with fail
    refine stepM (S0.o.line rfl) λw1 S1=>?_;obtain⟨hg1,c11,c21,c41,c51,f21,f41⟩:=S1.o.cells;obtain⟨hr1,x0,x1,x2⟩:=S1.o.tok;rw[HK.o] at x0;rw[HT.o,HBT.o] at x1;rw[HP.o] at x2;have n1:=World.new_ne w1 (g,U1) c11;have n2:=World.new_ne w1 (tb,s.i*3) x0;go_wp2_with fail
    go_region_held3 (λwx=>wx.cell? (g,1)=(tb,ts.length,tc)∧wx.cell? (g,2)=s.i∧wx.cell? (tb,s.i*3)=tk∧wx.cell? (tb,s.i*3+1)=bt∧wx.cell? (tb,s.i*3+2)=tp) (go_keep) (first|fail)
    have Z2:=hD (S1.o.no (((fR w1).alloc (.cells #[tk,bt,tp] 115)).drew));have BT:Hd (Blk (w1.alloc (.cells #[tk,bt,tp] 115)).drew w1.heap.size 115 #[tk,bt,tp]):=Blk.new w1 _ _;clear hr1 x0 x1 x2 n1 n2 c11 c21 c41 c51 f21 f41 S1 S0;generalize (w1.alloc (.cells #[tk,bt,tp] 115)).drew=w2 at *;have hgB:g≠w1.heap.size:=Nat.ne_of_lt hg1;clear hg1;generalize w1.heap.size=B at *;have HGB:=hD hgB.symm;clear hgB;have S2:=hD Z2.o.here;obtain⟨hg2,c12,c22,c42,c52,f22,f42⟩:=S2.o.cells;have hi2:=S2.o.i_le;go_wp2
    go_ret;exact⟨rfl,Z2.o.back S2⟩
theorem aMx:∀n,Good src tb tc ts g n:=by
 intro n;induction n using Nat.strongRecOn with
 | _ n ih=>
  have hc:=λ(lv:Nat) (z:Int) (hz:((lv:Nat):Int)=z) (hl:lv<=5)=>aFu ih lv z hz hl
  exact⟨aKl ih,aAv ih,hc,aJt hc,aKg ih,aDs ih,aFy ih,λline=>aEt ih line,aGp ih⟩
end
end Go.Proofs.YtlbjicjinnnboaaGreatDoor
