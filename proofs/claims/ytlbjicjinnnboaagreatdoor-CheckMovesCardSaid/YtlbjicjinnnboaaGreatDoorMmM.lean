/- MmM: QFactorB, QAtomA, QAtomB, QAtomC, QAtomD, QAtomE, QChainA, QChain, QCall, QCallB, QRight. -/
import Derived.Test.YtlbjicjinnnboaaGreatDoorMmL
import Derived.Test.YtlbjicjinnnboaaGreatDoorMmD
set_option maxHeartbeats 8000000
set_option maxRecDepth 100000
set_option linter.unusedVariables false
set_option linter.unusedSimpArgs false
/- The program's own parser: factor. Printed by wip/tools/mkqfactor.py. -/
namespace Go.Proofs.YtlbjicjinnnboaaGreatDoor
open Go.RowKit
theorem aHh {ts:List Tok}{s:PS}{x y:List UInt8} (h:pIs ts x s=true) (hxy:x≠y):pIs ts y s=false:=by
 cases hh:pIs ts y s with
 | false=>rfl
 | true=>exact absurd ((aN h).2.2.symm.trans (aN hh).2.2) hxy
structure aQd (src:ByteArray) (tb tc:Nat) (ts:List Tok) (g n:Nat):Prop where
 factor:fI src tb tc ts g n .factor 202 #[.pointer (some ⟨g,0,none⟩)]
 atom:fI src tb tc ts g n .atom 222 #[.pointer (some ⟨g,0,none⟩)]
theorem wH {src:ByteArray}{tb tc:Nat}{ts:List Tok}{g n:Nat} (ih:aQd src tb tc ts g n):fI src tb tc ts g (n+1) .factor 202 #[.pointer (some ⟨g,0,none⟩)]:=by
 intro R w0 w s r N h hr hn;have IH:=hD ih;have S0:=hD h;obtain⟨cg,hcg⟩:=h.rW;have hgl:g<w.heap.size:=hcg.lt;have GL:=hD hgl;have A0:=hD (show Fr nob w (w.alloc (.cells #[.pointer (some ⟨g,0,none⟩)] 78)) from (fR w).alloc _);have B0:=hD (Blk.new w 78 #[.pointer (some ⟨g,0,none⟩)]);have hsz1:(w.alloc (.cells #[.pointer (some ⟨g,0,none⟩)] 78)).heap.size=w.heap.size+1:=by simp
 obtain⟨W1,hW1⟩:∃W1,W1=w.alloc (.cells #[.pointer (some ⟨g,0,none⟩)] 78):=⟨_,rfl⟩;rw[←hW1] at A0 B0 hsz1;have S1:=hD (S0.out.no A0.out).here;have x0:W1.cell? ⟨w.heap.size,0,none⟩=some (.pointer (some ⟨g,0,none⟩)):=by rw[B0.out.cell 0];rfl
 have HW:=hD hW1;have HS1:=hD hsz1;simp only[run] at hr;by_cases hp:pIs ts [45] s=true
 · rw[if_pos hp] at hr
   have HB33:=hD (aHh (y:=[33]) hp (by decide));have HB45:=hD hp;simp only[mS] at hr;obtain⟨q,hq,rfl⟩:=hr;have HQ1:=hD (aK _ _ _ _ hq trivial);have HR:=hD hq;have HP:=hD hp;have H0:=hD (aN hp).1;rw[if_pos H0.out];have hn2:q.2.nodes.length+1+N.n+10*(n+1)+10≤1000000:=by simpa[bM,pUp] using hn
   have HN1:=hD (show q.2.nodes.length+N.n+10*n+10≤1000000 by omega);have HN2:=hD (show (pUp q.2).nodes.length+10*n≤1000000 by show q.2.nodes.length+10*n≤1000000;omega);have HE:=hD (show (pUp q.2).e=0→s.e=0 from fun _=>H0.out);clear h hq hn hn2 hcg hgl hsz1 hW1 hp;go_enter Tryz.func202,Tryz.ntmps202;go_wp2_with fail
   rw[←HW.out];refine S1.out.line.mono ?_;rintro e w2 ⟨y,rfl,hy,h2⟩;have S2:=hD h2;have HY:=hD hy;have B2:=hD (S2.out.fr.blk B0.out (fun e=>by have:=GL.out;omega) (by decide));have L2:=hD S2.out.fr.size;clear h2 hy x0;have x0:w2.cell? ⟨w.heap.size,0,none⟩=some (.pointer (some ⟨g,0,none⟩)):=by rw[B2.out.cell 0];rfl
   have A3:=hD (show Fr nob w2 (w2.alloc (.cells #[.string ⟨#[33]⟩] 9)) from (fR w2).alloc _);have HI:=hD ((S2.out.no A3.out).is1 ⟨#[33]⟩ (Blk.new w2 _ _) (z:=false) HB33.out);have z0:(w2.alloc (.cells #[.string ⟨#[33]⟩] 9)).cell? ⟨w.heap.size,0,none⟩=some (.pointer (some ⟨g,0,none⟩)):=by rw[(B2.out.alloc _).cell 0];rfl
   go_wp2_with fail
   refine HI.out.mono ?_;rintro e w3 ⟨rfl,h3⟩;have A3':=hD (A3.out.tr h3);have S3:=hD (S2.out.no A3'.out);have B3:=hD (B2.out.fr A3'.out (fun x=>x));have L3:=hD A3'.out.size;clear h3 x0 z0;have x0:w3.cell? ⟨w.heap.size,0,none⟩=some (.pointer (some ⟨g,0,none⟩)):=by rw[B3.out.cell 0];rfl
   have A4:=hD (show Fr nob w3 (w3.alloc (.cells #[.string ⟨#[45]⟩] 9)) from (fR w3).alloc _);have HJ:=hD ((S3.out.no A4.out).is1 ⟨#[45]⟩ (Blk.new w3 _ _) (z:=true) HB45.out);have z0:(w3.alloc (.cells #[.string ⟨#[45]⟩] 9)).cell? ⟨w.heap.size,0,none⟩=some (.pointer (some ⟨g,0,none⟩)):=by rw[(B3.out.alloc _).cell 0];rfl
   go_wp2_with fail
   refine HJ.out.mono ?_;rintro e w4 ⟨rfl,h4⟩;have A4':=hD (A4.out.tr h4);have S4:=hD (S3.out.no A4'.out);have B4:=hD (B3.out.fr A4'.out (fun x=>x));have L4:=hD A4'.out.size;clear h4 x0 z0;have x0:w4.cell? ⟨w.heap.size,0,none⟩=some (.pointer (some ⟨g,0,none⟩)):=by rw[B4.out.cell 0];rfl
   have HG4:=hD (show g<w4.heap.size by have:=GL.out;have:=L2.out;have:=L3.out;have:=L4.out;have:=HS1.out;omega);have HL4:=hD (show W1.heap.size≤w4.heap.size by have:=L2.out;have:=L3.out;have:=L4.out;omega);have S5:=hD (S4.out.box (.cells #[.int .i64 0] 3));have C5:=hD (Blk.new w4 3 #[.int .i64 0]);have B5:=hD (B4.out.alloc (.cells #[.int .i64 0] 3));have HD:=hD (S5.out.signed IH.out.factor HP.out HR.out HN1.out B5.out C5.out (Or.inr rfl) HL4.out);have x5:(w4.alloc (.cells #[.int .i64 0] 3)).cell? ⟨w.heap.size,0,none⟩=some (.pointer (some ⟨g,0,none⟩)):=by rw[B5.out.cell 0];rfl
   have hmf:∀(fn:Fn) (first cap:Array Value) (w:World),(Instr.makeFunc fn first cap).run Tryz.prog w = .ok (.func fn first cap) w:=fun _ _ _ _=>rfl
   go_wp2_with fail
   refine HD.out.mono ?_;rintro e w6 ⟨rfl,x,hx,hxx,h6⟩;have S6:=hD h6;have C6:=hD hx;have HXX:=hD hxx;have B6:=hD (S6.out.fr.blk B0.out (fun e=>by have:=GL.out;omega) (by decide));clear hx hxx h6 x0 x5;have x0:w6.cell? ⟨w.heap.size,0,none⟩=some (.pointer (some ⟨g,0,none⟩)):=by rw[B6.out.cell 0];rfl
   have y0:w6.cell? ⟨w4.heap.size,0,none⟩=some (.int .i64 x):=by rw[C6.out.cell 0];rfl
   have HPT:=hD (S6.out.drop (fun k hk=>Or.inl hk) |>.vM (R:=R) x rfl 7 rfl y (aS src.data.toList ts s) (fun e=>HY.out (HE.out e)) (name:=[]) rfl (l:=q.1) (fun e=>by rw[HQ1.out,HXX.out e]) HN2.out);go_wp2_with fail
   refine HPT.out.mono ?_;rintro e w7 ⟨x7,rfl,hx7,h7⟩;have S7:=hD h7;have HX7:=hD hx7;clear h7 hx7;go_wp2_with fail
   go_ret;refine⟨x7,rfl,fun e=>?_,(S0.out.no A0.out).back (S7.out.more (by show 10*n≤10*(n+1);omega))⟩;rw[HX7.out e];rfl
 · have HB45:=hD (show pIs ts [45] s=false by simpa using hp)
   rw[if_neg hp] at hr;clear hp;by_cases hp:pIs ts [33] s=true
   · rw[if_pos hp] at hr
     have HB33:=hD hp;simp only[mS] at hr;obtain⟨q,hq,rfl⟩:=hr;have HQ1:=hD (aK _ _ _ _ hq trivial);have HR:=hD hq;have HP:=hD hp;have H0:=hD (aN hp).1;rw[if_pos H0.out];have hn2:q.2.nodes.length+1+N.n+10*(n+1)+10≤1000000:=by simpa[bM,pUp] using hn
     have HN1:=hD (show q.2.nodes.length+N.n+10*n+10≤1000000 by omega);have HN2:=hD (show (pUp q.2).nodes.length+10*n≤1000000 by show q.2.nodes.length+10*n≤1000000;omega);have HE:=hD (show (pUp q.2).e=0→s.e=0 from fun _=>H0.out);clear h hq hn hn2 hcg hgl hsz1 hW1 hp;go_enter Tryz.func202,Tryz.ntmps202;go_wp2_with fail
     rw[←HW.out];refine S1.out.line.mono ?_;rintro e w2 ⟨y,rfl,hy,h2⟩;have S2:=hD h2;have HY:=hD hy;have B2:=hD (S2.out.fr.blk B0.out (fun e=>by have:=GL.out;omega) (by decide));have L2:=hD S2.out.fr.size;clear h2 hy x0;have x0:w2.cell? ⟨w.heap.size,0,none⟩=some (.pointer (some ⟨g,0,none⟩)):=by rw[B2.out.cell 0];rfl
     have A3:=hD (show Fr nob w2 (w2.alloc (.cells #[.string ⟨#[33]⟩] 9)) from (fR w2).alloc _);have HI:=hD ((S2.out.no A3.out).is1 ⟨#[33]⟩ (Blk.new w2 _ _) (z:=true) HB33.out);have z0:(w2.alloc (.cells #[.string ⟨#[33]⟩] 9)).cell? ⟨w.heap.size,0,none⟩=some (.pointer (some ⟨g,0,none⟩)):=by rw[(B2.out.alloc _).cell 0];rfl
     go_wp2_with fail
     refine HI.out.mono ?_;rintro e w3 ⟨rfl,h3⟩;have A3':=hD (A3.out.tr h3);have S3:=hD (S2.out.no A3'.out);have B3:=hD (B2.out.fr A3'.out (fun x=>x));have L3:=hD A3'.out.size;clear h3 x0 z0;have x0:w3.cell? ⟨w.heap.size,0,none⟩=some (.pointer (some ⟨g,0,none⟩)):=by rw[B3.out.cell 0];rfl
     have S4:=hD S3.out;have B4:=hD B3.out;have L4:=hD (Nat.le_refl w3.heap.size);generalize hw34:w3=w4 at *;have HG4:=hD (show g<w4.heap.size by have:=GL.out;have:=L2.out;have:=L3.out;have:=L4.out;have:=HS1.out;omega);have HL4:=hD (show W1.heap.size≤w4.heap.size by have:=L2.out;have:=L3.out;have:=L4.out;omega);have S5:=hD (S4.out.box (.cells #[.int .i64 0] 3));have C5:=hD (Blk.new w4 3 #[.int .i64 0]);have B5:=hD (B4.out.alloc (.cells #[.int .i64 0] 3));have HD:=hD (S5.out.signed IH.out.factor HP.out HR.out HN1.out B5.out C5.out (Or.inr rfl) HL4.out);have x5:(w4.alloc (.cells #[.int .i64 0] 3)).cell? ⟨w.heap.size,0,none⟩=some (.pointer (some ⟨g,0,none⟩)):=by rw[B5.out.cell 0];rfl
     have hmf:∀(fn:Fn) (first cap:Array Value) (w:World),(Instr.makeFunc fn first cap).run Tryz.prog w = .ok (.func fn first cap) w:=fun _ _ _ _=>rfl
     go_wp2_with fail
     refine HD.out.mono ?_;rintro e w6 ⟨rfl,x,hx,hxx,h6⟩;have S6:=hD h6;have C6:=hD hx;have HXX:=hD hxx;have B6:=hD (S6.out.fr.blk B0.out (fun e=>by have:=GL.out;omega) (by decide));clear hx hxx h6 x0 x5;have x0:w6.cell? ⟨w.heap.size,0,none⟩=some (.pointer (some ⟨g,0,none⟩)):=by rw[B6.out.cell 0];rfl
     have y0:w6.cell? ⟨w4.heap.size,0,none⟩=some (.int .i64 x):=by rw[C6.out.cell 0];rfl
     have HPT:=hD (S6.out.drop (fun k hk=>Or.inl hk) |>.vM (R:=R) x rfl 8 rfl y (aS src.data.toList ts s) (fun e=>HY.out (HE.out e)) (name:=[]) rfl (l:=q.1) (fun e=>by rw[HQ1.out,HXX.out e]) HN2.out);go_wp2_with fail
     refine HPT.out.mono ?_;rintro e w7 ⟨x7,rfl,hx7,h7⟩;have S7:=hD h7;have HX7:=hD hx7;clear h7 hx7;go_wp2_with fail
     go_ret;refine⟨x7,rfl,fun e=>?_,(S0.out.no A0.out).back (S7.out.more (by show 10*n≤10*(n+1);omega))⟩;rw[HX7.out e];rfl
   · rw[if_neg hp] at hr
     have HB33:=hD (show pIs ts [33] s=false by simpa using hp);obtain⟨M',hM'⟩:∃M',M'=(if s.e=0 then 10*(n+1) else N.n+2):=⟨_,rfl⟩;rw[←hM'];have HM':=hD hM';clear hM';have hn3:r.2.nodes.length+N.n+10*n+10≤1000000:=by omega
     have HR:=hD hr;have HN:=hD hn3;clear h hr hn hn3 hcg hgl hsz1 hW1 hp;go_enter Tryz.func202,Tryz.ntmps202;go_wp2_with fail
     rw[←HW.out];refine S1.out.line.mono ?_;rintro e w2 ⟨y,rfl,hy,h2⟩;have S2:=hD h2;have HY:=hD hy;have B2:=hD (S2.out.fr.blk B0.out (fun e=>by have:=GL.out;omega) (by decide));have L2:=hD S2.out.fr.size;clear h2 hy x0;have x0:w2.cell? ⟨w.heap.size,0,none⟩=some (.pointer (some ⟨g,0,none⟩)):=by rw[B2.out.cell 0];rfl
     have A3:=hD (show Fr nob w2 (w2.alloc (.cells #[.string ⟨#[33]⟩] 9)) from (fR w2).alloc _);have HI:=hD ((S2.out.no A3.out).is1 ⟨#[33]⟩ (Blk.new w2 _ _) (z:=false) HB33.out);have z0:(w2.alloc (.cells #[.string ⟨#[33]⟩] 9)).cell? ⟨w.heap.size,0,none⟩=some (.pointer (some ⟨g,0,none⟩)):=by rw[(B2.out.alloc _).cell 0];rfl
     go_wp2_with fail
     refine HI.out.mono ?_;rintro e w3 ⟨rfl,h3⟩;have A3':=hD (A3.out.tr h3);have S3:=hD (S2.out.no A3'.out);have B3:=hD (B2.out.fr A3'.out (fun x=>x));have L3:=hD A3'.out.size;clear h3 x0 z0;have x0:w3.cell? ⟨w.heap.size,0,none⟩=some (.pointer (some ⟨g,0,none⟩)):=by rw[B3.out.cell 0];rfl
     have A4:=hD (show Fr nob w3 (w3.alloc (.cells #[.string ⟨#[45]⟩] 9)) from (fR w3).alloc _);have HJ:=hD ((S3.out.no A4.out).is1 ⟨#[45]⟩ (Blk.new w3 _ _) (z:=false) HB45.out);have z0:(w3.alloc (.cells #[.string ⟨#[45]⟩] 9)).cell? ⟨w.heap.size,0,none⟩=some (.pointer (some ⟨g,0,none⟩)):=by rw[(B3.out.alloc _).cell 0];rfl
     go_wp2_with fail
     refine HJ.out.mono ?_;rintro e w4 ⟨rfl,h4⟩;have A4':=hD (A4.out.tr h4);have S4:=hD (S3.out.no A4'.out);have B4:=hD (B3.out.fr A4'.out (fun x=>x));have L4:=hD A4'.out.size;clear h4 x0 z0;have x0:w4.cell? ⟨w.heap.size,0,none⟩=some (.pointer (some ⟨g,0,none⟩)):=by rw[B4.out.cell 0];rfl
     have HA:=IH.out.atom R w4 w4 s r N S4.out.here HR.out HN.out;obtain⟨M,hM⟩:∃M,M=(if s.e=0 then 10*n else N.n+2):=⟨_,rfl⟩;rw[←hM] at HA;have HA:=hD HA;have HM:=hD (show M≤M' by rw[hM,HM'.out];split<;>omega);clear hM;go_wp2_with fail
     refine HA.out.mono ?_;rintro e w5 ⟨x,rfl,hx,h5⟩;have S5:=hD h5;have HX:=hD hx;clear h5 hx;go_wp2_with fail
     go_ret;exact⟨x,rfl,HX.out,(S0.out.no A0.out).back (S4.out.back (S5.out.more HM.out))⟩
theorem QS.next {src:ByteArray}{tb tc:Nat}{ts:List Tok}{g:Nat}{N:Lim}{R:Nat→Prop}{w0 w:World}{s:PS} (h:QS src tb tc ts g R w0 w s N):
  Calls Tryz.prog 76 #[.pointer (some ⟨g,0,none⟩)] w fun e w'=>∃t:Tok,e = .returned (oF t)∧(s.e=0→t=bE ts s)∧QS src tb tc ts g R w0 w' s N:=by
 obtain⟨q,lvs,hq,hs⟩:=h.q;exact (iK hq).mono fun e w' ⟨he,hf⟩=>⟨_,he,fun h0=>hs.tok h0,h.no hf⟩
theorem nN {src:ByteArray}{tb tc:Nat}{ts:List Tok}{g n:Nat}{N:Lim}{R:Nat→Prop}{w0 w:World}{s:PS}{r:List Nat×PS} (hG:fI src tb tc ts g n (.chain 0) 162 #[.pointer (some ⟨g,0,none⟩)])
  (h:QS src tb tc ts g R w0 w s N) (k1:bA ts 1 s=false) (k2:bA ts 2 s=false) (k3:bA ts 3 s=false) (i1:pIs ts [116,114,117,101] s=false) (i2:pIs ts [102,97,108,115,101] s=false) (i3:pIs ts [108,101,110] s=false)
  (hr:pIs ts [40] s=true→run src.data.toList ts n (.chain 0) (aA ts [40] (aW ts s))=some r) (hn:pIs ts [40] s=true→r.2.nodes.length+N.n+10*n+10≤1000000):
  Calls Tryz.prog 222 #[.pointer (some ⟨g,0,none⟩)] w fun e w'=>∃x:Nat,e = .returned (.int .i64 x) ∧
    (pIs ts [40] s=false→x=0∧QS src tb tc ts g R w0 w' (aO ts 20 s) N) ∧
    (pIs ts [40] s=true→((pUp (aA ts [41] r.2)).e=0→x=oneOf r.1)∧QS src tb tc ts g R w0 w' (pUp (aA ts [41] r.2)) ⟨N.n+10*n,N.d⟩):=by
 have S0:=hD h;have HG:=hD hG;have HR:=hD hr;have HN:=hD hn;have K1:=hD k1;have K2:=hD k2;have K3:=hD k3;have I1:=hD i1;have I2:=hD i2;have I3:=hD i3;clear h hG hr hn k1 k2 k3 i1 i2 i3;go_enter Tryz.func222,Tryz.ntmps222;go_wp2_with fail
 refine S0.out.line.mono ?_;rintro e w1 ⟨y,rfl,hy,h1⟩;have S1:=hD h1;clear h1 hy;go_wp2_with fail
 refine S1.out.next.mono ?_;rintro e w2 ⟨t,rfl,ht,h2⟩;have S2:=hD h2;clear h2 ht;unfold oF;go_wp2_with fail
 have S3:=hD (S2.out.alloc (.cells #[.int .i64 t.kind,.string (bs t.text),.int .i64 t.place] 115));generalize w2.alloc (.cells #[.int .i64 t.kind,.string (bs t.text),.int .i64 t.place] 115)=w3 at *;refine (S3.out.kind 1 (b:=false) K1.out).mono ?_;rintro e w4 ⟨rfl,h4⟩;have S4:=hD h4;clear h4;go_wp2_with fail
 refine (S4.out.kind 2 (b:=false) K2.out).mono ?_;rintro e w5 ⟨rfl,h5⟩;have S5:=hD h5;clear h5;go_wp2_with fail
 refine (S5.out.kind 3 (b:=false) K3.out).mono ?_;rintro e w6 ⟨rfl,h6⟩;have S6:=hD h6;clear h6;go_wp2_with fail
 refine (S6.out.has ⟨#[116,114,117,101]⟩ (b:=false) I1.out).mono ?_;rintro e w7 ⟨rfl,h7⟩;rw[if_neg (by decide)] at h7;have S7:=hD h7;clear h7;go_wp2_with fail
 refine (S7.out.has ⟨#[102,97,108,115,101]⟩ (b:=false) I2.out).mono ?_;rintro e w8 ⟨rfl,h8⟩;rw[if_neg (by decide)] at h8;have S8:=hD h8;clear h8;go_wp2_with fail
 refine (S8.out.has ⟨#[108,101,110]⟩ (b:=false) I3.out).mono ?_;rintro e w9 ⟨rfl,h9⟩;rw[if_neg (by decide)] at h9;have S9:=hD h9;clear h9;go_wp2_with fail
 refine (S9.out.inner HG.out ⟨#[40]⟩ ⟨#[41]⟩ HR.out HN.out).mono ?_;rintro e w10 ⟨x,rfl,hA,hB⟩;have HA:=hD hA;have HB:=hD hB;clear hA hB;go_wp2_with fail
 go_ret;exact⟨x,rfl,HA.out,HB.out⟩
section
variable {src:ByteArray}{tb tc:Nat}{ts:List Tok}{g n:Nat}{N:Lim}{R:Nat→Prop}{w0 w:World}{s:PS}{r:List Nat×PS}
theorem aDq  (h:QS src tb tc ts g R w0 w s N) (k1:bA ts 1 s=false) (k2:bA ts 2 s=false) (k3:bA ts 3 s=false) (i1:pIs ts [116,114,117,101] s=true) (hn:s.nodes.length+N.n≤1000000):
  Calls Tryz.prog 222 #[.pointer (some ⟨g,0,none⟩)] w fun e w'=>∃x:Nat,e = .returned (.int .i64 x)∧x=s.nodes.length∧QS src tb tc ts g R w0 w' (bM 2 (aS src.data.toList ts s) 1 [] [] (pGo s)).2 N:=by
 have S0:=hD h;have K1:=hD k1;have K2:=hD k2;have K3:=hD k3;have I1:=hD i1;have H0:=hD (aN i1).1;have HN:=hD hn;clear h k1 k2 k3 i1 hn;go_enter Tryz.func222,Tryz.ntmps222;go_wp2_with fail
 refine S0.out.line.mono ?_;rintro e w1 ⟨y,rfl,hy,h1⟩;have S1:=hD h1;have HY:=hD (hy H0.out);clear h1 hy;go_wp2_with fail
 refine S1.out.next.mono ?_;rintro e w2 ⟨t,rfl,ht,h2⟩;have hte:=ht H0.out;subst hte;have S2:=hD h2;clear h2 ht;unfold oF;go_wp2_with fail
 have S3:=hD (S2.out.alloc (.cells #[.int .i64 (bE ts s).kind,.string (bs (bE ts s).text),.int .i64 (bE ts s).place] 115));have Z3:=hD S3.out.here;generalize w2.alloc (.cells #[.int .i64 (bE ts s).kind,.string (bs (bE ts s).text),.int .i64 (bE ts s).place] 115)=w3 at *;generalize w2.heap.size=B at *;refine (Z3.out.kind 1 (b:=false) K1.out).mono ?_;rintro e w4 ⟨rfl,h4⟩;have Z4:=hD h4;clear h4;go_wp2_with fail
 refine (Z4.out.kind 2 (b:=false) K2.out).mono ?_;rintro e w5 ⟨rfl,h5⟩;have Z5:=hD h5;clear h5;go_wp2_with fail
 refine (Z5.out.kind 3 (b:=false) K3.out).mono ?_;rintro e w6 ⟨rfl,h6⟩;have Z6:=hD h6;clear h6;go_wp2_with fail
 refine (Z6.out.has ⟨#[116,114,117,101]⟩ (b:=true) I1.out).mono ?_;rintro e w7 ⟨rfl,h7⟩;rw[if_pos rfl] at h7;have Z7:=hD h7;clear h7;go_wp2_with fail
 refine (Z7.out.number 2 1 rfl rfl y (aS src.data.toList ts s) (fun _=>HY.out) HN.out).mono ?_;rintro e w8 ⟨x,rfl,hx,h8⟩;have S8:=hD h8;have HX:=hD hx;clear hx h8;go_wp2_with fail
 go_ret;exact⟨x,rfl,HX.out H0.out,S3.out.back S8.out⟩
theorem zB  (h:QS src tb tc ts g R w0 w s N) (k1:bA ts 1 s=false) (k2:bA ts 2 s=false) (k3:bA ts 3 s=false) (i1:pIs ts [116,114,117,101] s=false) (i2:pIs ts [102,97,108,115,101] s=true) (hn:s.nodes.length+N.n≤1000000):
  Calls Tryz.prog 222 #[.pointer (some ⟨g,0,none⟩)] w fun e w'=>∃x:Nat,e = .returned (.int .i64 x)∧x=s.nodes.length∧QS src tb tc ts g R w0 w' (bM 2 (aS src.data.toList ts s) 0 [] [] (pGo s)).2 N:=by
 have S0:=hD h;have K1:=hD k1;have K2:=hD k2;have K3:=hD k3;have I1:=hD i1;have I2:=hD i2;have H0:=hD (aN i2).1;have HN:=hD hn;clear h k1 k2 k3 i1 i2 hn;go_enter Tryz.func222,Tryz.ntmps222;go_wp2_with fail
 refine S0.out.line.mono ?_;rintro e w1 ⟨y,rfl,hy,h1⟩;have S1:=hD h1;have HY:=hD (hy H0.out);clear h1 hy;go_wp2_with fail
 refine S1.out.next.mono ?_;rintro e w2 ⟨t,rfl,ht,h2⟩;have hte:=ht H0.out;subst hte;have S2:=hD h2;clear h2 ht;unfold oF;go_wp2_with fail
 have S3:=hD (S2.out.alloc (.cells #[.int .i64 (bE ts s).kind,.string (bs (bE ts s).text),.int .i64 (bE ts s).place] 115));have Z3:=hD S3.out.here;generalize w2.alloc (.cells #[.int .i64 (bE ts s).kind,.string (bs (bE ts s).text),.int .i64 (bE ts s).place] 115)=w3 at *;generalize w2.heap.size=B at *;refine (Z3.out.kind 1 (b:=false) K1.out).mono ?_;rintro e w4 ⟨rfl,h4⟩;have Z4:=hD h4;clear h4;go_wp2_with fail
 refine (Z4.out.kind 2 (b:=false) K2.out).mono ?_;rintro e w5 ⟨rfl,h5⟩;have Z5:=hD h5;clear h5;go_wp2_with fail
 refine (Z5.out.kind 3 (b:=false) K3.out).mono ?_;rintro e w6 ⟨rfl,h6⟩;have Z6:=hD h6;clear h6;go_wp2_with fail
 refine (Z6.out.has ⟨#[116,114,117,101]⟩ (b:=false) I1.out).mono ?_;rintro e w7 ⟨rfl,h7⟩;rw[if_neg (by decide)] at h7;have Z7:=hD h7;clear h7;go_wp2_with fail
 refine (Z7.out.has ⟨#[102,97,108,115,101]⟩ (b:=true) I2.out).mono ?_;rintro e w8 ⟨rfl,h8⟩;rw[if_pos rfl] at h8;have Z8:=hD h8;clear h8;go_wp2_with fail
 refine (Z8.out.number 2 0 rfl rfl y (aS src.data.toList ts s) (fun _=>HY.out) HN.out).mono ?_;rintro e w9 ⟨x,rfl,hx,h9⟩;have S9:=hD h9;have HX:=hD hx;clear hx h9;go_wp2_with fail
 go_ret;exact⟨x,rfl,HX.out H0.out,S3.out.back S9.out⟩
theorem aDr  (h:QS src tb tc ts g R w0 w s N) (k1:bA ts 1 s=false) (k2:bA ts 2 s=true) (hn:s.nodes.length+N.n≤1000000):
  Calls Tryz.prog 222 #[.pointer (some ⟨g,0,none⟩)] w fun e w'=>∃x:Nat,e = .returned (.int .i64 x)∧x=s.nodes.length∧QS src tb tc ts g R w0 w' (bM 3 (aS src.data.toList ts s) 0 (bE ts s).text [] (pGo s)).2 N:=by
 have S0:=hD h;have K1:=hD k1;have K2:=hD k2;have H0:=hD (aM k2).1;have HN:=hD hn;have HO:=hD (h.ok.fU h.toks (aM k2).2 (by decide));clear h k1 k2 hn;go_enter Tryz.func222,Tryz.ntmps222;go_wp2_with fail
 refine S0.out.line.mono ?_;rintro e w1 ⟨y,rfl,hy,h1⟩;have S1:=hD h1;have HY:=hD (hy H0.out);clear h1 hy;go_wp2_with fail
 refine S1.out.next.mono ?_;rintro e w2 ⟨t,rfl,ht,h2⟩;have hte:=ht H0.out;subst hte;have S2:=hD h2;clear h2 ht;unfold oF;go_wp2_with fail
 have S3:=hD (S2.out.alloc (.cells #[.int .i64 (bE ts s).kind,.string (bs (bE ts s).text),.int .i64 (bE ts s).place] 115));have Z3:=hD S3.out.here;generalize w2.alloc (.cells #[.int .i64 (bE ts s).kind,.string (bs (bE ts s).text),.int .i64 (bE ts s).place] 115)=w3 at *;generalize w2.heap.size=B at *;refine (Z3.out.kind 1 (b:=false) K1.out).mono ?_;rintro e w4 ⟨rfl,h4⟩;have Z4:=hD h4;clear h4;go_wp2_with fail
 refine (Z4.out.kind 2 (b:=true) K2.out).mono ?_;rintro e w5 ⟨rfl,h5⟩;have Z5:=hD h5;clear h5;go_wp2_with fail
 refine (Z5.out.take H0.out HO.out).mono ?_;rintro e w6 ⟨rfl,h6⟩;have Z6:=hD h6;clear h6;unfold oF;have ff:=tf1;go_wp2_with fail
 refine (Z6.out.uP 3 rfl y (aS src.data.toList ts s) (fun _=>HY.out) (name:=(bE ts s).text) rfl (l:=[]) (fun _=>rfl) HN.out).mono ?_;rintro e w7 ⟨x,rfl,hx,h7⟩;have S7:=hD h7;have HX:=hD hx;clear hx h7;go_wp2_with fail
 go_ret;exact⟨x,rfl,HX.out H0.out,S3.out.back S7.out⟩
theorem aDs  (h:QS src tb tc ts g R w0 w s N) (k1:bA ts 1 s=false) (k2:bA ts 2 s=false) (k3:bA ts 3 s=true) (hm:pIs ts [91] (pGo s)=false) (hn:s.nodes.length+N.n≤1000000):
  Calls Tryz.prog 222 #[.pointer (some ⟨g,0,none⟩)] w fun e w'=>∃x:Nat,e = .returned (.int .i64 x)∧x=s.nodes.length∧QS src tb tc ts g R w0 w' (bM 4 (aS src.data.toList ts s) 0 (bE ts s).text [] (pGo s)).2 N:=by
 have S0:=hD h;have K1:=hD k1;have K2:=hD k2;have K3:=hD k3;have H0:=hD (aM k3).1;have HN:=hD hn;have HM:=hD hm;have HO:=hD (h.ok.fU h.toks (aM k3).2 (by decide));clear h k1 k2 k3 hn hm;go_enter Tryz.func222,Tryz.ntmps222;go_wp2_with fail
 refine S0.out.line.mono ?_;rintro e w1 ⟨y,rfl,hy,h1⟩;have S1:=hD h1;have HY:=hD (hy H0.out);clear h1 hy;go_wp2_with fail
 refine S1.out.next.mono ?_;rintro e w2 ⟨t,rfl,ht,h2⟩;have hte:=ht H0.out;subst hte;have S2:=hD h2;clear h2 ht;unfold oF;go_wp2_with fail
 have BT:=hD (Blk.new w2 115 #[.int .i64 (bE ts s).kind,.string (bs (bE ts s).text),.int .i64 (bE ts s).place]);have GB:=hD (show w2.heap.size≠g from fun e=>by obtain⟨cg,hcg⟩:=S2.out.rW;have:=hcg.lt;omega);have S3:=hD (S2.out.alloc (.cells #[.int .i64 (bE ts s).kind,.string (bs (bE ts s).text),.int .i64 (bE ts s).place] 115));have Z3:=hD S3.out.here;generalize w2.alloc (.cells #[.int .i64 (bE ts s).kind,.string (bs (bE ts s).text),.int .i64 (bE ts s).place] 115)=w3 at *;generalize w2.heap.size=B at *;refine (Z3.out.kind 1 (b:=false) K1.out).mono ?_;rintro e w4 ⟨rfl,h4⟩;have Z4:=hD h4;clear h4;go_wp2_with fail
 refine (Z4.out.kind 2 (b:=false) K2.out).mono ?_;rintro e w5 ⟨rfl,h5⟩;have Z5:=hD h5;clear h5;go_wp2_with fail
 refine (Z5.out.kind 3 (b:=true) K3.out).mono ?_;rintro e w6 ⟨rfl,h6⟩;have Z6:=hD h6;clear h6;go_wp2_with fail
 refine (Z6.out.take H0.out HO.out).mono ?_;rintro e w7 ⟨rfl,h7⟩;have Z7:=hD h7;clear h7;unfold oF;have A:=hD (show Fr nob w7 (w7.alloc (.cells #[.string ⟨#[91]⟩] 9)) from (fR w7).alloc _);have HI:=hD ((Z7.out.no A.out).is1 ⟨#[91]⟩ (Blk.new w7 _ _) (z:=false) HM.out);go_wp2_with fail
 refine HI.out.mono ?_;rintro e w8 ⟨rfl,h8⟩;have Z8:=hD (Z7.out.no (A.out.tr h8));have B8:=hD (Z8.out.fr.blk BT.out GB.out (by decide));clear h8;have d1:w8.cell? ⟨B,1,none⟩=some (.string (bs (bE ts s).text)):=by rw[B8.out.cell 1];rfl
 go_wp2_with fail
 refine (Z8.out.uP 4 rfl y (aS src.data.toList ts s) (fun _=>HY.out) (name:=(bE ts s).text) rfl (l:=[]) (fun _=>rfl) HN.out).mono ?_;rintro e w9 ⟨x,rfl,hx,h9⟩;have S9:=hD h9;have HX:=hD hx;clear hx h9;go_wp2_with fail
 go_ret;exact⟨x,rfl,HX.out H0.out,S3.out.back S9.out⟩
theorem aGr (hG:fI src tb tc ts g n (.chain 0) 162 #[.pointer (some ⟨g,0,none⟩)]) (h:QS src tb tc ts g R w0 w s N) (k1:bA ts 1 s=false) (k2:bA ts 2 s=false) (k3:bA ts 3 s=true) (hm:pIs ts [91] (pGo s)=true) (hr:run src.data.toList ts n (.chain 0) (aA ts [91] (aW ts (pGo s)))=some r) (hn:r.2.nodes.length+10*n+10≤1000000):
  Calls Tryz.prog 222 #[.pointer (some ⟨g,0,none⟩)] w fun e w'=>∃x:Nat,e = .returned (.int .i64 x)∧((pUp (aA ts [93] r.2)).e=0→x=(pUp (aA ts [93] r.2)).nodes.length)∧QS src tb tc ts g R w0 w' (bM 5 (aS src.data.toList ts s) 0 (bE ts s).text r.1 (pUp (aA ts [93] r.2))).2 ⟨10*n,N.d⟩:=by
 have S0:=hD h;have K1:=hD k1;have K2:=hD k2;have K3:=hD k3;have H0:=hD (aM k3).1;have HN:=hD hn;have HM:=hD hm;have HR:=hD hr;have HG:=hD hG;have HQ1:=hD (aK _ _ _ _ hr trivial);have HN2:=hD (show (pUp (aA ts [93] r.2)).nodes.length+(0+10*n)≤1000000 by have e:(pUp (aA ts [93] r.2)).nodes.length=r.2.nodes.length:=(by show (aA ts [93] r.2).nodes.length=_;unfold aA pGo aO;split<;>(try split)<;>rfl);rw[e];omega);have HO:=hD (h.ok.fU h.toks (aM k3).2 (by decide));clear h k1 k2 k3 hn hm hr hG;go_enter Tryz.func222,Tryz.ntmps222;go_wp2_with fail
 refine S0.out.line.mono ?_;rintro e w1 ⟨y,rfl,hy,h1⟩;have S1:=hD h1;have HY:=hD (hy H0.out);clear h1 hy;go_wp2_with fail
 refine S1.out.next.mono ?_;rintro e w2 ⟨t,rfl,ht,h2⟩;have hte:=ht H0.out;subst hte;have S2:=hD h2;clear h2 ht;unfold oF;go_wp2_with fail
 have BT:=hD (Blk.new w2 115 #[.int .i64 (bE ts s).kind,.string (bs (bE ts s).text),.int .i64 (bE ts s).place]);have GB:=hD (show w2.heap.size≠g from fun e=>by obtain⟨cg,hcg⟩:=S2.out.rW;have:=hcg.lt;omega);have S3:=hD (S2.out.alloc (.cells #[.int .i64 (bE ts s).kind,.string (bs (bE ts s).text),.int .i64 (bE ts s).place] 115));have Z3:=hD S3.out.here;generalize w2.alloc (.cells #[.int .i64 (bE ts s).kind,.string (bs (bE ts s).text),.int .i64 (bE ts s).place] 115)=w3 at *;generalize w2.heap.size=B at *;refine (Z3.out.kind 1 (b:=false) K1.out).mono ?_;rintro e w4 ⟨rfl,h4⟩;have Z4:=hD h4;clear h4;go_wp2_with fail
 refine (Z4.out.kind 2 (b:=false) K2.out).mono ?_;rintro e w5 ⟨rfl,h5⟩;have Z5:=hD h5;clear h5;go_wp2_with fail
 refine (Z5.out.kind 3 (b:=true) K3.out).mono ?_;rintro e w6 ⟨rfl,h6⟩;have Z6:=hD h6;clear h6;go_wp2_with fail
 refine (Z6.out.take H0.out HO.out).mono ?_;rintro e w7 ⟨rfl,h7⟩;have Z7:=hD h7;clear h7;unfold oF;have A:=hD (show Fr nob w7 (w7.alloc (.cells #[.string ⟨#[91]⟩] 9)) from (fR w7).alloc _);have HI:=hD ((Z7.out.no A.out).is1 ⟨#[91]⟩ (Blk.new w7 _ _) (z:=true) HM.out);go_wp2_with fail
 refine HI.out.mono ?_;rintro e w8 ⟨rfl,h8⟩;have Z8:=hD (Z7.out.no (A.out.tr h8));have B8:=hD (Z8.out.fr.blk BT.out GB.out (by decide));clear h8;have d1:w8.cell? ⟨B,1,none⟩=some (.string (bs (bE ts s).text)):=by rw[B8.out.cell 1];rfl
 go_wp2_with fail
 refine ((Z8.out.zero H0.out 0).inner HG.out ⟨#[91]⟩ ⟨#[93]⟩ (fun _=>HR.out) (fun _=>by have:=HN.out;show r.2.nodes.length+0+10*n+10≤1000000;omega)).mono ?_;rintro e w9 ⟨v,rfl,_,hB⟩;obtain⟨hv,h9⟩:=hB HM.out;have HV:=hD hv;have Z9:=hD h9;have B9:=hD (Z9.out.fr.blk BT.out GB.out (by decide));clear h9 hv hB d1;have d1:w9.cell? ⟨B,1,none⟩=some (.string (bs (bE ts s).text)):=by rw[B9.out.cell 1];rfl
 go_wp2_with fail
 refine (Z9.out.vM v rfl 5 rfl y (aS src.data.toList ts s) (fun _=>HY.out) (name:=(bE ts s).text) rfl (l:=r.1) (fun e=>by rw[HQ1.out,HV.out e]) HN2.out).mono ?_;rintro e w10 ⟨x,rfl,hx,h10⟩;have S10:=hD h10;have HX:=hD hx;clear hx h10;go_wp2_with fail
 go_ret;exact⟨x,rfl,HX.out,S3.out.back (S10.out.more (by show 0+10*n≤10*n;omega))⟩
end
theorem fD {ts:List Tok} (x:List UInt8) (s:PS):(pUp (aA ts x s)).nodes.length=s.nodes.length:=by
 show (aA ts x s).nodes.length=_
 unfold aA pGo aO;split<;>(try split)<;>rfl
section
variable {src:ByteArray}{tb tc:Nat}{ts:List Tok}{g n:Nat}{N:Lim}{R:Nat→Prop}{w0 w:World}{s:PS}{r:List Nat×PS}
theorem aGt (hG:fI src tb tc ts g n (.chain 0) 162 #[.pointer (some ⟨g,0,none⟩)]) (h:QS src tb tc ts g R w0 w s N) (k1:bA ts 1 s=false) (k2:bA ts 2 s=false) (k3:bA ts 3 s=false) (i1:pIs ts [116,114,117,101] s=false) (i2:pIs ts [102,97,108,115,101] s=false) (i3:pIs ts [108,101,110] s=true) (hm:pIs ts [40] (pGo s)=true) (hr:run src.data.toList ts n (.chain 0) (aA ts [40] (aW ts (pGo s)))=some r) (hn:r.2.nodes.length+10*n+10≤1000000):
  Calls Tryz.prog 222 #[.pointer (some ⟨g,0,none⟩)] w fun e w'=>∃x:Nat,e = .returned (.int .i64 x)∧((pUp (aA ts [41] r.2)).e=0→x=(pUp (aA ts [41] r.2)).nodes.length)∧QS src tb tc ts g R w0 w' (bM 6 (aS src.data.toList ts s) 0 [] r.1 (pUp (aA ts [41] r.2))).2 ⟨10*n,N.d⟩:=by
 have S0:=hD h;have K1:=hD k1;have K2:=hD k2;have K3:=hD k3;have I1:=hD i1;have I2:=hD i2;have I3:=hD i3;have H0:=hD (aN i3).1;have HN:=hD hn;have HM:=hD hm;have HR:=hD hr;have HG:=hD hG;have HQ1:=hD (aK _ _ _ _ hr trivial);have HN2:=hD (show (pUp (aA ts [41] r.2)).nodes.length+(0+10*n)≤1000000 by rw[fD];omega);clear h k1 k2 k3 i1 i2 i3 hn hm hr hG;go_enter Tryz.func222,Tryz.ntmps222;go_wp2_with fail
 refine S0.out.line.mono ?_;rintro e w1 ⟨y,rfl,hy,h1⟩;have S1:=hD h1;have HY:=hD (hy H0.out);clear h1 hy;go_wp2_with fail
 refine S1.out.next.mono ?_;rintro e w2 ⟨t,rfl,ht,h2⟩;have hte:=ht H0.out;subst hte;have S2:=hD h2;clear h2 ht;unfold oF;go_wp2_with fail
 have S3:=hD (S2.out.alloc (.cells #[.int .i64 (bE ts s).kind,.string (bs (bE ts s).text),.int .i64 (bE ts s).place] 115));have Z3:=hD S3.out.here;generalize w2.alloc (.cells #[.int .i64 (bE ts s).kind,.string (bs (bE ts s).text),.int .i64 (bE ts s).place] 115)=w3 at *;generalize w2.heap.size=B at *;refine (Z3.out.kind 1 (b:=false) K1.out).mono ?_;rintro e w4 ⟨rfl,h4⟩;have Z4:=hD h4;clear h4;go_wp2_with fail
 refine (Z4.out.kind 2 (b:=false) K2.out).mono ?_;rintro e w5 ⟨rfl,h5⟩;have Z5:=hD h5;clear h5;go_wp2_with fail
 refine (Z5.out.kind 3 (b:=false) K3.out).mono ?_;rintro e w6 ⟨rfl,h6⟩;have Z6:=hD h6;clear h6;go_wp2_with fail
 refine (Z6.out.has ⟨#[116,114,117,101]⟩ (b:=false) I1.out).mono ?_;rintro e w7 ⟨rfl,h7⟩;rw[if_neg (by decide)] at h7;have Z7:=hD h7;clear h7;go_wp2_with fail
 refine (Z7.out.has ⟨#[102,97,108,115,101]⟩ (b:=false) I2.out).mono ?_;rintro e w8 ⟨rfl,h8⟩;rw[if_neg (by decide)] at h8;have Z8:=hD h8;clear h8;go_wp2_with fail
 refine (Z8.out.has ⟨#[108,101,110]⟩ (b:=true) I3.out).mono ?_;rintro e w9 ⟨rfl,h9⟩;rw[if_pos rfl] at h9;have Z9:=hD h9;clear h9;go_wp2_with fail
 refine ((Z9.out.zero H0.out 0).inner HG.out ⟨#[40]⟩ ⟨#[41]⟩ (fun _=>HR.out) (fun _=>by have:=HN.out;show r.2.nodes.length+0+10*n+10≤1000000;omega)).mono ?_;rintro e w12 ⟨v,rfl,_,hB⟩;obtain⟨hv,h12⟩:=hB HM.out;have HV:=hD hv;have Z12:=hD h12;clear h12 hv hB;go_wp2_with fail
 refine (Z12.out.vM v rfl 6 rfl y (aS src.data.toList ts s) (fun _=>HY.out) (name:=[]) rfl (l:=r.1) (fun e=>by rw[HQ1.out,HV.out e]) HN2.out).mono ?_;rintro e w13 ⟨x,rfl,hx,h13⟩;have S13:=hD h13;have HX:=hD hx;clear hx h13;go_wp2_with fail
 go_ret;exact⟨x,rfl,HX.out,S3.out.back (S13.out.more (by show 0+10*n≤10*n;omega))⟩
theorem uN (hG:fI src tb tc ts g n (.chain 0) 162 #[.pointer (some ⟨g,0,none⟩)]) (h:QS src tb tc ts g R w0 w s N) (k1:bA ts 1 s=false) (k2:bA ts 2 s=false) (k3:bA ts 3 s=false) (i1:pIs ts [116,114,117,101] s=false) (i2:pIs ts [102,97,108,115,101] s=false) (i3:pIs ts [108,101,110] s=true) (hm:pIs ts [40] (pGo s)=false) (hn:s.nodes.length+10≤1000000):
  Calls Tryz.prog 222 #[.pointer (some ⟨g,0,none⟩)] w fun e w'=>∃x:Nat,e = .returned (.int .i64 x)∧QS src tb tc ts g R w0 w' (aO ts 20 (pGo s)) ⟨1,N.d⟩:=by
 have S0:=hD h;have K1:=hD k1;have K2:=hD k2;have K3:=hD k3;have I1:=hD i1;have I2:=hD i2;have I3:=hD i3;have H0:=hD (aN i3).1;have HM:=hD hm;have HG:=hD hG;have HF:=hD (show (aO ts 20 (pGo s)).e≠0 by unfold aO;rw[if_pos (show (pGo s).e=0 from H0.out)];exact (by decide:(20:Nat)≠0));have HN2:=hD (show (aO ts 20 (pGo s)).nodes.length+0≤1000000 by have e:(aO ts 20 (pGo s)).nodes.length=s.nodes.length:=(by unfold aO pGo;split<;>rfl);rw[e];omega);clear h k1 k2 k3 i1 i2 i3 hn hm hG;go_enter Tryz.func222,Tryz.ntmps222;go_wp2_with fail
 refine S0.out.line.mono ?_;rintro e w1 ⟨y,rfl,hy,h1⟩;have S1:=hD h1;clear h1 hy;go_wp2_with fail
 refine S1.out.next.mono ?_;rintro e w2 ⟨t,rfl,ht,h2⟩;have hte:=ht H0.out;subst hte;have S2:=hD h2;clear h2 ht;unfold oF;go_wp2_with fail
 have S3:=hD (S2.out.alloc (.cells #[.int .i64 (bE ts s).kind,.string (bs (bE ts s).text),.int .i64 (bE ts s).place] 115));have Z3:=hD S3.out.here;generalize w2.alloc (.cells #[.int .i64 (bE ts s).kind,.string (bs (bE ts s).text),.int .i64 (bE ts s).place] 115)=w3 at *;generalize w2.heap.size=B at *;refine (Z3.out.kind 1 (b:=false) K1.out).mono ?_;rintro e w4 ⟨rfl,h4⟩;have Z4:=hD h4;clear h4;go_wp2_with fail
 refine (Z4.out.kind 2 (b:=false) K2.out).mono ?_;rintro e w5 ⟨rfl,h5⟩;have Z5:=hD h5;clear h5;go_wp2_with fail
 refine (Z5.out.kind 3 (b:=false) K3.out).mono ?_;rintro e w6 ⟨rfl,h6⟩;have Z6:=hD h6;clear h6;go_wp2_with fail
 refine (Z6.out.has ⟨#[116,114,117,101]⟩ (b:=false) I1.out).mono ?_;rintro e w7 ⟨rfl,h7⟩;rw[if_neg (by decide)] at h7;have Z7:=hD h7;clear h7;go_wp2_with fail
 refine (Z7.out.has ⟨#[102,97,108,115,101]⟩ (b:=false) I2.out).mono ?_;rintro e w8 ⟨rfl,h8⟩;rw[if_neg (by decide)] at h8;have Z8:=hD h8;clear h8;go_wp2_with fail
 refine (Z8.out.has ⟨#[108,101,110]⟩ (b:=true) I3.out).mono ?_;rintro e w9 ⟨rfl,h9⟩;rw[if_pos rfl] at h9;have Z9:=hD h9;clear h9;go_wp2_with fail
 refine ((Z9.out.zero H0.out 0).inner (r:=([],s)) HG.out ⟨#[40]⟩ ⟨#[41]⟩ (fun e=>absurd (HM.out.symm.trans e) (by decide)) (fun e=>absurd (HM.out.symm.trans e) (by decide))).mono ?_;rintro e w12 ⟨v,rfl,hA,_⟩;obtain⟨hv,h12⟩:=hA HM.out;have Z12:=hD h12;clear h12 hv hA;go_wp2_with fail
 refine ((Z12.out.alloc _).aNc HF.out 6 rfl y (name:=[]) rfl HN2.out).mono ?_;rintro e w13 ⟨x,rfl,h13⟩;have S13:=hD h13;clear h13;go_wp2_with fail
 go_ret;exact⟨x,rfl,S3.out.back S13.out⟩
end
section
variable {src:ByteArray}{tb tc:Nat}{ts:List Tok}{g n:Nat}{N:Lim}{R:Nat→Prop}{w0 w:World}{s:PS}{r:List Nat×PS}
theorem aGs  (h:QS src tb tc ts g R w0 w s N) (k1:bA ts 1 s=true) (hn:s.nodes.length+N.n≤1000000):
  Calls Tryz.prog 222 #[.pointer (some ⟨g,0,none⟩)] w fun e w'=>∃x:Nat,e = .returned (.int .i64 x)∧x=s.nodes.length∧QS src tb tc ts g R w0 w' (bM 1 (aS src.data.toList ts s) (aMs (bE ts s).text) [] [] (pGo s)).2 N:=by
 have S0:=hD h;have K1:=hD k1;have H0:=hD (aM k1).1;have HN:=hD hn;have HO:=hD (h.ok.fU h.toks (aM k1).2 (by decide));have hmem:bE ts s∈ts:=by
  unfold bE;rw[List.getD,gE h.ok.room];exact List.getElem_mem _
 obtain⟨z0,z1,z2⟩:=h.toks.nums _ hmem (aM k1).2;have HQ:=hD (aJh z0 z1 z2);have HSZ:=hD (show (bs (bE ts s).text).size≤9223372036854775806 from by
  have h9:=h.toks.short _ hmem
  show (bE ts s).text.toArray.size≤_
  rw[List.size_toArray];omega)
 clear h k1 hn z0 z1 z2 hmem;go_enter Tryz.func222,Tryz.ntmps222;go_wp2_with fail
 refine S0.out.line.mono ?_;rintro e w1 ⟨y,rfl,hy,h1⟩;have S1:=hD h1;have HY:=hD (hy H0.out);clear h1 hy;go_wp2_with fail
 refine S1.out.next.mono ?_;rintro e w2 ⟨t,rfl,ht,h2⟩;have hte:=ht H0.out;subst hte;have S2:=hD h2;clear h2 ht;unfold oF;go_wp2_with fail
 have S3:=hD (S2.out.alloc (.cells #[.int .i64 (bE ts s).kind,.string (bs (bE ts s).text),.int .i64 (bE ts s).place] 115));have Z3:=hD S3.out.here;generalize w2.alloc (.cells #[.int .i64 (bE ts s).kind,.string (bs (bE ts s).text),.int .i64 (bE ts s).place] 115)=w3 at *;generalize w2.heap.size=B at *;refine (Z3.out.kind 1 (b:=true) K1.out).mono ?_;rintro e w4 ⟨rfl,h4⟩;have Z4:=hD h4;clear h4;go_wp2_with fail
 refine (Z4.out.take H0.out HO.out).mono ?_;rintro e w5 ⟨rfl,h5⟩;have Z5:=hD h5;clear h5;unfold oF;have ff:=tf1;go_wp2_with (go_at_call 232;go_must (refine (Tryz.strconv_Atoi_ok _ HSZ.out _ (by exact HQ.out) _).mono ?_;rintro e w6 ⟨rfl,hw⟩;have F4:=hD (Fr.bytes _ hw);have Z6:=hD (Z5.out.no F4.out);clear hw))
 refine (Z6.out.number 1 (aMs (bE ts s).text) rfl rfl y (aS src.data.toList ts s) (fun _=>HY.out) HN.out).mono ?_;rintro e w7 ⟨x,rfl,hx,h7⟩;have S7:=hD h7;have HX:=hD hx;clear hx h7;go_wp2_with fail
 go_ret;exact⟨x,rfl,HX.out H0.out,S3.out.back S7.out⟩
end
theorem oZ {ts:List Tok}{s:PS}{k:Nat} (h0:s.e=0) (h:(bE ts s).kind=k):bA ts k s=true:=by unfold bA;simp[h0,h]
theorem bI {ts:List Tok}{s:PS}{k:Nat} (h:(bE ts s).kind≠k):bA ts k s=false:=by unfold bA;simp[h]
theorem qN {ts:List Tok}{s:PS} (k:Nat) (h:s.e≠0):bA ts k s=false:=by unfold bA;simp[h]
theorem nS {ts:List Tok}{s:PS} (x:List UInt8) (h:s.e≠0):pIs ts x s=false:=by unfold pIs;simp[h]
theorem aHj {ts:List Tok}{s:PS} (k:Nat) (h:s.e≠0):aO ts k s=s:=by unfold aO;rw[if_neg h]
theorem pE {ts:List Tok}{s:PS}:(aO ts 20 s).e≠0:=by
 unfold aO;split
 · exact (by decide:(20:Nat)≠0)
 · assumption
theorem aDt {src:ByteArray}{tb tc:Nat}{ts:List Tok}{g n:Nat} (hG:fI src tb tc ts g n (.chain 0) 162 #[.pointer (some ⟨g,0,none⟩)]):
   fI src tb tc ts g (n+1) .atom 222 #[.pointer (some ⟨g,0,none⟩)]:=by
 intro R w0 w s r N h hr hn;simp only[run] at hr;by_cases he:s.e≠0
 · rw[if_pos he] at hr
   simp only[Option.some.injEq] at hr;subst hr;refine (nN (r:=([],s)) hG h (qN 1 he) (qN 2 he) (qN 3 he) (nS _ he) (nS _ he) (nS _ he) (fun e=>by rw[nS _ he] at e;cases e) (fun e=>by rw[nS _ he] at e;cases e)).mono ?_;rintro e w' ⟨x,rfl,hA,_⟩;obtain⟨_,hq⟩:=hA (nS _ he);rw[aHj _ he] at hq;rw[if_neg he];exact⟨x,rfl,fun e=>absurd e he,hq.more (by omega)⟩
 · have e0:s.e=0:=by omega
   rw[if_neg he] at hr;rw[if_pos e0];have h':=h.zero e0 0;by_cases k1:(bE ts s).kind=1
   · rw[if_pos k1] at hr
     simp only[Option.some.injEq] at hr;subst hr;have hn2:s.nodes.length+1+N.n+10*(n+1)+10≤1000000:=by simpa[bM,pGo] using hn
     refine (aGs h' (oZ e0 k1) (by show s.nodes.length+0≤1000000;omega)).mono ?_;rintro e w' ⟨x,rfl,hx,hq⟩;exact⟨x,rfl,fun _=>hx,hq.more (Nat.zero_le _)⟩
   · rw[if_neg k1] at hr
     by_cases k2:(bE ts s).kind=2
     · rw[if_pos k2] at hr
       simp only[Option.some.injEq] at hr;subst hr;have hn2:s.nodes.length+1+N.n+10*(n+1)+10≤1000000:=by simpa[bM,pGo] using hn
       refine (aDr h' (bI k1) (oZ e0 k2) (by show s.nodes.length+0≤1000000;omega)).mono ?_;rintro e w' ⟨x,rfl,hx,hq⟩;exact⟨x,rfl,fun _=>hx,hq.more (Nat.zero_le _)⟩
     · rw[if_neg k2] at hr
       by_cases k3:(bE ts s).kind=3
       · rw[if_pos k3] at hr
         by_cases hm:pIs ts [91] (pGo s)=true
         · rw[if_pos hm] at hr
           simp only[mS] at hr;obtain⟨q,hq,rfl⟩:=hr;have hn2:(pUp (aA ts [93] q.2)).nodes.length+1+N.n+10*(n+1)+10≤1000000:=by simpa[bM] using hn
           rw[fD] at hn2;refine (aGr hG h' (bI k1) (bI k2) (oZ e0 k3) hm hq (by omega)).mono ?_;rintro e w' ⟨x,rfl,hx,hq⟩;exact⟨x,rfl,fun e=>hx e,hq.more (by show 10*n≤10*(n+1);omega)⟩
         · rw[if_neg hm] at hr
           simp only[Option.some.injEq] at hr;subst hr;have hn2:s.nodes.length+1+N.n+10*(n+1)+10≤1000000:=by simpa[bM,pGo] using hn
           refine (aDs h' (bI k1) (bI k2) (oZ e0 k3) (by simpa using hm) (by show s.nodes.length+0≤1000000;omega)).mono ?_;rintro e w' ⟨x,rfl,hx,hq⟩;exact⟨x,rfl,fun _=>hx,hq.more (Nat.zero_le _)⟩
       · rw[if_neg k3] at hr
         by_cases i1:pIs ts [116,114,117,101] s=true
         · rw[if_pos i1] at hr
           simp only[Option.some.injEq] at hr;subst hr;have hn2:s.nodes.length+1+N.n+10*(n+1)+10≤1000000:=by simpa[bM,pGo] using hn
           refine (aDq h' (bI k1) (bI k2) (bI k3) i1 (by show s.nodes.length+0≤1000000;omega)).mono ?_;rintro e w' ⟨x,rfl,hx,hq⟩;exact⟨x,rfl,fun _=>hx,hq.more (Nat.zero_le _)⟩
         · rw[if_neg i1] at hr
           have i1':pIs ts [116,114,117,101] s=false:=by simpa using i1
           by_cases i2:pIs ts [102,97,108,115,101] s=true
           · rw[if_pos i2] at hr
             simp only[Option.some.injEq] at hr;subst hr;have hn2:s.nodes.length+1+N.n+10*(n+1)+10≤1000000:=by simpa[bM,pGo] using hn
             refine (zB h' (bI k1) (bI k2) (bI k3) i1' i2 (by show s.nodes.length+0≤1000000;omega)).mono ?_;rintro e w' ⟨x,rfl,hx,hq⟩;exact⟨x,rfl,fun _=>hx,hq.more (Nat.zero_le _)⟩
           · rw[if_neg i2] at hr
             have i2':pIs ts [102,97,108,115,101] s=false:=by simpa using i2
             by_cases i3:pIs ts [108,101,110] s=true
             · rw[if_pos i3] at hr
               by_cases hm:pIs ts [40] (pGo s)=true
               · rw[if_pos hm] at hr
                 simp only[mS] at hr;obtain⟨q,hq,rfl⟩:=hr;have hn2:(pUp (aA ts [41] q.2)).nodes.length+1+N.n+10*(n+1)+10≤1000000:=by simpa[bM] using hn
                 rw[fD] at hn2;refine (aGt hG h' (bI k1) (bI k2) (bI k3) i1' i2' i3 hm hq (by omega)).mono ?_;rintro e w' ⟨x,rfl,hx,hq⟩;exact⟨x,rfl,fun e=>hx e,hq.more (by show 10*n≤10*(n+1);omega)⟩
               · rw[if_neg hm] at hr
                 simp only[Option.some.injEq] at hr;subst hr;have hl:(aO ts 20 (pGo s)).nodes.length=s.nodes.length:=by unfold aO pGo;split<;>rfl
                 have hn2:(aO ts 20 (pGo s)).nodes.length+N.n+10*(n+1)+10≤1000000:=hn;rw[hl] at hn2;refine (uN hG h' (bI k1) (bI k2) (bI k3) i1' i2' i3 (by simpa using hm) (by omega)).mono ?_;rintro e w' ⟨x,rfl,hq⟩;exact⟨x,rfl,fun e=>absurd e pE,hq.more (by show 1≤10*(n+1);omega)⟩
             · rw[if_neg i3] at hr
               have i3':pIs ts [108,101,110] s=false:=by simpa using i3
               by_cases hm:pIs ts [40] s=true
               · rw[if_pos hm] at hr
                 simp only[mS] at hr;obtain⟨q,hq,rfl⟩:=hr;have hn2:(pUp (aA ts [41] q.2)).nodes.length+N.n+10*(n+1)+10≤1000000:=hn;rw[fD] at hn2;refine (nN (r:=q) hG h' (bI k1) (bI k2) (bI k3) i1' i2' i3' (fun _=>hq) (fun _=>by show q.2.nodes.length+0+10*n+10≤1000000;omega)).mono ?_;rintro e w' ⟨x,rfl,_,hB⟩;obtain⟨hx,hq⟩:=hB hm;exact⟨x,rfl,fun e=>hx e,hq.more (by show 0+10*n≤10*(n+1);omega)⟩
               · rw[if_neg hm] at hr
                 simp only[Option.some.injEq] at hr;subst hr;refine (nN (r:=([],s)) hG h' (bI k1) (bI k2) (bI k3) i1' i2' i3' (fun e=>absurd e hm) (fun e=>absurd e hm)).mono ?_;rintro e w' ⟨x,rfl,hA,_⟩;obtain⟨_,hq⟩:=hA (by simpa using hm);exact⟨x,rfl,fun e=>absurd e pE,hq.more (Nat.zero_le _)⟩
theorem aLx (zs:List ByteArray) (t:List UInt8):isIn zs t=zs.any fun x=>isIn [x] t:=by
 rw[Bool.eq_iff_iff];simp only[isIn,decide_eq_true_eq,List.any_eq_true,List.mem_map,List.mem_singleton,List.map_cons,List.map_nil];exact⟨fun ⟨a,h1,h2⟩=>⟨a,h1,h2.symm⟩,fun ⟨a,h1,h2⟩=>⟨a,h1,h2.symm⟩⟩
theorem aNw {ts:List Tok} (zs:List ByteArray) (q:PQ):qIs ts zs q=zs.any fun x=>qIs ts [x] q:=by
 unfold qIs;rw[aLx];generalize (decide (q.e=0) && (decide ((jC ts q).kind=5) || decide ((jC ts q).kind=4)))=a;cases a
 · simp
 · simp
theorem QS.isL {src:ByteArray}{tb tc:Nat}{ts:List Tok}{g:Nat}{N:Lim}{R:Nat→Prop}{w0 w:World}{s:PS} (h:QS src tb tc ts g R w0 w s N) (zs:List ByteArray){b n:Nat} (hb:Blk w b 9 (zs.map Value.string).toArray) (hn:zs.length=n) (hn1:n≤1000){z:Bool} (hz:(zs.any fun x=>pIs ts x.data.toList s)=z):
  Calls Tryz.prog 83 #[.pointer (some ⟨g,0,none⟩),.slice (some ⟨b,0,none⟩) n n] w fun e w'=>e = .returned (.bool z)∧Fr nob w w':=by
 obtain⟨q,lvs,hq,hs⟩:=h.q;refine (yX hq zs b n hb hn hn1).mono fun e w' ⟨he,hf⟩=>⟨by rw[he,aNw,←hz];congr 2;exact congrArg (fun f=>zs.any f) (funext fun x=>hs.isX x),hf⟩
theorem aKp:∀(lv:Nat),∀x∈dK lv,x≠[]:=by
 intro lv x hx
 match lv,hx with
 | 0,hx=>simp[dK] at hx;simp[hx]
 | 1,hx=>simp[dK] at hx;simp[hx]
 | 2,hx=>simp[dK] at hx;rcases hx with rfl|rfl|rfl|rfl<;>decide
 | 3,hx=>simp[dK] at hx;rcases hx with rfl|rfl<;>decide
 | n+4,hx=>simp[dK] at hx;rcases hx with rfl|rfl|rfl<;>decide
theorem aHg {ts:List Tok} (lv:Nat) (s:PS):((dK lv).any fun x=>pIs ts x s)=decide (eG ts lv s≠[]):=by
 unfold eG;cases h:(dK lv).find? fun x=>pIs ts x s with
 | none=>
  rw[List.find?_eq_none] at h;have:((dK lv).any fun x=>pIs ts x s)=false:=by
   rw[List.any_eq_false];exact h
  rw[this];simp
 | some x=>
  have h1:=List.mem_of_find?_eq_some h;have h2:=List.find?_some h;have:((dK lv).any fun x=>pIs ts x s)=true:=List.any_eq_true.2 ⟨x,h1,h2⟩;rw[this];simp[aKp lv x h1]
theorem aDw {ts:List Tok} (lv:Nat) (s:PS) (h:eG ts lv s≠[]):s.e=0∧(bE ts s).text=eG ts lv s:=by
 unfold eG at h ⊢;cases hh:(dK lv).find? fun x=>pIs ts x s with
 | none=>rw[hh] at h;exact absurd rfl h
 | some x=>
  have h2:=List.find?_some hh;exact⟨(aN h2).1,(aN h2).2.2⟩
def gH:Nat→ByteArray
 | 0=>⟨#[124,124]⟩
 | 1=>⟨#[38,38]⟩
 | 2=>⟨#[60,32,60,61,32,61,61,32,33,61]⟩
 | 3=>⟨#[43,32,45]⟩
 | _=>⟨#[42,32,47,32,37]⟩
def jN:List ByteArray:=[gH 0,gH 1,gH 2,gH 3,gH 4]
def oH:Nat→Nat
 | 0=>1
 | 1=>1
 | 2=>4
 | 3=>2
 | _=>3
def gU (lv:Nat):List ByteArray:=(dK lv).map bs
theorem aCp (lv:Nat):(gU lv).length=oH lv:=by
 unfold gU
 match lv with
 | 0=>rfl
 | 1=>rfl
 | 2=>rfl
 | 3=>rfl
 | n+4=>rfl
theorem aCq {ts:List Tok} (lv:Nat) (s:PS):((gU lv).any fun x=>pIs ts x.data.toList s)=decide (eG ts lv s≠[]):=by
 rw[←aHg];unfold gU;rw[List.any_map];rfl
theorem aEj:Lib.countB ⟨#[124,124,44,38,38,44,60,32,60,61,32,61,61,32,33,61,44,43,32,45,44,42,32,47,32,37]⟩ ⟨#[44]⟩=4:=by kernel_rfl
theorem aCj:Lib.splitB ⟨#[44]⟩ 0 4 ⟨#[124,124,44,38,38,44,60,32,60,61,32,61,61,32,33,61,44,43,32,45,44,42,32,47,32,37]⟩=jN:=by kernel_rfl
theorem vY (w0 w:World) (hv:Most w0 w):Calls Tryz.prog 156 #[.string ⟨#[124,124,44,38,38,44,60,32,60,61,32,61,61,32,33,61,44,43,32,45,44,42,32,47,32,37]⟩,.string ⟨#[44]⟩] w fun e w'=>
  e = .returned (.slice (some ⟨w.heap.size,0,none⟩) 5 5)∧w'=w.alloc (.cells (jN.map Value.string).toArray 9):=by
 obtain⟨_,m,hm⟩:=hv;refine (Tryz.strings_Split _ _ m w (by decide) (by rw[hm.cell 0];rfl) (by decide)).mono ?_;rintro e w' ⟨rfl,rfl⟩;rw[aEj,aCj];exact⟨rfl,rfl⟩
theorem aEo:Lib.countB (gH 0) ⟨#[32]⟩=0:=by kernel_rfl
theorem aEn:Lib.countB (gH 1) ⟨#[32]⟩=0:=by kernel_rfl
theorem aEm:Lib.countB (gH 2) ⟨#[32]⟩=3:=by kernel_rfl
theorem aEl:Lib.countB (gH 3) ⟨#[32]⟩=1:=by kernel_rfl
theorem aEk:Lib.countB (gH 4) ⟨#[32]⟩=2:=by kernel_rfl
theorem aCo:Lib.splitB ⟨#[32]⟩ 0 0 (gH 0)=gU 0:=by kernel_rfl
theorem aCn:Lib.splitB ⟨#[32]⟩ 0 0 (gH 1)=gU 1:=by kernel_rfl
theorem aCm:Lib.splitB ⟨#[32]⟩ 0 3 (gH 2)=gU 2:=by kernel_rfl
theorem aCl:Lib.splitB ⟨#[32]⟩ 0 1 (gH 3)=gU 3:=by kernel_rfl
theorem aCk:Lib.splitB ⟨#[32]⟩ 0 2 (gH 4)=gU 4:=by kernel_rfl
theorem yI (lv:Nat) (hlv:lv≤4) (w0 w:World) (hv:Most w0 w):Calls Tryz.prog 156 #[.string (gH lv),.string ⟨#[32]⟩] w fun e w'=>
  e = .returned (.slice (some ⟨w.heap.size,0,none⟩) (oH lv) (oH lv))∧w'=w.alloc (.cells ((gU lv).map Value.string).toArray 9):=by
 obtain⟨_,m,hm⟩:=hv
 match lv,hlv with
 | 0,_=>
  refine (Tryz.strings_Split _ _ m w (by decide) (by rw[hm.cell 0];rfl) (by decide)).mono ?_;rintro e w' ⟨rfl,rfl⟩;rw[aEo,aCo];exact⟨rfl,rfl⟩
 | 1,_=>
  refine (Tryz.strings_Split _ _ m w (by decide) (by rw[hm.cell 0];rfl) (by decide)).mono ?_;rintro e w' ⟨rfl,rfl⟩;rw[aEn,aCn];exact⟨rfl,rfl⟩
 | 2,_=>
  refine (Tryz.strings_Split _ _ m w (by decide) (by rw[hm.cell 0];rfl) (by decide)).mono ?_;rintro e w' ⟨rfl,rfl⟩;rw[aEm,aCm];exact⟨rfl,rfl⟩
 | 3,_=>
  refine (Tryz.strings_Split _ _ m w (by decide) (by rw[hm.cell 0];rfl) (by decide)).mono ?_;rintro e w' ⟨rfl,rfl⟩;rw[aEl,aCl];exact⟨rfl,rfl⟩
 | 4,_=>
  refine (Tryz.strings_Split _ _ m w (by decide) (by rw[hm.cell 0];rfl) (by decide)).mono ?_;rintro e w' ⟨rfl,rfl⟩;rw[aEk,aCk];exact⟨rfl,rfl⟩
 | n+5,h=>omega
structure QEx (src:ByteArray) (tb tc:Nat) (ts:List Tok) (g n:Nat):Prop where
 atom:fI src tb tc ts g n .atom 222 #[.pointer (some ⟨g,0,none⟩)]
 factor:fI src tb tc ts g n .factor 202 #[.pointer (some ⟨g,0,none⟩)]
 chain:∀(lv:Nat) (z:Int),((lv:Nat):Int)=z→lv≤5→fI src tb tc ts g n (.chain lv) 186 #[.pointer (some ⟨g,0,none⟩),.int .i64 z]
 expr:fI src tb tc ts g n (.chain 0) 162 #[.pointer (some ⟨g,0,none⟩)]
theorem zO {w:World}{B:Nat} (h:Blk w B 9 (jN.map Value.string).toArray) (lv:Nat) (hl:lv≤4):w.cell? ⟨B,lv,none⟩=some (.string (gH lv)):=by
 rw[h.cell lv]
 match lv,hl with
 | 0,_=>rfl
 | 1,_=>rfl
 | 2,_=>rfl
 | 3,_=>rfl
 | 4,_=>rfl
 | n+5,h=>omega
theorem yY {src:ByteArray}{tb tc:Nat}{ts:List Tok}{g n:Nat} (ih:∀m,m≤n→QEx src tb tc ts g m) (lv:Nat) (z:Int) (hz:((lv:Nat):Int)=z) (hlv:lv≤5):fI src tb tc ts g (n+1) (.chain lv) 186 #[.pointer (some ⟨g,0,none⟩),.int .i64 z]:=by
 subst hz;intro R w0 w s r N h hr hn;have IH:=hD (ih n (Nat.le_refl n));have S0:=hD h;obtain⟨cg,hcg⟩:=h.rW;have GB:=hD (show w.heap.size≠g from fun e=>by have:=hcg.lt;omega);obtain⟨W1,hW1⟩:∃W1,W1=w.alloc (.cells (jN.map Value.string).toArray 9):=⟨_,rfl⟩;have A0:=hD (show Fr nob w W1 from by rw[hW1];exact (fR w).alloc _);have B0:=hD (show Blk W1 w.heap.size 9 (jN.map Value.string).toArray from by rw[hW1];exact Blk.new w _ _);have S1:=hD (S0.out.no A0.out).here;have HSP:=hD (vY w0 w h.most);rw[←hW1] at HSP;simp only[run] at hr;obtain⟨M,hM⟩:∃M,M=(if s.e=0 then 10*(n+1) else N.n+2):=⟨_,rfl⟩;rw[←hM];have HM0:=hD (show s.e=0→M=10*(n+1) from fun e=>by rw[hM,if_pos e]);have HM1:=hD (show (if s.e=0 then 10*n else N.n+2)≤M from by rw[hM];split<;>omega);clear hM hcg h hW1;by_cases h5:lv=5
 · subst h5
   rw[if_pos rfl] at hr;have HQ:=hD ((IH.out.factor R W1 W1 s r N S1.out hr (by omega)));obtain⟨M2,hM2⟩:∃M2,M2=(if s.e=0 then 10*n else N.n+2):=⟨_,rfl⟩;rw[←hM2] at HM1 HQ;clear ih hn hr hM2;go_enter Tryz.func186,Tryz.ntmps186;go_wp2_with fail
   refine HSP.out.mono ?_;rintro e w1 ⟨rfl,hw1⟩;have hw1':=hw1.symm;subst hw1';clear hw1;go_wp2_with fail
   refine HQ.out.mono ?_;rintro e w2 ⟨x,rfl,hx,h2⟩;have S2:=hD h2;have HX:=hD hx;clear h2 hx;go_wp2_with fail
   go_ret;exact⟨x,rfl,HX.out,(S0.out.no A0.out).back (S2.out.more HM1.out)⟩
 · rw[if_neg h5] at hr
   have lv4:lv≤4:=by omega
   have l0:((lv:Int)==5)=false:=bN.2 (by omega);have l1:(lv:Int)<5:=by omega
   simp only[bS] at hr;obtain⟨q,hq,hm⟩:=hr;have HLE:=hD (aU (aI _ _ _ _ hm));have HN:=hD hn;have HQX:=hD (aI _ _ _ _ hq).e0;have HQ:=hD hq;have HMR:=hD hm;have HL:=hD lv4;have HI:=hD ih;obtain⟨line,hline⟩:∃line,aS src.data.toList ts s=line:=⟨_,rfl⟩;rw[hline] at HMR;have HLN:=hD hline;obtain⟨M2,hM2⟩:∃M2,M2=(if s.e=0 then 10*n else N.n+2):=⟨_,rfl⟩;have HCH:=hD (show ∀w1,QS src tb tc ts g R W1 w1 s N→Calls Tryz.prog 186 #[.pointer (some ⟨g,0,none⟩),.int .i64 ((lv:Int)+1)] w1 fun e w'=>∃x:Nat,e = .returned (.int .i64 x)∧(q.2.e=0→x=oneOf q.1)∧QS src tb tc ts g R W1 w' q.2 ⟨M,N.d⟩ from fun w1 h1=>by
    refine (IH.out.chain (lv+1) ((lv:Int)+1) rfl (by omega) R W1 w1 s q N h1 hq (by have:=HLE.out;omega)).mono ?_;rintro e w' ⟨x,he,hx,hs⟩;exact⟨x,he,hx,hs.more HM1.out⟩)
   rw[←hM2] at HM1;clear ih hn hq hm hlv h5 lv4 hline hM2;go_enter Tryz.func186,Tryz.ntmps186;go_wp2_with fail
   refine HSP.out.mono ?_;rintro e w1 ⟨rfl,hw1⟩;have hw1':=hw1.symm;subst hw1';clear hw1;go_wp2_with fail
   refine S1.out.line.mono ?_;rintro e w2 ⟨y,rfl,hy,h2⟩;have S2:=hD h2;have HY:=hD (show s.e=0→y=line from fun e=>by rw[hy e];exact HLN.out);clear h2 hy;go_wp2_with fail
   refine (HCH.out _ S2.out).mono ?_;rintro e w3 ⟨x0,rfl,hx,h3⟩;have S3:=hD h3;have HX:=hD hx;clear h3 hx;go_wp2_with fail
   go_loopg [7] n (fun k x wr=>∃(xv xm:Nat) (s':PS),x = .int .i64 (xv:Nat)∧Hid (k≤n)∧Hid (QS src tb tc ts g R W1 wr s' ⟨M,N.d⟩)∧Hid (run src.data.toList ts k (.more lv line xm) s'=some r)∧Hid (s'.e=0→xv=xm∧s.e=0))
   case atStart=>exact⟨x0,oneOf q.1,q.2,rfl,hD (Nat.le_refl n),S3,HMR,hD (fun e=>⟨HX.out e,HQX.out e⟩)⟩
   case round=>
    obtain⟨xv,xm,s',rfl,HK,S4,HR,HE⟩:=hrel;clear S2 S3 HX HQ HMR HCH HLE HQX;have hr:=HR.out;cases gk with
    | zero=>simp[run] at hr
    | succ k=>
     simp only[run] at hr;have B4:=hD (S4.out.fr.blk B0.out GB.out (by decide));have D4:=hD (S4.out.no (fR wr).drew);have CK:=hD (show ∀wx:World,Blk wx w.heap.size 9 (jN.map Value.string).toArray→wx.cell? ⟨w.heap.size,lv,none⟩=some (.string (gH lv)) from fun wx h=>zO h lv HL.out);have SP:=hD (yI lv HL.out W1 wr.drew D4.out.most);have hsn:oH lv≤1000:=by unfold oH;split<;>omega
     have HIS:=hD (show ∀z:Bool,decide (eG ts lv s'≠[])=z→Calls Tryz.prog 83 #[.pointer (some ⟨g,0,none⟩),.slice (some ⟨wr.drew.heap.size,0,none⟩) (oH lv) (oH lv)] (wr.drew.alloc (.cells ((gU lv).map Value.string).toArray 9)) fun e w'=>e = .returned (.bool z)∧Fr nob (wr.drew.alloc (.cells ((gU lv).map Value.string).toArray 9)) w' from fun z hz=>by
       exact (D4.out.alloc (.cells ((gU lv).map Value.string).toArray 9)).isL (gU lv) (Blk.new wr.drew _ _) (aCp lv) hsn (by rw[aCq];exact hz))
     have KK:=hD (CK.out (wr.drew.alloc (.cells ((gU lv).map Value.string).toArray 9)) ((show Blk wr.drew w.heap.size 9 (jN.map Value.string).toArray from B4.out).alloc _));have BK:=hD (show Blk (wr.drew.alloc (.cells ((gU lv).map Value.string).toArray 9)) w.heap.size 9 (jN.map Value.string).toArray from (show Blk wr.drew w.heap.size 9 (jN.map Value.string).toArray from B4.out).alloc _);have DA:=hD (D4.out.alloc (.cells ((gU lv).map Value.string).toArray 9));have k0:=CK.out _ B4.out;have hwd:wr.drew.heap.size=wr.heap.size:=rfl;generalize gH lv=TX at *;generalize oH lv=SN at *;generalize ((gU lv).map Value.string).toArray=SA at *;clear hsn HR;by_cases hp:eG ts lv s'=[]
     · rw[if_pos hp] at hr
       simp only[Option.some.injEq] at hr;subst hr;have IS:=hD (HIS.out false (by rw[hp];simp));clear hp HIS;go_wp2_with fail
       go_region_held3 (fun wx=>wx.cell? ⟨w.heap.size,lv,none⟩=some (.string TX)) (first|exact K2.out|exact KK.out|go_keep)
         (first
           | (go_at_call 156;go_loud (refine SP.out.mono ?_);go_loud (rintro e w5 ⟨rfl,rfl⟩))
           | (go_at_call 83;go_loud (refine IS.out.mono ?_);go_loud (rintro e w6 ⟨rfl,hf⟩);have S6:=hD (DA.out.no hf);have K2:=hD (CK.out _ (BK.out.fr hf (fun x=>x)));clear hf))
       go_wp2_with fail
       go_ret;exact⟨xv,rfl,fun e=>(HE.out e).1,(S0.out.no A0.out).back S6.out⟩
     · rw[if_neg hp] at hr
       obtain⟨h0,htx⟩:=aDw lv s' hp;obtain⟨hxm,hse⟩:=HE.out h0;subst hxm;have hM:=HM0.out hse;have hy:=HY.out hse;subst hy;simp only[bS] at hr;obtain⟨u,hu,hr⟩:=hr;have IS:=hD (HIS.out true (by simp[hp]));have HO:=hD (S4.out.ok.lK S4.out.toks hp);have IK:=hD (HI.out k (by have:=HK.out;omega));have H0:=hD h0;have HTX:=hD htx;have HM:=hD hM;have hle:u.2.nodes.length≤r.2.nodes.length:=by
         by_cases h2:lv=2
         · rw[if_pos h2] at hr
           simp only[Option.some.injEq] at hr;subst hr;simp[bM]
         · rw[if_neg h2] at hr
           have:=aU (aI _ _ _ _ hr);simp[bM] at this
           omega
       have hN:=HN.out;have HB:=hD (show u.2.nodes.length+10*k≤1000000 by have:=HK.out;omega);have HCH:=hD (show ∀w1,QS src tb tc ts g R W1 w1 (pGo s') ⟨M,N.d⟩→Calls Tryz.prog 186 #[.pointer (some ⟨g,0,none⟩),.int .i64 ((lv:Int)+1)] w1 fun e w'=>∃x:Nat,e = .returned (.int .i64 x)∧(u.2.e=0→x=oneOf u.1)∧QS src tb tc ts g R W1 w' u.2 ⟨10*k,N.d⟩ from fun w1 h1=>by
         refine (IK.out.chain (lv+1) ((lv:Int)+1) rfl (by have:=HL.out;omega) R W1 w1 (pGo s') u ⟨0,N.d⟩ (h1.zero H0.out 0) hu (by have:=HK.out;show u.2.nodes.length+0+10*k+10≤1000000;omega)).mono ?_;rintro e w' ⟨x,he,hx,hs⟩;rw[if_pos (show (pGo s').e=0 from H0.out)] at hs;exact⟨x,he,hx,hs⟩)
       have HR:=hD hr;clear hp HIS hr hu hse hM h0 htx hle hN HN HY HLN;go_wp2_with fail
       go_region_held3 (fun wx=>wx.cell? ⟨w.heap.size,lv,none⟩=some (.string TX)) (first|exact K2.out|exact KK.out|go_keep)
         (first
           | (go_at_call 156;go_loud (refine SP.out.mono ?_);go_loud (rintro e w5 ⟨rfl,rfl⟩))
           | (go_at_call 83;go_loud (refine IS.out.mono ?_);go_loud (rintro e w6 ⟨rfl,hf⟩);have S6:=hD (DA.out.no hf);have K2:=hD (CK.out _ (BK.out.fr hf (fun x=>x)));clear hf))
       go_wp2_with fail
       refine (S6.out.take H0.out HO.out).mono ?_;rintro e w7 ⟨rfl,h7⟩;have S7:=hD h7;clear h7;unfold oF;have ff:=tf1;go_wp2_with fail
       refine (HCH.out _ S7.out).mono ?_;rintro e w8 ⟨x8,rfl,hx,h8⟩;have S8:=hD h8;have HX:=hD hx;clear hx h8;go_wp2_with fail
       refine (S8.out.aNd xv x8 rfl 9 rfl y y (fun _=>rfl) (name:=(bE ts s').text) rfl (l:=[xv,oneOf u.1]) (fun e=>by rw[HX.out e]) HB.out).mono ?_;rintro e w9 ⟨x9,rfl,hx,h9⟩;have S9:=hD h9;have HX9:=hD hx;clear hx h9;by_cases h2:lv=2
       · have l2:((lv:Int)==2)=true:=by rw[h2];rfl
         have hr:=HR.out;rw[if_pos h2,←HTX.out] at hr;simp only[Option.some.injEq] at hr;subst hr;clear h2 HR HCH IK HI;go_wp2_with fail
         go_ret;exact⟨x9,rfl,fun e=>HX9.out e,(S0.out.no A0.out).back (S9.out.more (by have:=HM.out;have:=HK.out;show 10*k≤M;omega))⟩
       · have l2:((lv:Int)==2)=false:=bN.2 (by omega)
         have hr:=HR.out;rw[if_neg h2,←HTX.out] at hr;have HR2:=hD hr;clear h2 HR HCH IK HI hr;go_wp2_with fail
         go_roundg k
         case measure=>omega
         case rel=>exact⟨x9,u.2.nodes.length,(bM 9 y 0 (bE ts s').text [xv,oneOf u.1] u.2).2,rfl,hD (by have:=HK.out;omega),S9.out.more (by have:=HM.out;have:=HK.out;show 10*k≤M;omega),HR2,hD (fun e=>⟨HX9.out e,(HE.out H0.out).2⟩)⟩
theorem nM (src:ByteArray) (tb tc:Nat) (ts:List Tok) (g:Nat):∀n,QEx src tb tc ts g n:=by
 intro n;induction n using Nat.strongRecOn with
 | _ n ih=>
  have hc:∀(lv:Nat) (z:Int),((lv:Nat):Int)=z→lv≤5→fI src tb tc ts g n (.chain lv) 186 #[.pointer (some ⟨g,0,none⟩),.int .i64 z]:=by
   cases n with
   | zero=>exact fun _ _ _ _=>fI.zero _ _ _
   | succ n=>exact yY (fun m hm=>ih m (by omega))
  cases n with
  | zero=>exact⟨fI.zero _ _ _,fI.zero _ _ _,hc,fI.zero _ _ _⟩
  | succ n=>
   have h1:=ih n (by omega);exact⟨aDt h1.expr,wH ⟨h1.factor,h1.atom⟩,hc,aDm hc⟩
theorem xD:Enters Tryz.prog 203:=enters_of Tryz.func203 (by kernel_rfl) rfl
theorem aJc {src:ByteArray}{tb tc:Nat}{ts:List Tok}{g n:Nat}{N:Lim}{R:Nat→Prop}{w0 w:World}{s:PS}{v:Value}{l:List Nat}{bl b0:Nat}{r:List Nat×PS}
  (h:QRw src tb tc ts g R bl w0 w s N v l) (h0:s.e=0) (hb0:Blk w b0 78 #[.pointer (some ⟨g,0,none⟩)]) (hr:run src.data.toList ts n (.chain 0) s=some r) (hn:r.2.nodes.length+10*n+10≤1000000) (hl:l.length≤1000):
  Calls Tryz.prog 203 #[.pointer (some ⟨bl,0,none⟩),.pointer (some ⟨b0,0,none⟩)] w fun e w'=>e = .returned (.tuple #[])∧∃(v':Value) (x:Nat),QRw src tb tc ts g R bl w0 w' r.2 ⟨10*n,N.d⟩ v' (l++[x])∧(r.2.e=0→x=oneOf r.1)∧Blk w' b0 78 #[.pointer (some ⟨g,0,none⟩)]:=by
 have H:=hD h;have HB:=hD hb0;have HL:=hD hl;obtain⟨cg,hcg⟩:=h.q.rW;have GB:=hD (show b0≠g from hb0.ne hcg (by decide));have HX:=(nM src tb tc ts g n).expr (RV R v) w w.drew s r ⟨0,N.d⟩ ((h.q.here.zero h0 0).no (fR w).drew) hr (by omega);rw[if_pos h0] at HX;have HX:=hD HX;obtain⟨A1,c1,hv,hc1,hc2⟩:=h.own.cap;obtain⟨m,hm⟩:∃m,l.length=m:=⟨_,rfl⟩;rw[hm] at hv HL;subst hv;have HMM:=hD hm;have k0:w.cell? ⟨bl,0,none⟩=some (.slice A1 m c1):=by rw[h.cell.cell 0];rfl
 have k1:w.cell? ⟨b0,0,none⟩=some (.pointer (some ⟨g,0,none⟩)):=by rw[hb0.cell 0];rfl
 have CK:=hD (show ∀wx:World,Blk wx bl 27 #[.slice A1 m c1]→Blk wx b0 78 #[.pointer (some ⟨g,0,none⟩)]→wx.cell? ⟨bl,0,none⟩=some (.slice A1 m c1)∧wx.cell? ⟨b0,0,none⟩=some (.pointer (some ⟨g,0,none⟩)) from fun wx h1 h2=>⟨by rw[h1.cell 0];rfl,by rw[h2.cell 0];rfl⟩);clear h h0 hb0 hr hn hl hcg hm;go_enter Tryz.func203,Tryz.ntmps203;go_wp2_with fail
 go_region_law (first
    | (go_simp;go_at_call 162;go_loud (refine HX.out.mono ?_);go_loud (rintro e w2 ⟨x,rfl,hx,h2⟩);go_loud (have HE:=hD hx);go_loud (have S2:=hD (H.out.to h2));go_loud (have B2:=hD (h2.fr.blk HB.out GB.out (by decide)));go_loud (have K2:=hD (CK.out _ S2.out.cell B2.out));go_loud (have K3:=hD (CK.out _ (S2.out.cell.alloc (.cells #[.int .i64 (x:Int)] 3)) (B2.out.alloc (.cells #[.int .i64 (x:Int)] 3))));have k2:=K2.out.1;have k3:=K3.out.1;have k4:=K2.out.2;clear hx h2)
    | (refine step_append (v:= .slice A1 m c1) (n:=m) (m:=1) (xs:=ints l) (news:=[.int .i64 (x:Nat)]) (by rfl) _ _ (by rfl) gW (by rfl) (by rfl) (by have h9:=S2.out.own;rw[HMM.out] at h9;exact h9.alloc _) (Rd.fC (n:=1) (cs:=[.int .i64 (x:Nat)]) (Blk.new _ _ _) rfl (by decide)) (by simp[Value.oneCell']) (by have h9:=HL.out;first|omega|(unfold maxLen;omega)) (by have h9:=HL.out;first|omega|(unfold maxLen;omega)) ?_;intro A5 c5 w5 ho5 hf5 hv5;go_loud (have HQ5:=hD (S2.out.app (o:= .cells #[.int .i64 (x:Int)] 3) (gF (x:=x) (l:=l) (by rw[HMM.out];exact ho5)) hf5 hv5));go_loud (have D5:=hD ((S2.out.cell.alloc (.cells #[.int .i64 (x:Int)] 3)).fr hf5 (fun hm=>(S2.out.own.alloc (.cells #[.int .i64 (x:Int)] 3)).aG (S2.out.cell.alloc (.cells #[.int .i64 (x:Int)] 3)) (by decide) hm)));go_loud (have E5:=hD ((B2.out.alloc (.cells #[.int .i64 (x:Int)] 3)).fr hf5 (fun hm=>(S2.out.own.alloc (.cells #[.int .i64 (x:Int)] 3)).aG (B2.out.alloc (.cells #[.int .i64 (x:Int)] 3)) (by decide) hm)));go_loud (have K5:=hD (CK.out _ D5.out E5.out));have z0:=K5.out.1;have z1:=D5.out.frozen 0;clear ho5 hf5 hv5))
 all_goals
  go_wp2_with fail
  refine bodyPost_end (results_none rfl _ _ _) rfl ⟨rfl,_,x,HQ5.out,HE.out,E5.out.far (p:=⟨bl,0,none⟩) (fun e=>E5.out.ne D5.out (by decide) e) _⟩
section
variable (src:ByteArray) (tb tc:Nat) (ts:List Tok) (g:Nat)
def aCd (n:Nat) (k:Task) (F:FuncId) (args:Array Value):Prop:=
 ∀(R:Nat→Prop) (w0 w:World) (s:PS) (r:List Nat×PS) (N:Lim),QS src tb tc ts g R w0 w s N→s.e=0→run src.data.toList ts n k s=some r→r.2.nodes.length+10*n+10≤1000000 →
  Calls Tryz.prog F args w fun e w'=>∃x:Nat,e = .returned (.int .i64 x)∧(r.2.e=0→x=oneOf r.1)∧QS src tb tc ts g R w0 w' r.2 ⟨10*n,N.d⟩
end
def tF (src:List UInt8) (ts:List Tok) (k:Nat) (l:List Nat) (s:PS):Option (List Nat×PS):=(run src ts k (.chain 0) s).map fun r=>(l++r.1,r.2)
theorem wC (src:List UInt8) (ts:List Tok):∀(k:Nat) (l:List Nat) (s:PS),aGf ts (tF src ts) k l s=run src ts k (.args l) s
 | 0,_,_=>rfl
 | k+1,l,s=>by
  simp only[aGf,run,tF];cases h:run src ts k (.chain 0) s with
  | none=>rfl
  | some r=>
   simp only[Option.map_some,Option.bind_some];split
   · exact wC src ts k _ _
   · rfl
def aQh (src:ByteArray) (tb tc:Nat) (ts:List Tok) (g:Nat) (R:Nat→Prop) (bl b0:Nat) (w0:World) (N:Lim) (w:World) (s:PS) (l:List Nat):Prop:=
 ∃v l',QRw src tb tc ts g R bl w0 w s N v l'∧l'.length=l.length∧(s.e=0→l'=l)∧Blk w b0 78 #[.pointer (some ⟨g,0,none⟩)]
theorem aJb (src:ByteArray) (tb tc:Nat) (ts:List Tok) (g:Nat) (R:Nat→Prop) (bl b0:Nat) (w0:World) (N:Lim):aMu src tb tc ts g (aQh src tb tc ts g R bl b0 w0 N):=by
 intro w s a h;obtain⟨v,l',hq,h1,h2,hb⟩:=h;refine⟨RV R v,N,hq.q.here,fun w' s' he h'=>⟨v,l',hq.to h',h1,fun e=>h2 (he e),?_⟩⟩;obtain⟨cg,hcg⟩:=hq.q.rW;exact h'.fr.blk hb (hb.ne hcg (by decide)) (by decide)
theorem zH {src:List UInt8}{ts:List Tok} (k:Nat) (a:List Nat) (s:PS) (r:List Nat×PS) (h:tF src ts k a s=some r):s.nodes.length≤r.2.nodes.length∧s.i≤r.2.i∧r.1.length=a.length+1:=by
 unfold tF at h;simp only[mS] at h;obtain⟨q,hq,rfl⟩:=h;have hx:=aI _ _ _ _ hq;refine⟨aU hx,hx.i,?_⟩;have h1:=aK _ _ _ _ hq trivial
 show (a++q.1).length=_
 rw[h1];simp
theorem zY {src:ByteArray}{tb tc:Nat}{ts:List Tok}{g n:Nat}{d:Nat}{R:Nat→Prop}{w0 w:World}{s s2:PS}{bl b0:Nat}{r:List Nat×PS}
   (h:QS src tb tc ts g R w0 w s ⟨10*n,d⟩) (hc:Blk w bl 27 #[.slice none 0 0]) (hbl:w0.heap.size≤bl) (hb0:Blk w b0 78 #[.pointer (some ⟨g,0,none⟩)])
   (hs2:aA ts [40] s=s2) (hr:(if pIs ts [41] s2=false∧s2.e=0 then run src.data.toList ts n (.args []) s2 else some ([],s2))=some r) (hL:r.2.nodes.length+10*n+10≤1000000):
   Calls Tryz.prog 80 #[.pointer (some ⟨g,0,none⟩),.func (.func 203) #[] #[.pointer (some ⟨bl,0,none⟩),.pointer (some ⟨b0,0,none⟩)]] w fun e w'=>e = .returned (.tuple #[])∧aQh src tb tc ts g R bl b0 w0 ⟨10*n,d⟩ w' (aA ts [41] r.2) r.1:=by
 refine aGe (one:=tF src.data.toList ts) (len:=List.length) (n:=n) (L:=r.2.nodes.length) (aJb src tb tc ts g R bl b0 w0 ⟨10*n,d⟩) xD zH ?_ (a:=[]) (s:=s) (s2:=s2) ?_ rfl hs2 ?_ (Nat.le_refl _)
 · intro k w s a u hk hI he hl hu hul
   obtain⟨v,l',hq,h1,h2,hb⟩:=hI;have hl':=h2 he;subst hl';unfold tF at hu;simp only[mS] at hu;obtain⟨q,hq2,rfl⟩:=hu;refine (aJc hq he hb hq2 (by have:q.2.nodes.length≤r.2.nodes.length:=hul;omega) hl).mono ?_;rintro e w' ⟨rfl,v',x,h3,h4,h5⟩;have hq1:=aK _ _ _ _ hq2 trivial;refine⟨rfl,v',l'++[x],⟨h3.q.more (by show 10*k≤10*n;omega),h3.cell,h3.own,h3.nr,h3.nw,h3.bnew⟩,?_,fun e=>?_,h5⟩
   · show (l'++[x]).length=(l'++q.1).length
     rw[hq1];simp
   · show l'++[x]=l'++q.1
     rw[hq1,h4 e]
 · exact⟨.slice none 0 0,[],QRw.start h hc hbl,rfl,fun _=>rfl,hb0⟩
 · split
   · rename_i hh
     rw[wC,←hr,if_pos hh]
   · rename_i hh
     rw[←hr,if_neg hh]
theorem aDo (src:ByteArray) (tb tc:Nat) (ts:List Tok) (g n:Nat):aCd src tb tc ts g (n+1) .call 188 #[.pointer (some ⟨g,0,none⟩)]:=by
 intro R w0 w s r N h h0 hr hn;have S0:=hD h;obtain⟨cg,hcg⟩:=h.rW;have hgl:g<w.heap.size:=hcg.lt;have GL:=hD hgl;have A0:=hD (show Fr nob w (w.alloc (.cells #[.pointer (some ⟨g,0,none⟩)] 78)) from (fR w).alloc _);have B0:=hD (Blk.new w 78 #[.pointer (some ⟨g,0,none⟩)]);obtain⟨W1,hW1⟩:∃W1,W1=w.alloc (.cells #[.pointer (some ⟨g,0,none⟩)] 78):=⟨_,rfl⟩;rw[←hW1] at A0 B0;have hsz:W1.heap.size=w.heap.size+1:=by rw[hW1];simp
 have S1:=hD ((S0.out.no A0.out).here.zero h0 (10*n));have x0:W1.cell? ⟨w.heap.size,0,none⟩=some (.pointer (some ⟨g,0,none⟩)):=by rw[B0.out.cell 0];rfl
 have HW:=hD hW1;simp only[run,mS] at hr;obtain⟨q,hq,rfl⟩:=hr;obtain⟨s2,hs2⟩:∃s2,aA ts [40] (aC ts s)=s2:=⟨_,rfl⟩;rw[hs2] at hq;have HQ:=hD hq;have HS2:=hD hs2;have hn2:(aA ts [41] q.2).nodes.length+1+10*(n+1)+10≤1000000:=by simpa[bM] using hn
 have hqn:=aU ((Ext.refl q.2).must (ts:=ts) [41]);have HN:=hD (show q.2.nodes.length+10*n+10≤1000000 by omega);have HN2:=hD (show (aA ts [41] q.2).nodes.length+10*n≤1000000 by omega);obtain⟨line,hline⟩:∃line,aS src.data.toList ts s=line:=⟨_,rfl⟩;have HLN:=hD hline;obtain⟨NM,hname⟩:∃NM,bs (bK ts s)=NM:=⟨_,rfl⟩;have HNM:=hD hname;rw[hline];have H0:=hD h0;have CK:=hD (show ∀wx:World,FrR g W1 wx→wx.cell? ⟨w.heap.size,0,none⟩=some (.pointer (some ⟨g,0,none⟩)) from fun wx f=>by rw[(f.blk B0.out (fun e=>by have:=GL.out;omega) (by decide)).cell 0];rfl);clear h hcg hgl hsz hq hs2 hn hn2 hqn hline hname h0 hW1;go_enter Tryz.func188,Tryz.ntmps188;go_wp2_with fail
 rw[←HW.out];have HLN1:=hD (S1.out.no (fR W1).drew).line;go_region_held3 (fun wx=>wx.cell? ⟨w.heap.size,0,none⟩=some (.pointer (some ⟨g,0,none⟩))) (first|exact K2.out|exact K3.out|go_keep)
  (first
    | (go_at_call 77;go_loud (refine HLN1.out.mono ?_);go_loud (rintro e w2 ⟨y,rfl,hy,h2⟩);go_loud (have HY:=hD hy);go_loud (have S2:=hD h2);go_loud (have K2:=hD (CK.out _ h2.fr));clear hy h2)
    | (go_at_call 79;go_loud (refine (S2.out.name HNM.out).mono ?_);go_loud (rintro e w3 ⟨rfl,h3⟩);go_loud (have S3:=hD h3);go_loud (have K3:=hD (CK.out _ h3.fr));clear h3))
 have L3:=hD S3.out.fr.size;have B3:=hD (S3.out.fr.blk B0.out (fun e=>by have:=GL.out;omega) (by decide));have S4:=hD (S3.out.alloc (.cells #[.slice none 0 0] 27));have B4:=hD (B3.out.alloc (.cells #[.slice none 0 0] 27));have C4:=hD (Blk.new w3 27 #[.slice none 0 0]);have x4:(w3.alloc (.cells #[.slice none 0 0] 27)).cell? ⟨w.heap.size,0,none⟩=some (.pointer (some ⟨g,0,none⟩)):=by rw[B4.out.cell 0];rfl
 have hmf:∀(fn:Fn) (first cap:Array Value) (w:World),(Instr.makeFunc fn first cap).run Tryz.prog w = .ok (.func fn first cap) w:=fun _ _ _ _=>rfl
 have HR:=hD (zY (w:=w3.alloc (.cells #[.slice none 0 0] 27)) (w0:=W1) S4.out C4.out L3.out B4.out HS2.out HQ.out HN.out);go_wp2_with fail
 refine HR.out.mono ?_;rintro e w5 ⟨rfl,v,l',hq5,hl5,he5,hb5⟩;have Q5:=hD hq5;have HE5:=hD he5;obtain⟨A1,c1,hv,hc1,hc2⟩:=hq5.own.cap;generalize hm5:l'.length=m5 at *;subst hv;have x5:w5.cell? ⟨w.heap.size,0,none⟩=some (.pointer (some ⟨g,0,none⟩)):=by rw[hb5.cell 0];rfl
 have y5:w5.cell? ⟨w3.heap.size,0,none⟩=some (.slice A1 m5 c1):=by rw[hq5.cell.cell 0];rfl
 have HM5:=hD hm5;have HP:=hD ((Q5.out.q.drop (R:=R) (fun k hk=>Or.inl hk)).put 21 rfl y line (fun e=>(HY.out H0.out).trans HLN.out) (name:=bK ts s) HNM.out (A1:=A1) (M:=m5) (c1:=c1) (l:=q.1) (fun e=>by have h1:=Q5.out.own;have h2:=HE5.out e;subst h2;rw[HM5.out] at h1 ⊢;exact h1) Q5.out.nr HN2.out);clear hq5 hl5 he5 hb5 hc1 hc2 hm5 x0 x4;go_wp2_with fail
 refine HP.out.mono ?_;rintro e w6 ⟨x6,rfl,hx,h6⟩;have S6:=hD h6;have HX:=hD hx;clear hx h6;go_wp2_with fail
 go_ret;exact⟨x6,rfl,fun e=>HX.out e,(S0.out.no A0.out).back (S6.out.more (by show 10*n≤10*(n+1);omega))⟩
theorem wJ (src:ByteArray) (tb tc:Nat) (ts:List Tok) (g n:Nat):aCd src tb tc ts g n .call 188 #[.pointer (some ⟨g,0,none⟩)]:=by
 cases n with
 | zero=>
  intro R w0 w s r N h h0 hr hn;simp[run] at hr
 | succ n=>exact aDo src tb tc ts g n
section
variable {src:ByteArray}{tb tc:Nat}{ts:List Tok}{g n:Nat}{N:Lim}{R:Nat→Prop}{w0 w:World}{s:PS}{r:List Nat×PS}
theorem aFx {src:List UInt8}{ts:List Tok}{n:Nat}{k:Task}{s:PS}{r:List Nat×PS} (h:run src ts n k s=some r):1≤n:=by
 cases n with
 | zero=>simp[run] at h
 | succ n=>omega
theorem fI.at {k:Task}{F:FuncId}{args:Array Value} (h:fI src tb tc ts g n k F args) (hq:QS src tb tc ts g R w0 w s N) (hr:run src.data.toList ts n k s=some r) (hn:r.2.nodes.length+N.n+10*n+10≤1000000):
  Calls Tryz.prog F args w fun e w'=>∃x:Nat,e = .returned (.int .i64 x)∧(r.2.e=0→x=oneOf r.1)∧QS src tb tc ts g R w0 w' r.2 ⟨N.n+10*n,N.d⟩:=by
 refine (h R w0 w s r N hq hr hn).mono ?_;rintro e w' ⟨x,he,hx,hs⟩;have:=aFx hr;exact⟨x,he,hx,hs.more (by show (if s.e=0 then 10*n else N.n+2)≤N.n+10*n;split<;>omega)⟩
theorem aCd.at {k:Task}{F:FuncId}{args:Array Value} (h:aCd src tb tc ts g n k F args) (hq:QS src tb tc ts g R w0 w s N) (h0:s.e=0) (hr:run src.data.toList ts n k s=some r) (hn:r.2.nodes.length+10*n+10≤1000000):
 Calls Tryz.prog F args w fun e w'=>∃x:Nat,e = .returned (.int .i64 x)∧(r.2.e=0→x=oneOf r.1)∧QS src tb tc ts g R w0 w' r.2 ⟨10*n,N.d⟩:=h R w0 w s r N hq h0 hr hn
theorem aMv {k:Task}{F:FuncId}{args:Array Value} (h:fI src tb tc ts g n k F args) (hq:QS src tb tc ts g R w0 w s ⟨0+10*n,N.d⟩) (h0:s.e≠0) (hr:run src.data.toList ts n k s=some r) (hn:r.2.nodes.length+(0+10*n)+10*n+10≤1000000):
  Calls Tryz.prog F args w fun e w'=>∃x:Nat,e = .returned (.int .i64 x)∧(r.2.e=0→x=oneOf r.1)∧QS src tb tc ts g R w0 w' r.2 ⟨10*n+2,N.d⟩:=by
 refine (h R w0 w s r _ hq hr hn).mono ?_;rintro e w' ⟨x,he,hx,hs⟩;rw[if_neg h0] at hs;exact⟨x,he,hx,hs.more (by show 0+10*n+2≤10*n+2;omega)⟩
theorem aB (x:List UInt8) (s:PS):(aA ts x s).nodes.length=s.nodes.length:=by
 unfold aA pGo aO;split<;>(try split)<;>rfl
theorem bW (s:PS):(aC ts s).nodes.length=s.nodes.length:=by
 unfold aC pGo aO;split<;>(try split)<;>rfl
theorem yS (src:ByteArray) (tb tc:Nat) (ts:List Tok) (g n:Nat):fI src tb tc ts g (n+1) .right 185 #[.pointer (some ⟨g,0,none⟩)]:=by
 intro R w0 w s r N h hr hn;have S0:=hD h;have EX:=hD (nM src tb tc ts g n);have EC:=hD (wJ src tb tc ts g n);simp only[run] at hr;by_cases i1:pIs ts [105,110,112,117,116] s=true
 · rw[if_pos i1] at hr
   simp only[Option.some.injEq] at hr;subst hr;have h0:=(aN i1).1;rw[if_pos h0];have H0:=hD h0;have I1:=hD i1;have hn2:s.nodes.length+1+N.n+10*(n+1)+10≤1000000:=by simpa[bM,pGo] using hn
   have HN:=hD (show (pGo s).nodes.length+0≤1000000 by show s.nodes.length+0≤1000000;omega);have Z0:=hD (h.zero h0 0);clear h hn hn2 i1 h0;go_enter Tryz.func185,Tryz.ntmps185;go_wp2_with fail
   refine Z0.out.line.mono ?_;rintro e w1 ⟨y,rfl,hy,h1⟩;have S1:=hD h1;have HY:=hD hy;clear h1 hy;go_wp2_with fail
   refine (S1.out.has ⟨#[105,110,112,117,116]⟩ (b:=true) I1.out).mono ?_;rintro e w2 ⟨rfl,h2⟩;rw[if_pos rfl] at h2;have S2:=hD h2;clear h2;go_wp2_with fail
   refine (S2.out.uP 19 rfl y (aS src.data.toList ts s) (fun _=>HY.out H0.out) (name:=[]) rfl (l:=[]) (fun _=>rfl) HN.out).mono ?_;rintro e w3 ⟨x3,rfl,hx3,h3⟩;have S3:=hD h3;have HX3:=hD hx3;clear h3 hx3;go_wp2_with fail
   go_ret;exact⟨x3,rfl,fun e=>HX3.out e,S3.out.more (Nat.zero_le _)⟩
 · rw[if_neg i1] at hr
   have I1:=hD (show pIs ts [105,110,112,117,116] s=false by simpa using i1);clear i1;by_cases i2:pIs ts [110,101,119] s=true
   · rw[if_pos i2] at hr
     simp only[mS] at hr;obtain⟨q,hq,rfl⟩:=hr;have h0:=(aN i2).1;rw[if_pos h0];have H0:=hD h0;have I2:=hD i2;have hn2:(aA ts [41] q.2).nodes.length+1+N.n+10*(n+1)+10≤1000000:=by simpa[bM] using hn
     have hnm:=aB (ts:=ts) [41] q.2;have HQ1:=hD (aK _ _ _ _ hq trivial);have HE:=hD (show (aA ts [41] q.2).e=0→q.2.e=0 from ((Ext.refl q.2).must (ts:=ts) [41]).e0);have HQ:=hD hq;have HN:=hD (show q.2.nodes.length+0+10*n+10≤1000000 by omega);have HN2:=hD (show (aA ts [41] q.2).nodes.length+(0+10*n)≤1000000 by omega);have Z0:=hD (h.zero h0 0);clear h hn hn2 hnm hq i2 h0;go_enter Tryz.func185,Tryz.ntmps185;go_wp2_with fail
     refine Z0.out.line.mono ?_;rintro e w1 ⟨y,rfl,hy,h1⟩;have S1:=hD h1;have HY:=hD hy;clear h1 hy;go_wp2_with fail
     refine (S1.out.has ⟨#[105,110,112,117,116]⟩ (b:=false) I1.out).mono ?_;rintro e w2 ⟨rfl,h2⟩;rw[if_neg (by decide)] at h2;have S2:=hD h2;clear h2;go_wp2_with fail
     refine (S2.out.has ⟨#[110,101,119]⟩ (b:=true) I2.out).mono ?_;rintro e w3 ⟨rfl,h3⟩;rw[if_pos rfl] at h3;have S3:=hD h3;clear h3;go_wp2_with fail
     refine (S3.out.must ⟨#[40]⟩).mono ?_;rintro e w4 ⟨rfl,h4⟩;have S4:=hD h4;clear h4;go_wp2_with fail
     refine (EX.out.expr.at S4.out HQ.out HN.out).mono ?_;rintro e w5 ⟨x5,rfl,hx5,h5⟩;have S5:=hD h5;have HX5:=hD hx5;clear h5 hx5;go_wp2_with fail
     refine (S5.out.must ⟨#[41]⟩).mono ?_;rintro e w6 ⟨rfl,h6⟩;have S6:=hD h6;clear h6;go_wp2_with fail
     refine (S6.out.vM x5 rfl 20 rfl y (aS src.data.toList ts s) (fun _=>HY.out H0.out) (name:=[]) rfl (l:=q.1) (fun e=>by rw[HQ1.out,HX5.out (HE.out e)]) HN2.out).mono ?_;rintro e w7 ⟨x7,rfl,hx7,h7⟩;have S7:=hD h7;have HX7:=hD hx7;clear h7 hx7;go_wp2_with fail
     go_ret;exact⟨x7,rfl,fun e=>HX7.out e,S7.out.more (by show 0+10*n≤10*(n+1);omega)⟩
   · rw[if_neg i2] at hr
     have I2:=hD (show pIs ts [110,101,119] s=false by simpa using i2);clear i2;obtain⟨M,hM⟩:∃M,M=(if s.e=0 then 10*(n+1) else N.n+2):=⟨_,rfl⟩;rw[←hM];by_cases i3:dU ts s=true
     · rw[if_pos i3] at hr
       have h0:s.e=0:=by
        unfold dU at i3;simp only[Bool.and_eq_true] at i3;exact (aM i3.1).1
       have HM:=hD (show 10*n≤M by rw[hM,if_pos h0];omega);have H0:=hD h0;have I3:=hD i3;have HR:=hD hr;have HN:=hD (show r.2.nodes.length+10*n+10≤1000000 by omega);clear h hn hr i3 h0 hM;go_enter Tryz.func185,Tryz.ntmps185;go_wp2_with fail
       refine S0.out.line.mono ?_;rintro e w1 ⟨y,rfl,hy,h1⟩;have S1:=hD h1;have HY:=hD hy;clear h1 hy;go_wp2_with fail
       refine (S1.out.has ⟨#[105,110,112,117,116]⟩ (b:=false) I1.out).mono ?_;rintro e w2 ⟨rfl,h2⟩;rw[if_neg (by decide)] at h2;have S2:=hD h2;clear h2;go_wp2_with fail
       refine (S2.out.has ⟨#[110,101,119]⟩ (b:=false) I2.out).mono ?_;rintro e w3 ⟨rfl,h3⟩;rw[if_neg (by decide)] at h3;have S3:=hD h3;clear h3;go_wp2_with fail
       refine (S3.out.calls (b:=true) I3.out).mono ?_;rintro e w4 ⟨rfl,h4⟩;have S4:=hD h4;clear h4;go_wp2_with fail
       refine (EC.out.at S4.out H0.out HR.out HN.out).mono ?_;rintro e w5 ⟨x5,rfl,hx5,h5⟩;have S5:=hD h5;have HX5:=hD hx5;clear h5 hx5;go_wp2_with fail
       go_ret;exact⟨x5,rfl,HX5.out,S5.out.more HM.out⟩
     · rw[if_neg i3] at hr
       have I3:=hD (show dU ts s=false by simpa using i3);have HR:=hD hr;have HN:=hD (show r.2.nodes.length+N.n+10*n+10≤1000000 by omega);have HX:=hD (show ∀wx,QS src tb tc ts g R w0 wx s N→Calls Tryz.prog 162 #[.pointer (some ⟨g,0,none⟩)] wx fun e w'=>∃x:Nat,e = .returned (.int .i64 x)∧(r.2.e=0→x=oneOf r.1)∧QS src tb tc ts g R w0 w' r.2 ⟨M,N.d⟩ from fun wx hx=>by
        refine (EX.out.expr R w0 wx s r N hx HR.out HN.out).mono ?_;rintro e w' ⟨x,he,hxx,hs⟩;exact⟨x,he,hxx,hs.more (by show (if s.e=0 then 10*n else N.n+2)≤M;rw[hM];split<;>omega)⟩)
       clear h hn hr i3 hM;go_enter Tryz.func185,Tryz.ntmps185;go_wp2_with fail
       refine S0.out.line.mono ?_;rintro e w1 ⟨y,rfl,hy,h1⟩;have S1:=hD h1;have HY:=hD hy;clear h1 hy;go_wp2_with fail
       refine (S1.out.has ⟨#[105,110,112,117,116]⟩ (b:=false) I1.out).mono ?_;rintro e w2 ⟨rfl,h2⟩;rw[if_neg (by decide)] at h2;have S2:=hD h2;clear h2;go_wp2_with fail
       refine (S2.out.has ⟨#[110,101,119]⟩ (b:=false) I2.out).mono ?_;rintro e w3 ⟨rfl,h3⟩;rw[if_neg (by decide)] at h3;have S3:=hD h3;clear h3;go_wp2_with fail
       refine (S3.out.calls (b:=false) I3.out).mono ?_;rintro e w4 ⟨rfl,h4⟩;have S4:=hD h4;clear h4;go_wp2_with fail
       refine (HX.out _ S4.out).mono ?_;rintro e w5 ⟨x5,rfl,hx5,h5⟩;have S5:=hD h5;have HX5:=hD hx5;clear h5 hx5;go_wp2_with fail
       go_ret;exact⟨x5,rfl,HX5.out,S5.out⟩
theorem aDh (src:ByteArray) (tb tc:Nat) (ts:List Tok) (g n:Nat):fI src tb tc ts g n .right 185 #[.pointer (some ⟨g,0,none⟩)]:=by
 cases n with
 | zero=>exact fI.zero _ _ _
 | succ n=>exact yS src tb tc ts g n
theorem wF (h:QS src tb tc ts g R w0 w s N) (k:Nat){kv:Int} (hkv:((k:Nat):Int)=kv) (y line:Nat) (hy:s.e=0→y=line){name:List UInt8}{X:ByteArray} (hX:bs name=X)
  (hr:run src.data.toList ts n .right (aA ts [61] s)=some r) (hn:r.2.nodes.length+N.n+10*n+20≤1000000):
  Calls Tryz.prog 161 #[.pointer (some ⟨g,0,none⟩),.int .i64 kv,.int .i64 y,.string X] w fun e w'=>∃x:Nat,e = .returned (.int .i64 x)∧((aA ts [59] r.2).e=0→x=(aA ts [59] r.2).nodes.length)∧QS src tb tc ts g R w0 w' (bM k line 0 name r.1 (aA ts [59] r.2)).2 ⟨N.n+10*n,N.d⟩:=by
 have S0:=hD h;have HK:=hD hkv;have HX:=hD hX;have HR:=hD hr;have HQ1:=hD (aK _ _ _ _ hr trivial);have HE:=hD (show (aA ts [59] r.2).e=0→r.2.e=0 from ((Ext.refl r.2).must (ts:=ts) [59]).e0);have HY:=hD (show (aA ts [59] r.2).e=0→y=line from fun e=>hy (((Ext.refl s).must (ts:=ts) [61]).e0 ((aI _ _ _ _ hr).e0 (HE.out e))));have hnm:=aB (ts:=ts) [59] r.2;have HN:=hD (show r.2.nodes.length+N.n+10*n+10≤1000000 by omega);have HN2:=hD (show (aA ts [59] r.2).nodes.length+(N.n+10*n)≤1000000 by omega);have ER:=hD (aDh src tb tc ts g n);clear h hkv hX hr hn hy hnm;go_enter Tryz.func161,Tryz.ntmps161;go_wp2_with fail
 refine (S0.out.must ⟨#[61]⟩).mono ?_;rintro e w1 ⟨rfl,h1⟩;have S1:=hD h1;clear h1;go_wp2_with fail
 refine (ER.out.at S1.out HR.out HN.out).mono ?_;rintro e w2 ⟨x2,rfl,hx2,h2⟩;have S2:=hD h2;have HX2:=hD hx2;clear h2 hx2;go_wp2_with fail
 refine (S2.out.must ⟨#[59]⟩).mono ?_;rintro e w3 ⟨rfl,h3⟩;have S3:=hD h3;clear h3;go_wp2_with fail
 refine (S3.out.vM x2 rfl k HK.out y line HY.out HX.out (l:=r.1) (fun e=>by rw[HQ1.out,HX2.out (HE.out e)]) HN2.out).mono ?_;rintro e w4 ⟨x4,rfl,hx4,h4⟩;have S4:=hD h4;have HX4:=hD hx4;clear h4 hx4;go_wp2_with fail
 go_ret;exact⟨x4,rfl,HX4.out,S4.out⟩
theorem yV (src:ByteArray) (tb tc:Nat) (ts:List Tok) (g n:Nat){R:Nat→Prop}{w0 w:World}{s:PS}{r:List Nat×PS}{N:Lim} (h:QS src tb tc ts g R w0 w s N) (h0:s.e=0) (y:Nat) (hr:run src.data.toList ts (n+1) (.named y) s=some r) (hn:r.2.nodes.length+20*(n+1)+20≤1000000):
   Calls Tryz.prog 164 #[.pointer (some ⟨g,0,none⟩),.int .i64 y] w fun e w'=>∃x:Nat,e = .returned (.int .i64 x)∧(r.2.e=0→x=oneOf r.1)∧QS src tb tc ts g R w0 w' r.2 ⟨10*n+2,N.d⟩:=by
 have Z0:=hD (h.zero h0 0);have H0:=hD h0;have EX:=hD (nM src tb tc ts g n);have EC:=hD (wJ src tb tc ts g n);simp only[run] at hr;by_cases i1:dU ts s=true
 · rw[if_pos i1] at hr
   simp only[mS] at hr;obtain⟨q,hq,rfl⟩:=hr;have I1:=hD i1;have HQ:=hD hq;have HQ1:=hD (aK _ _ _ _ hq trivial);have HE:=hD (show (aA ts [59] q.2).e=0→q.2.e=0 from ((Ext.refl q.2).must (ts:=ts) [59]).e0);have hn2:(aA ts [59] q.2).nodes.length+1+20*(n+1)+20≤1000000:=by simpa[bM] using hn
   have hnm:=aB (ts:=ts) [59] q.2;have HN:=hD (show q.2.nodes.length+10*n+10≤1000000 by omega);have HN2:=hD (show (aA ts [59] q.2).nodes.length+10*n≤1000000 by omega);clear h h0 hq hn hn2 hnm i1;go_enter Tryz.func164,Tryz.ntmps164;go_wp2_with fail
   refine (Z0.out.calls (b:=true) I1.out).mono ?_;rintro e w1 ⟨rfl,h1⟩;have S1:=hD h1;clear h1;go_wp2_with fail
   refine (EC.out.at S1.out H0.out HQ.out HN.out).mono ?_;rintro e w2 ⟨x2,rfl,hx2,h2⟩;have S2:=hD h2;have HX2:=hD hx2;clear h2 hx2;go_wp2_with fail
   refine (S2.out.must ⟨#[59]⟩).mono ?_;rintro e w3 ⟨rfl,h3⟩;have S3:=hD h3;clear h3;go_wp2_with fail
   refine (S3.out.vM x2 rfl 13 rfl y y (fun _=>rfl) (name:=[]) rfl (l:=q.1) (fun e=>by rw[HQ1.out,HX2.out (HE.out e)]) HN2.out).mono ?_;rintro e w4 ⟨x4,rfl,hx4,h4⟩;have S4:=hD h4;have HX4:=hD hx4;clear h4 hx4;go_wp2_with fail
   go_ret;exact⟨x4,rfl,fun e=>HX4.out e,S4.out.more (by show 10*n≤10*n+2;omega)⟩
 · rw[if_neg i1] at hr
   have I1:=hD (show dU ts s=false by simpa using i1);obtain⟨NM,hname⟩:∃NM,bs (bK ts s)=NM:=⟨_,rfl⟩;have HNM:=hD hname;clear i1;by_cases i2:pIs ts [91] (aC ts s)=true
   · rw[if_pos i2] at hr
     simp only[bS,mS] at hr;obtain⟨q,hq,u,hu,rfl⟩:=hr;have I2:=hD i2;have HQ:=hD hq;have HU:=hD hu;have HQ1:=hD (aK _ _ _ _ hq trivial);have HU1:=hD (aK _ _ _ _ hu trivial);have HE:=hD (show (aA ts [59] u.2).e=0→u.2.e=0 from ((Ext.refl u.2).must (ts:=ts) [59]).e0);have HE2:=hD (show u.2.e=0→(pUp (aA ts [93] q.2)).e=0 from fun e=>((Ext.refl _).must (ts:=ts) [61]).e0 ((aI _ _ _ _ hu).e0 e));have hn2:(aA ts [59] u.2).nodes.length+1+20*(n+1)+20≤1000000:=by simpa[bM] using hn
     have hnm:=aB (ts:=ts) [59] u.2;have hqu:q.2.nodes.length≤u.2.nodes.length:=by
      have h1:=aU (aI _ _ _ _ hu);rw[aB,fD] at h1;exact h1
     have HN:=hD (show q.2.nodes.length+0+10*n+10≤1000000 by omega);have hn1:=aFx hq;have HXP:=hD (show ∀wx,QS src tb tc ts g R w0 wx (aA ts [61] (pUp (aA ts [93] q.2))) ⟨0+10*n,N.d⟩→Calls Tryz.prog 162 #[.pointer (some ⟨g,0,none⟩)] wx fun e w'=>∃x:Nat,e = .returned (.int .i64 x)∧(u.2.e=0→x=oneOf u.1)∧QS src tb tc ts g R w0 w' u.2 ⟨10*n+2,N.d⟩ from fun wx hx=>by
      by_cases he:(aA ts [61] (pUp (aA ts [93] q.2))).e=0
      · refine (EX.out.expr R w0 wx _ u ⟨0,N.d⟩ (hx.zero he 0) HU.out (by show u.2.nodes.length+0+10*n+10≤1000000;omega)).mono ?_
        rintro e w' ⟨x,h1,h2,h3⟩;rw[if_pos he] at h3;exact⟨x,h1,h2,h3.more (by show 10*n≤10*n+2;omega)⟩
      · have hb:=aMv EX.out.expr hx he HU.out
        exact hb (by show u.2.nodes.length+(0+10*n)+10*n+10≤1000000;have:=hn2;omega))
     have HN2:=hD (show (aA ts [59] u.2).nodes.length+(10*n+2)≤1000000 by omega);clear h h0 hq hu hn hn2 hnm hqu i2 hn1;go_enter Tryz.func164,Tryz.ntmps164;go_wp2_with fail
     refine (Z0.out.calls (b:=false) I1.out).mono ?_;rintro e w1 ⟨rfl,h1⟩;have S1:=hD h1;clear h1;go_wp2_with fail
     refine (S1.out.name HNM.out).mono ?_;rintro e w2 ⟨rfl,h2⟩;have S2:=hD h2;clear h2;go_wp2_with fail
     have A3:=hD (show Fr nob w2 (w2.alloc (.cells #[.string ⟨#[91]⟩] 9)) from (fR w2).alloc _);refine ((S2.out.no A3.out).is1 ⟨#[91]⟩ (Blk.new w2 _ _) (z:=true) I2.out).mono ?_;rintro e w3 ⟨rfl,h3⟩;have S3:=hD (S2.out.no (A3.out.tr h3));clear h3;go_wp2_with fail
     refine (S3.out.inner EX.out.expr ⟨#[91]⟩ ⟨#[93]⟩ (fun _=>HQ.out) (fun _=>HN.out)).mono ?_;rintro e w4 ⟨x4,rfl,_,hB⟩;obtain⟨hv,h4⟩:=hB I2.out;have HX4:=hD hv;have S4:=hD h4;clear h4 hv hB;go_wp2_with fail
     refine (S4.out.must ⟨#[61]⟩).mono ?_;rintro e w5 ⟨rfl,h5⟩;have S5:=hD h5;clear h5;go_wp2_with fail
     refine (HXP.out _ S5.out).mono ?_;rintro e w6 ⟨x6,rfl,hx6,h6⟩;have S6:=hD h6;have HX6:=hD hx6;clear h6 hx6;go_wp2_with fail
     refine (S6.out.must ⟨#[59]⟩).mono ?_;rintro e w7 ⟨rfl,h7⟩;have S7:=hD h7;clear h7;go_wp2_with fail
     refine (S7.out.aNd x4 x6 rfl 12 rfl y y (fun _=>rfl) (name:=bK ts s) HNM.out (l:=q.1++u.1) (fun e=>by rw[HQ1.out,HU1.out,HX4.out (HE2.out (HE.out e)),HX6.out (HE.out e)];rfl) HN2.out).mono ?_;rintro e w8 ⟨x8,rfl,hx8,h8⟩;have S8:=hD h8;have HX8:=hD hx8;clear h8 hx8;go_wp2_with fail
     go_ret;exact⟨x8,rfl,fun e=>HX8.out e,S8.out⟩
   · rw[if_neg i2] at hr
     have I2:=hD (show pIs ts [91] (aC ts s)=false by simpa using i2);simp only[mS] at hr;obtain⟨q,hq,rfl⟩:=hr;have HQ:=hD hq;have hn2:(aA ts [59] q.2).nodes.length+1+20*(n+1)+20≤1000000:=by simpa[bM] using hn
     have hnm:=aB (ts:=ts) [59] q.2;have HN:=hD (show q.2.nodes.length+0+10*n+20≤1000000 by omega);clear h h0 hq hn hn2 hnm i2;go_enter Tryz.func164,Tryz.ntmps164;go_wp2_with fail
     refine (Z0.out.calls (b:=false) I1.out).mono ?_;rintro e w1 ⟨rfl,h1⟩;have S1:=hD h1;clear h1;go_wp2_with fail
     refine (S1.out.name HNM.out).mono ?_;rintro e w2 ⟨rfl,h2⟩;have S2:=hD h2;clear h2;go_wp2_with fail
     have A3:=hD (show Fr nob w2 (w2.alloc (.cells #[.string ⟨#[91]⟩] 9)) from (fR w2).alloc _);refine ((S2.out.no A3.out).is1 ⟨#[91]⟩ (Blk.new w2 _ _) (z:=false) I2.out).mono ?_;rintro e w3 ⟨rfl,h3⟩;have S3:=hD (S2.out.no (A3.out.tr h3));clear h3;go_wp2_with fail
     refine (wF S3.out 11 rfl y y (fun _=>rfl) (name:=bK ts s) HNM.out HQ.out HN.out).mono ?_;rintro e w4 ⟨x4,rfl,hx4,h4⟩;have S4:=hD h4;have HX4:=hD hx4;clear h4 hx4;go_wp2_with fail
     go_ret;exact⟨x4,rfl,fun e=>HX4.out e,S4.out.more (by show 0+10*n≤10*n+2;omega)⟩
end
end Go.Proofs.YtlbjicjinnnboaaGreatDoor
