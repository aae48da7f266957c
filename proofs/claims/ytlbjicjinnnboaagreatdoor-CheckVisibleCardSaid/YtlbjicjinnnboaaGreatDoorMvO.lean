/- MvO: laws and walks for CheckVisible. -/
import Derived.Test.YtlbjicjinnnboaaGreatDoorMvN
import Derived.Test.YtlbjicjinnnboaaGreatDoorMvE
set_option maxHeartbeats 8000000
set_option maxRecDepth 100000
set_option linter.unusedVariables false
set_option linter.unusedSimpArgs false
namespace Go.Proofs.YtlbjicjinnnboaaGreatDoor
open Go.RowKit Go.Proofs.Tryz
variable {ts:List Tok}{s:PS}{g tb tc n bl b0:Nat}{w w0:World}{src:ByteArray}{R:Nat->Prop}{N:Lim}{k:Task}{v:Value}{l:List Nat}{r:List Nat×PS}{F:FuncId}{args:Array Value}
section
variable {src:ByteArray}{tb tc:Nat}{ts:List Tok}{g n:Nat}{N:Lim}{R:Nat->Prop}{w0 w:World}{s:PS}{r:List Nat×PS}
theorem aEj  (h:QS src tb tc ts g R w0 w s N) (k1:bM ts 1 s=false) (k2:bM ts 2 s=false) (k3:bM ts 3 s=false) (i1:pIs ts [116,114,117,101] s=true) (hn:s.nodes.length+N.n<=1000000):
  Calls prog 222 #[(g,())] w λe w'=>∃x:Nat,e = .returned x∧x=s.nodes.length∧QS src tb tc ts g R w0 w' (bR 2 (bJ src.data.toList ts s) 1 [] [] (pGo s)).2 N:=by
 have S0:=hD h;have K1:=hD k1;have K2:=hD k2;have K3:=hD k3;have I1:=hD i1;have H0:=hD (aM i1).1;have HN:=hD hn;clear h k1 k2 k3 i1 hn;go_enter func222,ntmps222;go_wp2_with fail
 refine S0.o.line.mono ?_;rintro e w1 ⟨y,rfl,hy,h1⟩;have S1:=hD h1;have HY:=hD (hy H0);clear h1 hy;go_wp2_with fail
 refine S1.o.next.mono ?_;rintro e w2 ⟨t,rfl,ht,h2⟩;have hte:=ht H0.o;subst hte;have S2:=hD h2;clear h2 ht;unfold pW;go_wp2_with fail
 have S3:=hD (S2.o.alloc (.cells #[(bI ts s).kind,bs (bI ts s).text,(bI ts s).place] 115));have Z3:=hD S3.o.here;generalize w2.alloc (.cells #[(bI ts s).kind,bs (bI ts s).text,(bI ts s).place] 115)=w3 at *;generalize w2.heap.size=B at *;refine stepM (Z3.o.kind 1 K1) λw4 Z4=>?_;go_wp2_with fail
 refine stepM (Z4.o.kind 2 K2) λw5 Z5=>?_;go_wp2_with fail
 refine stepM (Z5.o.kind 3 K3) λw6 Z6=>?_;go_wp2_with fail
 refine stepM (Z6.o.has ⟨#[116,114,117,101]⟩ I1) λw7 Z7=>?_;rw[if_pos rfl] at Z7;go_wp2_with fail
 refine eF (Z7.o.number 2 1 rfl rfl y (bJ src.data.toList ts s) (λ_=>HY.o) HN) λx w8 HX S8=>?_;go_wp2
 go_ret;exact⟨x,rfl,HX H0,S3.o.back S8⟩
theorem aAj  (h:QS src tb tc ts g R w0 w s N) (k1:bM ts 1 s=false) (k2:bM ts 2 s=false) (k3:bM ts 3 s=false) (i1:pIs ts [116,114,117,101] s=false) (i2:pIs ts [102,97,108,115,101] s=true) (hn:s.nodes.length+N.n<=1000000):
  Calls prog 222 #[(g,())] w λe w'=>∃x:Nat,e = .returned x∧x=s.nodes.length∧QS src tb tc ts g R w0 w' (bR 2 (bJ src.data.toList ts s) 0 [] [] (pGo s)).2 N:=by
 have S0:=hD h;have K1:=hD k1;have K2:=hD k2;have K3:=hD k3;have I1:=hD i1;have I2:=hD i2;have H0:=hD (aM i2).1;have HN:=hD hn;clear h k1 k2 k3 i1 i2 hn;go_enter func222,ntmps222;go_wp2_with fail
 refine S0.o.line.mono ?_;rintro e w1 ⟨y,rfl,hy,h1⟩;have S1:=hD h1;have HY:=hD (hy H0);clear h1 hy;go_wp2_with fail
 refine S1.o.next.mono ?_;rintro e w2 ⟨t,rfl,ht,h2⟩;have hte:=ht H0.o;subst hte;have S2:=hD h2;clear h2 ht;unfold pW;go_wp2_with fail
 have S3:=hD (S2.o.alloc (.cells #[(bI ts s).kind,bs (bI ts s).text,(bI ts s).place] 115));have Z3:=hD S3.o.here;generalize w2.alloc (.cells #[(bI ts s).kind,bs (bI ts s).text,(bI ts s).place] 115)=w3 at *;generalize w2.heap.size=B at *;refine stepM (Z3.o.kind 1 K1) λw4 Z4=>?_;go_wp2_with fail
 refine stepM (Z4.o.kind 2 K2) λw5 Z5=>?_;go_wp2_with fail
 refine stepM (Z5.o.kind 3 K3) λw6 Z6=>?_;go_wp2_with fail
 refine stepM (Z6.o.has ⟨#[116,114,117,101]⟩ I1) λw7 Z7=>?_;rw[if_neg (by decide)] at Z7;go_wp2_with fail
 refine stepM (Z7.o.has ⟨#[102,97,108,115,101]⟩ I2) λw8 Z8=>?_;rw[if_pos rfl] at Z8;go_wp2_with fail
 refine eF (Z8.o.number 2 0 rfl rfl y (bJ src.data.toList ts s) (λ_=>HY.o) HN) λx w9 HX S9=>?_;go_wp2
 go_ret;exact⟨x,rfl,HX H0,S3.o.back S9⟩
theorem aEk  (h:QS src tb tc ts g R w0 w s N) (k1:bM ts 1 s=false) (k2:bM ts 2 s=true) (hn:s.nodes.length+N.n<=1000000):
  Calls prog 222 #[(g,())] w λe w'=>∃x:Nat,e = .returned x∧x=s.nodes.length∧QS src tb tc ts g R w0 w' (bR 3 (bJ src.data.toList ts s) 0 (bI ts s).text [] (pGo s)).2 N:=by
 have S0:=hD h;have K1:=hD k1;have K2:=hD k2;have H0:=hD (aW k2).1;have HN:=hD hn;have HO:=hD (h.ok.lQ h.toks (aW k2).2 (by decide));clear h k1 k2 hn;go_enter func222,ntmps222;go_wp2_with fail
 refine S0.o.line.mono ?_;rintro e w1 ⟨y,rfl,hy,h1⟩;have S1:=hD h1;have HY:=hD (hy H0);clear h1 hy;go_wp2_with fail
 refine S1.o.next.mono ?_;rintro e w2 ⟨t,rfl,ht,h2⟩;have hte:=ht H0.o;subst hte;have S2:=hD h2;clear h2 ht;unfold pW;go_wp2_with fail
 have S3:=hD (S2.o.alloc (.cells #[(bI ts s).kind,bs (bI ts s).text,(bI ts s).place] 115));have Z3:=hD S3.o.here;generalize w2.alloc (.cells #[(bI ts s).kind,bs (bI ts s).text,(bI ts s).place] 115)=w3 at *;generalize w2.heap.size=B at *;refine stepM (Z3.o.kind 1 K1) λw4 Z4=>?_;go_wp2_with fail
 refine stepM (Z4.o.kind 2 K2) λw5 Z5=>?_;go_wp2_with fail
 refine stepM (Z5.o.take H0 HO) λw6 Z6=>?_;unfold pW;have ff:=tf1;go_wp2_with fail
 refine eF (Z6.o.wD 3 rfl y (bJ src.data.toList ts s) (λ_=>HY.o) (name:=(bI ts s).text) rfl (l:=[]) (λ_=>rfl) HN) λx w7 HX S7=>?_;go_wp2
 go_ret;exact⟨x,rfl,HX H0,S3.o.back S7⟩
theorem aEl  (h:QS src tb tc ts g R w0 w s N) (k1:bM ts 1 s=false) (k2:bM ts 2 s=false) (k3:bM ts 3 s=true) (hm:pIs ts [91] (pGo s)=false) (hn:s.nodes.length+N.n<=1000000):
  Calls prog 222 #[(g,())] w λe w'=>∃x:Nat,e = .returned x∧x=s.nodes.length∧QS src tb tc ts g R w0 w' (bR 4 (bJ src.data.toList ts s) 0 (bI ts s).text [] (pGo s)).2 N:=by
 have S0:=hD h;have K1:=hD k1;have K2:=hD k2;have K3:=hD k3;have H0:=hD (aW k3).1;have HN:=hD hn;have HM:=hD hm;have HO:=hD (h.ok.lQ h.toks (aW k3).2 (by decide));clear h k1 k2 k3 hn hm;go_enter func222,ntmps222;go_wp2_with fail
 refine S0.o.line.mono ?_;rintro e w1 ⟨y,rfl,hy,h1⟩;have S1:=hD h1;have HY:=hD (hy H0);clear h1 hy;go_wp2_with fail
 refine S1.o.next.mono ?_;rintro e w2 ⟨t,rfl,ht,h2⟩;have hte:=ht H0.o;subst hte;have S2:=hD h2;clear h2 ht;unfold pW;go_wp2_with fail
 have BT:=hD (Blk.new w2 115 #[(bI ts s).kind,bs (bI ts s).text,(bI ts s).place]);have GB:=hD (show w2.heap.size≠g from λe=>by obtain⟨cg,hcg⟩:=S2.o.tZ;have:=hcg.lt;omega);have S3:=hD (S2.o.alloc (.cells #[(bI ts s).kind,bs (bI ts s).text,(bI ts s).place] 115));have Z3:=hD S3.o.here;generalize w2.alloc (.cells #[(bI ts s).kind,bs (bI ts s).text,(bI ts s).place] 115)=w3 at *;generalize w2.heap.size=B at *;refine stepM (Z3.o.kind 1 K1) λw4 Z4=>?_;go_wp2_with fail
 refine stepM (Z4.o.kind 2 K2) λw5 Z5=>?_;go_wp2_with fail
 refine stepM (Z5.o.kind 3 K3) λw6 Z6=>?_;go_wp2_with fail
 refine stepM (Z6.o.take H0 HO) λw7 Z7=>?_;unfold pW;have A:Hd (Fr nob w7 (w7.alloc (.cells #[.string ⟨#[91]⟩] 9))):=(fR w7).alloc _;have HI:=hD ((Z7.o.no A).is1 ⟨#[91]⟩ (Blk.new w7 _ _) HM);go_wp2_with fail
 refine HI.o.mono ?_;rintro e w8 ⟨rfl,h8⟩;have Z8:=hD (Z7.o.no (A.o.tr h8));have B8:=hD (Z8.o.fr.blk BT GB (by decide));clear h8;have d1:w8.cell? (B,1)=(bs (bI ts s).text):=by rw[B8.o.cell 1];rfl
 go_wp2_with fail
 refine eF (Z8.o.wD 4 rfl y (bJ src.data.toList ts s) (λ_=>HY.o) (name:=(bI ts s).text) rfl (l:=[]) (λ_=>rfl) HN) λx w9 HX S9=>?_;go_wp2
 go_ret;exact⟨x,rfl,HX H0,S3.o.back S9⟩
theorem aHx (hG:fM src tb tc ts g n (.chain 0) 162 #[(g,())]) (h:QS src tb tc ts g R w0 w s N) (k1:bM ts 1 s=false) (k2:bM ts 2 s=false) (k3:bM ts 3 s=true) (hm:pIs ts [91] (pGo s)=true) (hr:run src.data.toList ts n (.chain 0) (aA ts [91] (aX ts (pGo s)))=some r) (hn:r.2.nodes.length+10*n+10<=1000000):
  Calls prog 222 #[(g,())] w λe w'=>∃x:Nat,e = .returned x∧((pUp (aA ts [93] r.2)).e=0->x=(pUp (aA ts [93] r.2)).nodes.length)∧QS src tb tc ts g R w0 w' (bR 5 (bJ src.data.toList ts s) 0 (bI ts s).text r.1 (pUp (aA ts [93] r.2))).2 ⟨10*n,N.d⟩:=by
 have S0:=hD h;have K1:=hD k1;have K2:=hD k2;have K3:=hD k3;have H0:=hD (aW k3).1;have HN:=hD hn;have HM:=hD hm;have HR:=hD hr;have HG:=hD hG;have HQ1:=hD (aJ _ _ _ _ hr trivial);have HN2:=hD (show (pUp (aA ts [93] r.2)).nodes.length+(0+10*n)<=1000000 by have e:(pUp (aA ts [93] r.2)).nodes.length=r.2.nodes.length:=(by show (aA ts [93] r.2).nodes.length=_;unfold aA pGo aR;split<;>(try split)<;>rfl);rw[e];omega);have HO:=hD (h.ok.lQ h.toks (aW k3).2 (by decide));clear h k1 k2 k3 hn hm hr hG;go_enter func222,ntmps222;go_wp2_with fail
 refine S0.o.line.mono ?_;rintro e w1 ⟨y,rfl,hy,h1⟩;have S1:=hD h1;have HY:=hD (hy H0);clear h1 hy;go_wp2_with fail
 refine S1.o.next.mono ?_;rintro e w2 ⟨t,rfl,ht,h2⟩;have hte:=ht H0.o;subst hte;have S2:=hD h2;clear h2 ht;unfold pW;go_wp2_with fail
 have BT:=hD (Blk.new w2 115 #[(bI ts s).kind,bs (bI ts s).text,(bI ts s).place]);have GB:=hD (show w2.heap.size≠g from λe=>by obtain⟨cg,hcg⟩:=S2.o.tZ;have:=hcg.lt;omega);have S3:=hD (S2.o.alloc (.cells #[(bI ts s).kind,bs (bI ts s).text,(bI ts s).place] 115));have Z3:=hD S3.o.here;generalize w2.alloc (.cells #[(bI ts s).kind,bs (bI ts s).text,(bI ts s).place] 115)=w3 at *;generalize w2.heap.size=B at *;refine stepM (Z3.o.kind 1 K1) λw4 Z4=>?_;go_wp2_with fail
 refine stepM (Z4.o.kind 2 K2) λw5 Z5=>?_;go_wp2_with fail
 refine stepM (Z5.o.kind 3 K3) λw6 Z6=>?_;go_wp2_with fail
 refine stepM (Z6.o.take H0 HO) λw7 Z7=>?_;unfold pW;have A:Hd (Fr nob w7 (w7.alloc (.cells #[.string ⟨#[91]⟩] 9))):=(fR w7).alloc _;have HI:=hD ((Z7.o.no A).is1 ⟨#[91]⟩ (Blk.new w7 _ _) HM);go_wp2_with fail
 refine HI.o.mono ?_;rintro e w8 ⟨rfl,h8⟩;have Z8:=hD (Z7.o.no (A.o.tr h8));have B8:=hD (Z8.o.fr.blk BT GB (by decide));clear h8;have d1:w8.cell? (B,1)=(bs (bI ts s).text):=by rw[B8.o.cell 1];rfl
 go_wp2_with fail
 refine ((Z8.o.zero H0 0).inner HG ⟨#[91]⟩ ⟨#[93]⟩ (λ_=>HR.o) (λ_=>by have:=HN.o;show r.2.nodes.length+0+10*n+10<=1000000;omega)).mono ?_;rintro e w9 ⟨v,rfl,_,hB⟩;obtain⟨hv,h9⟩:=hB HM.o;have HV:=hD hv;have Z9:=hD h9;have B9:=hD (Z9.o.fr.blk BT GB (by decide));clear h9 hv hB d1;have d1:w9.cell? (B,1)=(bs (bI ts s).text):=by rw[B9.o.cell 1];rfl
 go_wp2_with fail
 refine eF (Z9.o.xA v rfl 5 rfl y (bJ src.data.toList ts s) (λ_=>HY.o) (name:=(bI ts s).text) rfl (l:=r.1) (λe=>by rw[HQ1.o,HV.o e]) HN2) λx w10 HX S10=>?_;go_wp2
 go_ret;exact⟨x,rfl,HX,S3.o.back (S10.o.more (by show 0+10*n<=10*n;omega))⟩
end
theorem fJ (x:List UInt8) (s:PS):(pUp (aA ts x s)).nodes.length=s.nodes.length:=by
 show (aA ts x s).nodes.length=_
 unfold aA pGo aR;split<;>(try split)<;>rfl
section
variable {src:ByteArray}{tb tc:Nat}{ts:List Tok}{g n:Nat}{N:Lim}{R:Nat->Prop}{w0 w:World}{s:PS}{r:List Nat×PS}
theorem aHz (hG:fM src tb tc ts g n (.chain 0) 162 #[(g,())]) (h:QS src tb tc ts g R w0 w s N) (k1:bM ts 1 s=false) (k2:bM ts 2 s=false) (k3:bM ts 3 s=false) (i1:pIs ts [116,114,117,101] s=false) (i2:pIs ts [102,97,108,115,101] s=false) (i3:pIs ts [108,101,110] s=true) (hm:pIs ts [40] (pGo s)=true) (hr:run src.data.toList ts n (.chain 0) (aA ts [40] (aX ts (pGo s)))=some r) (hn:r.2.nodes.length+10*n+10<=1000000):
  Calls prog 222 #[(g,())] w λe w'=>∃x:Nat,e = .returned x∧((pUp (aA ts [41] r.2)).e=0->x=(pUp (aA ts [41] r.2)).nodes.length)∧QS src tb tc ts g R w0 w' (bR 6 (bJ src.data.toList ts s) 0 [] r.1 (pUp (aA ts [41] r.2))).2 ⟨10*n,N.d⟩:=by
 have S0:=hD h;have K1:=hD k1;have K2:=hD k2;have K3:=hD k3;have I1:=hD i1;have I2:=hD i2;have I3:=hD i3;have H0:=hD (aM i3).1;have HN:=hD hn;have HM:=hD hm;have HR:=hD hr;have HG:=hD hG;have HQ1:=hD (aJ _ _ _ _ hr trivial);have HN2:=hD (show (pUp (aA ts [41] r.2)).nodes.length+(0+10*n)<=1000000 by rw[fJ];omega);clear h k1 k2 k3 i1 i2 i3 hn hm hr hG;go_enter func222,ntmps222;go_wp2_with fail
 refine S0.o.line.mono ?_;rintro e w1 ⟨y,rfl,hy,h1⟩;have S1:=hD h1;have HY:=hD (hy H0);clear h1 hy;go_wp2_with fail
 refine S1.o.next.mono ?_;rintro e w2 ⟨t,rfl,ht,h2⟩;have hte:=ht H0.o;subst hte;have S2:=hD h2;clear h2 ht;unfold pW;go_wp2_with fail
 have S3:=hD (S2.o.alloc (.cells #[(bI ts s).kind,bs (bI ts s).text,(bI ts s).place] 115));have Z3:=hD S3.o.here;generalize w2.alloc (.cells #[(bI ts s).kind,bs (bI ts s).text,(bI ts s).place] 115)=w3 at *;generalize w2.heap.size=B at *;refine stepM (Z3.o.kind 1 K1) λw4 Z4=>?_;go_wp2_with fail
 refine stepM (Z4.o.kind 2 K2) λw5 Z5=>?_;go_wp2_with fail
 refine stepM (Z5.o.kind 3 K3) λw6 Z6=>?_;go_wp2_with fail
 refine stepM (Z6.o.has ⟨#[116,114,117,101]⟩ I1) λw7 Z7=>?_;rw[if_neg (by decide)] at Z7;go_wp2_with fail
 refine stepM (Z7.o.has ⟨#[102,97,108,115,101]⟩ I2) λw8 Z8=>?_;rw[if_neg (by decide)] at Z8;go_wp2_with fail
 refine stepM (Z8.o.has ⟨#[108,101,110]⟩ I3) λw9 Z9=>?_;rw[if_pos rfl] at Z9;go_wp2_with fail
 refine ((Z9.o.zero H0 0).inner HG ⟨#[40]⟩ ⟨#[41]⟩ (λ_=>HR.o) (λ_=>by have:=HN.o;show r.2.nodes.length+0+10*n+10<=1000000;omega)).mono ?_;rintro e w12 ⟨v,rfl,_,hB⟩;obtain⟨hv,h12⟩:=hB HM.o;have HV:=hD hv;have Z12:=hD h12;clear h12 hv hB;go_wp2_with fail
 refine eF (Z12.o.xA v rfl 6 rfl y (bJ src.data.toList ts s) (λ_=>HY.o) (name:=[]) rfl (l:=r.1) (λe=>by rw[HQ1.o,HV.o e]) HN2) λx w13 HX S13=>?_;go_wp2
 go_ret;exact⟨x,rfl,HX,S3.o.back (S13.o.more (by show 0+10*n<=10*n;omega))⟩
theorem wB (hG:fM src tb tc ts g n (.chain 0) 162 #[(g,())]) (h:QS src tb tc ts g R w0 w s N) (k1:bM ts 1 s=false) (k2:bM ts 2 s=false) (k3:bM ts 3 s=false) (i1:pIs ts [116,114,117,101] s=false) (i2:pIs ts [102,97,108,115,101] s=false) (i3:pIs ts [108,101,110] s=true) (hm:pIs ts [40] (pGo s)=false) (hn:s.nodes.length+10<=1000000):
  Calls prog 222 #[(g,())] w λe w'=>∃x:Nat,e = .returned x∧QS src tb tc ts g R w0 w' (aR ts 20 (pGo s)) ⟨1,N.d⟩:=by
 have S0:=hD h;have K1:=hD k1;have K2:=hD k2;have K3:=hD k3;have I1:=hD i1;have I2:=hD i2;have I3:=hD i3;have H0:=hD (aM i3).1;have HM:=hD hm;have HG:=hD hG;have HF:=hD (show (aR ts 20 (pGo s)).e≠0 by unfold aR;rw[if_pos (show (pGo s).e=0 from H0.o)];exact (by decide:(20:Nat)≠0));have HN2:=hD (show (aR ts 20 (pGo s)).nodes.length+0<=1000000 by have e:(aR ts 20 (pGo s)).nodes.length=s.nodes.length:=(by unfold aR pGo;split<;>rfl);rw[e];omega);clear h k1 k2 k3 i1 i2 i3 hn hm hG;go_enter func222,ntmps222;go_wp2_with fail
 refine S0.o.line.mono ?_;rintro e w1 ⟨y,rfl,hy,h1⟩;have S1:=hD h1;clear h1 hy;go_wp2_with fail
 refine S1.o.next.mono ?_;rintro e w2 ⟨t,rfl,ht,h2⟩;have hte:=ht H0.o;subst hte;have S2:=hD h2;clear h2 ht;unfold pW;go_wp2_with fail
 have S3:=hD (S2.o.alloc (.cells #[(bI ts s).kind,bs (bI ts s).text,(bI ts s).place] 115));have Z3:=hD S3.o.here;generalize w2.alloc (.cells #[(bI ts s).kind,bs (bI ts s).text,(bI ts s).place] 115)=w3 at *;generalize w2.heap.size=B at *;refine stepM (Z3.o.kind 1 K1) λw4 Z4=>?_;go_wp2_with fail
 refine stepM (Z4.o.kind 2 K2) λw5 Z5=>?_;go_wp2_with fail
 refine stepM (Z5.o.kind 3 K3) λw6 Z6=>?_;go_wp2_with fail
 refine stepM (Z6.o.has ⟨#[116,114,117,101]⟩ I1) λw7 Z7=>?_;rw[if_neg (by decide)] at Z7;go_wp2_with fail
 refine stepM (Z7.o.has ⟨#[102,97,108,115,101]⟩ I2) λw8 Z8=>?_;rw[if_neg (by decide)] at Z8;go_wp2_with fail
 refine stepM (Z8.o.has ⟨#[108,101,110]⟩ I3) λw9 Z9=>?_;rw[if_pos rfl] at Z9;go_wp2_with fail
 refine ((Z9.o.zero H0 0).inner (r:=([],s)) HG ⟨#[40]⟩ ⟨#[41]⟩ (λe=>absurd (HM.o.symm.trans e) (by decide)) (λe=>absurd (HM.o.symm.trans e) (by decide))).mono ?_;rintro e w12 ⟨v,rfl,hA,_⟩;obtain⟨hv,h12⟩:=hA HM.o;have Z12:=hD h12;clear h12 hv hA;go_wp2_with fail
 refine ((Z12.o.alloc _).aOd HF 6 rfl y (name:=[]) rfl HN2).mono ?_;rintro e w13 ⟨x,rfl,h13⟩;have S13:=hD h13;clear h13;go_wp2
 go_ret;exact⟨x,rfl,S3.o.back S13⟩
end
section
variable {src:ByteArray}{tb tc:Nat}{ts:List Tok}{g n:Nat}{N:Lim}{R:Nat->Prop}{w0 w:World}{s:PS}{r:List Nat×PS}
theorem aHy  (h:QS src tb tc ts g R w0 w s N) (k1:bM ts 1 s=true) (hn:s.nodes.length+N.n<=1000000):
  Calls prog 222 #[(g,())] w λe w'=>∃x:Nat,e = .returned x∧x=s.nodes.length∧QS src tb tc ts g R w0 w' (bR 1 (bJ src.data.toList ts s) (aNt (bI ts s).text) [] [] (pGo s)).2 N:=by
 have S0:=hD h;have K1:=hD k1;have H0:=hD (aW k1).1;have HN:=hD hn;have HO:=hD (h.ok.lQ h.toks (aW k1).2 (by decide));have hmem:bI ts s∈ts:=by
  unfold bI;rw[List.getD,gE h.ok.room];exact List.getElem_mem _
 obtain⟨z0,z1,z2⟩:=h.toks.nums _ hmem (aW k1).2;have HQ:=hD (aKm z0 z1 z2);have HSZ:=hD (show (bs (bI ts s).text).size<=9223372036854775806 from by
  have h9:=h.toks.short _ hmem
  show (bI ts s).text.toArray.size<=_
  rw[List.size_toArray];omega)
 clear h k1 hn z0 z1 z2 hmem;go_enter func222,ntmps222;go_wp2_with fail
 refine S0.o.line.mono ?_;rintro e w1 ⟨y,rfl,hy,h1⟩;have S1:=hD h1;have HY:=hD (hy H0);clear h1 hy;go_wp2_with fail
 refine S1.o.next.mono ?_;rintro e w2 ⟨t,rfl,ht,h2⟩;have hte:=ht H0.o;subst hte;have S2:=hD h2;clear h2 ht;unfold pW;go_wp2_with fail
 have S3:=hD (S2.o.alloc (.cells #[(bI ts s).kind,bs (bI ts s).text,(bI ts s).place] 115));have Z3:=hD S3.o.here;generalize w2.alloc (.cells #[(bI ts s).kind,bs (bI ts s).text,(bI ts s).place] 115)=w3 at *;generalize w2.heap.size=B at *;refine stepM (Z3.o.kind 1 K1) λw4 Z4=>?_;go_wp2_with fail
 refine stepM (Z4.o.take H0 HO) λw5 Z5=>?_;unfold pW;have ff:=tf1;go_wp2_with (go_at_call 232;go_must (refine stepM (strconv_Atoi_ok _ HSZ _ (by exact HQ) _) λw6 hw=>?_;have F4:=hD (Fr.bytes _ hw);have Z6:=hD (Z5.o.no F4);clear hw))
 refine eF (Z6.o.number 1 (aNt (bI ts s).text) rfl rfl y (bJ src.data.toList ts s) (λ_=>HY.o) HN) λx w7 HX S7=>?_;go_wp2
 go_ret;exact⟨x,rfl,HX H0,S3.o.back S7⟩
end
theorem qN {k:Nat} (h0:s.e=0) (h:(bI ts s).kind=k):bM ts k s=true:=by unfold bM;simp[h0,h]
theorem bG {k:Nat} (h:(bI ts s).kind≠k):bM ts k s=false:=by unfold bM;simp[h]
theorem sF (k:Nat) (h:s.e≠0):bM ts k s=false:=by unfold bM;simp[h]
theorem oZ (x:List UInt8) (h:s.e≠0):pIs ts x s=false:=by unfold pIs;simp[h]
theorem aIq (k:Nat) (h:s.e≠0):aR ts k s=s:=by unfold aR;rw[if_neg h]
theorem qO:(aR ts 20 s).e≠0:=by
 unfold aR;split
 . exact (by decide:(20:Nat)≠0)
 . assumption
theorem aEm (hG:fM src tb tc ts g n (.chain 0) 162 #[(g,())]):
   fM src tb tc ts g (n+1) .atom 222 #[(g,())]:=by
 intro R w0 w s r N h hr hn;simp only[run] at hr;by_cases he:s.e≠0
 . rw[if_pos he] at hr
   simp only[aA0] at hr;subst hr;refine (oQ (r:=([],s)) hG h (sF 1 he) (sF 2 he) (sF 3 he) (oZ _ he) (oZ _ he) (oZ _ he) (λe=>by rw[oZ _ he] at e;cases e) (λe=>by rw[oZ _ he] at e;cases e)).mono ?_;rintro e w' ⟨x,rfl,hA,_⟩;obtain⟨_,hq⟩:=hA (oZ _ he);rw[aIq _ he] at hq;rw[if_neg he];exact⟨x,rfl,λe=>absurd e he,hq.more (by omega)⟩
 . have e0:s.e=0:=by omega
   rw[if_neg he] at hr;rw[if_pos e0];have h':=h.zero e0 0;by_cases k1:(bI ts s).kind=1
   . rw[if_pos k1] at hr
     simp only[aA0] at hr;subst hr;have hn2:s.nodes.length+1+N.n+10*(n+1)+10<=1000000:=by simpa[bR,pGo] using hn
     refine (aHy h' (qN e0 k1) (by show s.nodes.length+0<=1000000;omega)).mono ?_;rintro e w' ⟨x,rfl,hx,hq⟩;exact⟨x,rfl,λ_=>hx,hq.more (aA4 _)⟩
   . rw[if_neg k1] at hr
     by_cases k2:(bI ts s).kind=2
     . rw[if_pos k2] at hr
       simp only[aA0] at hr;subst hr;have hn2:s.nodes.length+1+N.n+10*(n+1)+10<=1000000:=by simpa[bR,pGo] using hn
       refine (aEk h' (bG k1) (qN e0 k2) (by show s.nodes.length+0<=1000000;omega)).mono ?_;rintro e w' ⟨x,rfl,hx,hq⟩;exact⟨x,rfl,λ_=>hx,hq.more (aA4 _)⟩
     . rw[if_neg k2] at hr
       by_cases k3:(bI ts s).kind=3
       . rw[if_pos k3] at hr
         by_cases hm:pIs ts [91] (pGo s)=true
         . rw[if_pos hm] at hr
           simp only[mS] at hr;obtain⟨q,hq,rfl⟩:=hr;have hn2:(pUp (aA ts [93] q.2)).nodes.length+1+N.n+10*(n+1)+10<=1000000:=by simpa[bR] using hn
           rw[fJ] at hn2;refine (aHx hG h' (bG k1) (bG k2) (qN e0 k3) hm hq (by omega)).mono ?_;rintro e w' ⟨x,rfl,hx,hq⟩;exact⟨x,rfl,λe=>hx e,hq.more (by show 10*n<=10*(n+1);omega)⟩
         . rw[if_neg hm] at hr
           simp only[aA0] at hr;subst hr;have hn2:s.nodes.length+1+N.n+10*(n+1)+10<=1000000:=by simpa[bR,pGo] using hn
           refine (aEl h' (bG k1) (bG k2) (qN e0 k3) (by simpa using hm) (by show s.nodes.length+0<=1000000;omega)).mono ?_;rintro e w' ⟨x,rfl,hx,hq⟩;exact⟨x,rfl,λ_=>hx,hq.more (aA4 _)⟩
       . rw[if_neg k3] at hr
         by_cases i1:pIs ts [116,114,117,101] s=true
         . rw[if_pos i1] at hr
           simp only[aA0] at hr;subst hr;have hn2:s.nodes.length+1+N.n+10*(n+1)+10<=1000000:=by simpa[bR,pGo] using hn
           refine (aEj h' (bG k1) (bG k2) (bG k3) i1 (by show s.nodes.length+0<=1000000;omega)).mono ?_;rintro e w' ⟨x,rfl,hx,hq⟩;exact⟨x,rfl,λ_=>hx,hq.more (aA4 _)⟩
         . rw[if_neg i1] at hr
           have i1':pIs ts [116,114,117,101] s=false:=by simpa using i1
           by_cases i2:pIs ts [102,97,108,115,101] s=true
           . rw[if_pos i2] at hr
             simp only[aA0] at hr;subst hr;have hn2:s.nodes.length+1+N.n+10*(n+1)+10<=1000000:=by simpa[bR,pGo] using hn
             refine (aAj h' (bG k1) (bG k2) (bG k3) i1' i2 (by show s.nodes.length+0<=1000000;omega)).mono ?_;rintro e w' ⟨x,rfl,hx,hq⟩;exact⟨x,rfl,λ_=>hx,hq.more (aA4 _)⟩
           . rw[if_neg i2] at hr
             have i2':pIs ts [102,97,108,115,101] s=false:=by simpa using i2
             by_cases i3:pIs ts [108,101,110] s=true
             . rw[if_pos i3] at hr
               by_cases hm:pIs ts [40] (pGo s)=true
               . rw[if_pos hm] at hr
                 simp only[mS] at hr;obtain⟨q,hq,rfl⟩:=hr;have hn2:(pUp (aA ts [41] q.2)).nodes.length+1+N.n+10*(n+1)+10<=1000000:=by simpa[bR] using hn
                 rw[fJ] at hn2;refine (aHz hG h' (bG k1) (bG k2) (bG k3) i1' i2' i3 hm hq (by omega)).mono ?_;rintro e w' ⟨x,rfl,hx,hq⟩;exact⟨x,rfl,λe=>hx e,hq.more (by show 10*n<=10*(n+1);omega)⟩
               . rw[if_neg hm] at hr
                 simp only[aA0] at hr;subst hr;have hl:(aR ts 20 (pGo s)).nodes.length=s.nodes.length:=by unfold aR pGo;split<;>rfl
                 have hn2:(aR ts 20 (pGo s)).nodes.length+N.n+10*(n+1)+10<=1000000:=hn;rw[hl] at hn2;refine (wB hG h' (bG k1) (bG k2) (bG k3) i1' i2' i3 (by simpa using hm) (by omega)).mono ?_;rintro e w' ⟨x,rfl,hq⟩;exact⟨x,rfl,λe=>absurd e qO,hq.more (by show 1<=10*(n+1);omega)⟩
             . rw[if_neg i3] at hr
               have i3':pIs ts [108,101,110] s=false:=by simpa using i3
               by_cases hm:pIs ts [40] s=true
               . rw[if_pos hm] at hr
                 simp only[mS] at hr;obtain⟨q,hq,rfl⟩:=hr;have hn2:(pUp (aA ts [41] q.2)).nodes.length+N.n+10*(n+1)+10<=1000000:=hn;rw[fJ] at hn2;refine (oQ (r:=q) hG h' (bG k1) (bG k2) (bG k3) i1' i2' i3' (λ_=>hq) (λ_=>by show q.2.nodes.length+0+10*n+10<=1000000;omega)).mono ?_;rintro e w' ⟨x,rfl,_,hB⟩;obtain⟨hx,hq⟩:=hB hm;exact⟨x,rfl,λe=>hx e,hq.more (by show 0+10*n<=10*(n+1);omega)⟩
               . rw[if_neg hm] at hr
                 simp only[aA0] at hr;subst hr;refine (oQ (r:=([],s)) hG h' (bG k1) (bG k2) (bG k3) i1' i2' i3' (λe=>absurd e hm) (λe=>absurd e hm)).mono ?_;rintro e w' ⟨x,rfl,hA,_⟩;obtain⟨_,hq⟩:=hA (by simpa using hm);exact⟨x,rfl,λe=>absurd e qO,hq.more (aA4 _)⟩
theorem aMs (zs:List ByteArray) (t:List UInt8):isIn zs t=zs.any λx=>isIn [x] t:=by
 rw[Bool.eq_iff_iff];simp only[isIn,decide_eq_true_eq,List.any_eq_true,List.mem_map,List.mem_singleton,List.map_cons,List.map_nil];exact⟨λ⟨a,h1,h2⟩=>⟨a,h1,h2.symm⟩,λ⟨a,h1,h2⟩=>⟨a,h1,h2.symm⟩⟩
theorem aPg (zs:List ByteArray) (q:PQ):qIs ts zs q=zs.any λx=>qIs ts [x] q:=by
 unfold qIs;rw[aMs];generalize (decide (q.e=0) && (decide ((kE ts q).kind=5) || decide ((kE ts q).kind=4)))=a;cases a
 . simp
 . simp
theorem QS.isL (h:QS src tb tc ts g R w0 w s N) (zs:List ByteArray){b:Nat} (hb:Blk w b 9 (zs.map Value.string).toArray) (hn:zs.length=n) (hn1:n<=1000){z:Bool} (hz:(zs.any λx=>pIs ts x.data.toList s)=z):
  Calls prog 83 #[(g,()),(b,n,n)] w λe w'=>e = .returned z∧Fr nob w w':=by
 obtain⟨q,lvs,hq,hs⟩:=h.q;refine (aAf hq zs b n hb hn hn1).mono λe w' ⟨he,hf⟩=>⟨by rw[he,aPg,<-hz];congr 2;exact congrArg (λf=>zs.any f) (funext λx=>hs.isX x),hf⟩
theorem aLo:∀(lv:Nat),∀x∈dQ lv,x≠[]:=by
 intro lv x hx
 match lv,hx with
 | 0,hx=>simp[dQ] at hx;simp[hx]
 | 1,hx=>simp[dQ] at hx;simp[hx]
 | 2,hx=>simp[dQ] at hx;rcases hx with rfl|rfl|rfl|rfl<;>decide
 | 3,hx=>simp[dQ] at hx;rcases hx with rfl|rfl<;>decide
 | n+4,hx=>simp[dQ] at hx;rcases hx with rfl|rfl|rfl<;>decide
theorem aIn (lv:Nat) (s:PS):((dQ lv).any λx=>pIs ts x s)=decide (fQ ts lv s≠[]):=by
 unfold fQ;cases h:(dQ lv).find? λx=>pIs ts x s with
 | none=>
  rw[List.find?_eq_none] at h;have:((dQ lv).any λx=>pIs ts x s)=false:=by
   rw[List.any_eq_false];exact h
  rw[this];simp
 | some x=>
  have h1:=List.mem_of_find?_eq_some h;have h2:=List.find?_some h;have:((dQ lv).any λx=>pIs ts x s)=true:=List.any_eq_true.2 ⟨x,h1,h2⟩;rw[this];simp[aLo lv x h1]
theorem aEq (lv:Nat) (s:PS) (h:fQ ts lv s≠[]):s.e=0∧(bI ts s).text=fQ ts lv s:=by
 unfold fQ at h ⊢;cases hh:(dQ lv).find? λx=>pIs ts x s with
 | none=>rw[hh] at h;exact absurd rfl h
 | some x=>
  have h2:=List.find?_some hh;exact⟨(aM h2).1,(aM h2).2.2⟩
def gT:Nat->ByteArray
 | 0=>⟨#[124,124]⟩
 | 1=>⟨#[38,38]⟩
 | 2=>⟨#[60,32,60,61,32,61,61,32,33,61]⟩
 | 3=>⟨#[43,32,45]⟩
 | _=>⟨#[42,32,47,32,37]⟩
def kQ:List ByteArray:=[gT 0,gT 1,gT 2,gT 3,gT 4]
def pY:Nat->Nat
 | 0=>1
 | 1=>1
 | 2=>4
 | 3=>2
 | _=>3
def iA (lv:Nat):List ByteArray:=(dQ lv).map bs
theorem aDj (lv:Nat):(iA lv).length=pY lv:=by
 unfold iA
 match lv with
 | 0=>rfl
 | 1=>rfl
 | 2=>rfl
 | 3=>rfl
 | n+4=>rfl
theorem aDk (lv:Nat) (s:PS):((iA lv).any λx=>pIs ts x.data.toList s)=decide (fQ ts lv s≠[]):=by
 rw[<-aIn];unfold iA;rw[List.any_map];rfl
theorem aFm:Lib.countB ⟨#[124,124,44,38,38,44,60,32,60,61,32,61,61,32,33,61,44,43,32,45,44,42,32,47,32,37]⟩ ⟨#[44]⟩=4:=by kernel_rfl
theorem aDc:Lib.splitB ⟨#[44]⟩ 0 4 ⟨#[124,124,44,38,38,44,60,32,60,61,32,61,61,32,33,61,44,43,32,45,44,42,32,47,32,37]⟩=kQ:=by kernel_rfl
theorem xK (w0 w:World) (hv:Most w0 w):Calls prog 156 #[.string ⟨#[124,124,44,38,38,44,60,32,60,61,32,61,61,32,33,61,44,43,32,45,44,42,32,47,32,37]⟩,.string ⟨#[44]⟩] w λe w'=>
  e = .returned (w.heap.size,5,5)∧w'=w.alloc (.cells (kQ.map Value.string).toArray 9):=by
 obtain⟨_,m,hm⟩:=hv;refine mR (strings_Split _ _ m w (by decide) (by rw[hm.cell 0];rfl) (by decide)) ?_;rw[aFm,aDc];exact⟨rfl,rfl⟩
theorem aFs:Lib.countB (gT 0) ⟨#[32]⟩=0:=by kernel_rfl
theorem aFr:Lib.countB (gT 1) ⟨#[32]⟩=0:=by kernel_rfl
theorem aFq:Lib.countB (gT 2) ⟨#[32]⟩=3:=by kernel_rfl
theorem aFp:Lib.countB (gT 3) ⟨#[32]⟩=1:=by kernel_rfl
theorem aFo:Lib.countB (gT 4) ⟨#[32]⟩=2:=by kernel_rfl
theorem aDh:Lib.splitB ⟨#[32]⟩ 0 0 (gT 0)=iA 0:=by kernel_rfl
theorem aDg:Lib.splitB ⟨#[32]⟩ 0 0 (gT 1)=iA 1:=by kernel_rfl
theorem aDf:Lib.splitB ⟨#[32]⟩ 0 3 (gT 2)=iA 2:=by kernel_rfl
theorem aDe:Lib.splitB ⟨#[32]⟩ 0 1 (gT 3)=iA 3:=by kernel_rfl
theorem aDd:Lib.splitB ⟨#[32]⟩ 0 2 (gT 4)=iA 4:=by kernel_rfl
theorem zR (lv:Nat) (hlv:lv<=4) (w0 w:World) (hv:Most w0 w):Calls prog 156 #[gT lv,.string ⟨#[32]⟩] w λe w'=>
  e = .returned (w.heap.size,pY lv,pY lv)∧w'=w.alloc (.cells ((iA lv).map Value.string).toArray 9):=by
 obtain⟨_,m,hm⟩:=hv
 match lv,hlv with
 | 0,_=>
  refine mR (strings_Split _ _ m w (by decide) (by rw[hm.cell 0];rfl) (by decide)) ?_;rw[aFs,aDh];exact⟨rfl,rfl⟩
 | 1,_=>
  refine mR (strings_Split _ _ m w (by decide) (by rw[hm.cell 0];rfl) (by decide)) ?_;rw[aFr,aDg];exact⟨rfl,rfl⟩
 | 2,_=>
  refine mR (strings_Split _ _ m w (by decide) (by rw[hm.cell 0];rfl) (by decide)) ?_;rw[aFq,aDf];exact⟨rfl,rfl⟩
 | 3,_=>
  refine mR (strings_Split _ _ m w (by decide) (by rw[hm.cell 0];rfl) (by decide)) ?_;rw[aFp,aDe];exact⟨rfl,rfl⟩
 | 4,_=>
  refine mR (strings_Split _ _ m w (by decide) (by rw[hm.cell 0];rfl) (by decide)) ?_;rw[aFo,aDd];exact⟨rfl,rfl⟩
 | n+5,h=>omega
structure QEx (src:ByteArray) (tb tc:Nat) (ts:List Tok) (g n:Nat):Prop where
 atom:fM src tb tc ts g n .atom 222 #[(g,())]
 factor:fM src tb tc ts g n .factor 202 #[(g,())]
 chain:∀(lv:Nat) (z:Int),((lv:Nat):Int)=z->lv<=5->fM src tb tc ts g n (.chain lv) 186 #[(g,()),z]
 expr:fM src tb tc ts g n (.chain 0) 162 #[(g,())]
theorem aAr {B:Nat} (h:Blk w B 9 (kQ.map Value.string).toArray) (lv:Nat) (hl:lv<=4):w.cell? (B,lv)=(gT lv):=by
 rw[h.cell lv]
 match lv,hl with
 | 0,_=>rfl
 | 1,_=>rfl
 | 2,_=>rfl
 | 3,_=>rfl
 | 4,_=>rfl
 | n+5,h=>omega
theorem aAg (ih:∀m,m<=n->QEx src tb tc ts g m) (lv:Nat) (z:Int) (hz:((lv:Nat):Int)=z) (hlv:lv<=5):fM src tb tc ts g (n+1) (.chain lv) 186 #[(g,()),z]:=by
 subst hz;intro R w0 w s r N h hr hn;have IH:=hD (ih n (aA1 n));have S0:=hD h;obtain⟨cg,hcg⟩:=h.tZ;have GB:=hD (show w.heap.size≠g from λe=>by have:=hcg.lt;omega);obtain⟨W1,hW1⟩:∃W1,W1=w.alloc (.cells (kQ.map Value.string).toArray 9):=⟨_,rfl⟩;have A0:=hD (show Fr nob w W1 from by rw[hW1];exact (fR w).alloc _);have B0:=hD (show Blk W1 w.heap.size 9 (kQ.map Value.string).toArray from by rw[hW1];exact Blk.new w _ _);have S1:=hD (S0.o.no A0).here;have HSP:=hD (xK w0 w h.most);rw[<-hW1] at HSP;simp only[run] at hr;obtain⟨M,hM⟩:∃M,M=(if s.e=0 then 10*(n+1) else N.n+2):=⟨_,rfl⟩;rw[<-hM];have HM0:=hD (show s.e=0->M=10*(n+1) from λe=>by rw[hM,if_pos e]);have HM1:=hD (show (if s.e=0 then 10*n else N.n+2)<=M from by rw[hM];split<;>omega);clear hM hcg h hW1;by_cases h5:lv=5
 . subst h5
   rw[if_pos rfl] at hr;have HQ:=hD ((IH.o.factor R W1 W1 s r N S1 hr (by omega)));obtain⟨M2,hM2⟩:∃M2,M2=(if s.e=0 then 10*n else N.n+2):=⟨_,rfl⟩;rw[<-hM2] at HM1 HQ;clear ih hn hr hM2;go_enter func186,ntmps186;go_wp2_with fail
   refine HSP.o.mono ?_;rintro e w1 ⟨rfl,hw1⟩;have hw1':=hw1.symm;subst hw1';clear hw1;go_wp2_with fail
   refine HQ.o.mono ?_;rintro e w2 ⟨x,rfl,hx,h2⟩;have S2:=hD h2;have HX:=hD hx;clear h2 hx;go_wp2
   go_ret;exact⟨x,rfl,HX,(S0.o.no A0).back (S2.o.more HM1)⟩
 . rw[if_neg h5] at hr
   have lv4:lv<=4:=by omega
   have l0:((lv:Int)==5)=false:=bN.2 (by omega);have l1:(lv:Int)<5:=by omega
   simp only[bS] at hr;obtain⟨q,hq,hm⟩:=hr;have HLE:=hD (aV (aK _ _ _ _ hm));have HN:=hD hn;have HQX:=hD (aK _ _ _ _ hq).e0;have HQ:=hD hq;have HMR:=hD hm;have HL:=hD lv4;have HI:=hD ih;obtain⟨line,hline⟩:∃line,bJ src.data.toList ts s=line:=⟨_,rfl⟩;rw[hline] at HMR;have HLN:=hD hline;obtain⟨M2,hM2⟩:∃M2,M2=(if s.e=0 then 10*n else N.n+2):=⟨_,rfl⟩;have HCH:=hD (show ∀w1,QS src tb tc ts g R W1 w1 s N->Calls prog 186 #[(g,()),((lv:Int)+1:Int)] w1 λe w'=>∃x:Nat,e = .returned x∧(q.2.e=0->x=oneOf q.1)∧QS src tb tc ts g R W1 w' q.2 ⟨M,N.d⟩ from λw1 h1=>by
    refine (IH.o.chain (lv+1) ((lv:Int)+1) rfl (by omega) R W1 w1 s q N h1 hq (by have:=HLE.o;omega)).mono ?_;rintro e w' ⟨x,he,hx,hs⟩;exact⟨x,he,hx,hs.more HM1⟩)
   rw[<-hM2] at HM1;clear ih hn hq hm hlv h5 lv4 hline hM2;go_enter func186,ntmps186;go_wp2_with fail
   refine HSP.o.mono ?_;rintro e w1 ⟨rfl,hw1⟩;have hw1':=hw1.symm;subst hw1';clear hw1;go_wp2_with fail
   refine S1.o.line.mono ?_;rintro e w2 ⟨y,rfl,hy,h2⟩;have S2:=hD h2;have HY:=hD (show s.e=0->y=line from λe=>by rw[hy e];exact HLN);clear h2 hy;go_wp2_with fail
   refine eF (HCH _ S2) λx0 w3 HX S3=>?_;go_wp2
   go_loopg [7] n (λk x wr=>∃(xv xm:Nat) (s':PS),x = .int .i64 (xv:Nat)∧Hd (k<=n)∧Hd (QS src tb tc ts g R W1 wr s' ⟨M,N.d⟩)∧Hd (run src.data.toList ts k (.more lv line xm) s'=some r)∧Hd (s'.e=0->xv=xm∧s.e=0))
   case atStart=>exact⟨x0,oneOf q.1,q.2,rfl,hD (aA1 n),S3,HMR,hD (λe=>⟨HX e,HQX e⟩)⟩
   case round=>
    obtain⟨xv,xm,s',rfl,HK,S4,HR,HE⟩:=hrel;clear S2 S3 HX HQ HMR HCH HLE HQX;have hr:=HR.o;cases gk with
    | zero=>simp[run] at hr
    | succ k=>
     simp only[run] at hr;have B4:=hD (S4.o.fr.blk B0 GB (by decide));have D4:=hD (S4.o.no (fR wr).drew);have CK:=hD (show ∀wx:World,Blk wx w.heap.size 9 (kQ.map Value.string).toArray->wx.cell? (w.heap.size,lv)=(gT lv) from λwx h=>aAr h lv HL);have SP:=hD (zR lv HL W1 wr.drew D4.o.most);have hsn:pY lv<=1000:=by unfold pY;split<;>omega
     have HIS:=hD (show ∀z:Bool,decide (fQ ts lv s'≠[])=z->Calls prog 83 #[(g,()),(wr.drew.heap.size,pY lv,pY lv)] (wr.drew.alloc (.cells ((iA lv).map Value.string).toArray 9)) λe w'=>e = .returned z∧Fr nob (wr.drew.alloc (.cells ((iA lv).map Value.string).toArray 9)) w' from λz hz=>by
       exact (D4.o.alloc (.cells ((iA lv).map Value.string).toArray 9)).isL (iA lv) (Blk.new wr.drew _ _) (aDj lv) hsn (by rw[aDk];exact hz))
     have KK:=hD (CK (wr.drew.alloc (.cells ((iA lv).map Value.string).toArray 9)) ((show Blk wr.drew w.heap.size 9 (kQ.map Value.string).toArray from B4).alloc _));have BK:=hD (show Blk (wr.drew.alloc (.cells ((iA lv).map Value.string).toArray 9)) w.heap.size 9 (kQ.map Value.string).toArray from (show Blk wr.drew w.heap.size 9 (kQ.map Value.string).toArray from B4).alloc _);have DA:=hD (D4.o.alloc (.cells ((iA lv).map Value.string).toArray 9));have k0:=CK.o _ B4.o;have hwd:wr.drew.heap.size=wr.heap.size:=rfl;generalize gT lv=TX at *;generalize pY lv=SN at *;generalize ((iA lv).map Value.string).toArray=SA at *;clear hsn HR;by_cases hp:fQ ts lv s'=[]
     . rw[if_pos hp] at hr
       simp only[aA0] at hr;subst hr;have IS:=hD (HIS false (by rw[hp];simp));clear hp HIS;go_wp2_with fail
       go_region_held3 (λwx=>wx.cell? (w.heap.size,lv)=TX) (first|exact K2.o|exact KK.o|go_keep)
         (first
           | (go_at_call 156;go_loud (refine SP.o.mono ?_);go_loud (rintro e w5 ⟨rfl,rfl⟩))
           | (go_at_call 83;go_loud (refine IS.o.mono ?_);go_loud (rintro e w6 ⟨rfl,hf⟩);have S6:=hD (DA.o.no hf);have K2:=hD (CK _ (BK.o.fr hf (λx=>x)));clear hf))
       go_wp2
       go_ret;exact⟨xv,rfl,λe=>(HE e).1,(S0.o.no A0).back S6⟩
     . rw[if_neg hp] at hr
       obtain⟨h0,htx⟩:=aEq lv s' hp;obtain⟨hxm,hse⟩:=HE.o h0;subst hxm;have hM:=HM0.o hse;have hy:=HY.o hse;subst hy;simp only[bS] at hr;obtain⟨u,hu,hr⟩:=hr;have IS:=hD (HIS true (by simp[hp]));have HO:=hD (S4.o.ok.vC S4.o.toks hp);have IK:=hD (HI k (by have:=HK.o;omega));have H0:=hD h0;have HTX:=hD htx;have HM:=hD hM;have hle:u.2.nodes.length<=r.2.nodes.length:=by
         by_cases h2:lv=2
         . rw[if_pos h2] at hr
           simp only[aA0] at hr;subst hr;simp[bR]
         . rw[if_neg h2] at hr
           have:=aV (aK _ _ _ _ hr);simp[bR] at this
           omega
       have hN:=HN.o;have HB:=hD (show u.2.nodes.length+10*k<=1000000 by have:=HK.o;omega);have HCH:=hD (show ∀w1,QS src tb tc ts g R W1 w1 (pGo s') ⟨M,N.d⟩->Calls prog 186 #[(g,()),((lv:Int)+1:Int)] w1 λe w'=>∃x:Nat,e = .returned x∧(u.2.e=0->x=oneOf u.1)∧QS src tb tc ts g R W1 w' u.2 ⟨10*k,N.d⟩ from λw1 h1=>by
         refine (IK.o.chain (lv+1) ((lv:Int)+1) rfl (by have:=HL.o;omega) R W1 w1 (pGo s') u ⟨0,N.d⟩ (h1.zero H0 0) hu (by have:=HK.o;show u.2.nodes.length+0+10*k+10<=1000000;omega)).mono ?_;rintro e w' ⟨x,he,hx,hs⟩;rw[if_pos (show (pGo s').e=0 from H0.o)] at hs;exact⟨x,he,hx,hs⟩)
       have HR:=hD hr;clear hp HIS hr hu hse hM h0 htx hle hN HN HY HLN;go_wp2_with fail
       go_region_held3 (λwx=>wx.cell? (w.heap.size,lv)=TX) (first|exact K2.o|exact KK.o|go_keep)
         (first
           | (go_at_call 156;go_loud (refine SP.o.mono ?_);go_loud (rintro e w5 ⟨rfl,rfl⟩))
           | (go_at_call 83;go_loud (refine IS.o.mono ?_);go_loud (rintro e w6 ⟨rfl,hf⟩);have S6:=hD (DA.o.no hf);have K2:=hD (CK _ (BK.o.fr hf (λx=>x)));clear hf))
       go_wp2_with fail
       refine stepM (S6.o.take H0 HO) λw7 S7=>?_;unfold pW;have ff:=tf1;go_wp2_with fail
       refine eF (HCH _ S7) λx8 w8 HX S8=>?_;go_wp2_with fail
       refine eF (S8.o.aOe xv x8 rfl 9 rfl y y (λ_=>rfl) (name:=(bI ts s').text) rfl (l:=[xv,oneOf u.1]) (λe=>by rw[HX.o e]) HB) λx9 w9 HX9 S9=>?_;by_cases h2:lv=2
       . have l2:((lv:Int)==2)=true:=by rw[h2];rfl
         have hr:=HR.o;rw[if_pos h2,<-HTX.o] at hr;simp only[aA0] at hr;subst hr;clear h2 HR HCH IK HI;go_wp2
         go_ret;exact⟨x9,rfl,λe=>HX9.o e,(S0.o.no A0).back (S9.o.more (by have:=HM.o;have:=HK.o;show 10*k<=M;omega))⟩
       . have l2:((lv:Int)==2)=false:=bN.2 (by omega)
         have hr:=HR.o;rw[if_neg h2,<-HTX.o] at hr;have HR2:=hD hr;clear h2 HR HCH IK HI hr;go_wp2
         go_roundg k
         case measure=>omega
         case rel=>exact⟨x9,u.2.nodes.length,(bR 9 y 0 (bI ts s').text [xv,oneOf u.1] u.2).2,rfl,hD (by have:=HK.o;omega),S9.o.more (by have:=HM.o;have:=HK.o;show 10*k<=M;omega),HR2,hD (λe=>⟨HX9 e,(HE H0).2⟩)⟩
theorem oP (src:ByteArray) (tb tc:Nat) (ts:List Tok) (g:Nat):∀n,QEx src tb tc ts g n:=by
 intro n;induction n using Nat.strongRecOn with
 | _ n ih=>
  have hc:∀(lv:Nat) (z:Int),((lv:Nat):Int)=z->lv<=5->fM src tb tc ts g n (.chain lv) 186 #[(g,()),z]:=by
   cases n with
   | zero=>exact λ_ _ _ _=>fM.zero _ _ _
   | succ n=>exact aAg (λm hm=>ih m (by omega))
  cases n with
  | zero=>exact⟨fM.zero _ _ _,fM.zero _ _ _,hc,fM.zero _ _ _⟩
  | succ n=>
   have h1:=ih n (by omega);exact⟨aEm h1.expr,xW ⟨h1.factor,h1.atom⟩,hc,aEf hc⟩
theorem yR:Enters prog 203:=enters_of func203 (by kernel_rfl) rfl
theorem aKi 
  (h:QRw src tb tc ts g R bl w0 w s N v l) (h0:s.e=0) (hb0:Blk w b0 78 #[(g,())]) (hr:run src.data.toList ts n (.chain 0) s=some r) (hn:r.2.nodes.length+10*n+10<=1000000) (hl:l.length<=1000):
  Calls prog 203 #[(bl,()),(b0,())] w λe w'=>e = .returned (.tuple #[])∧∃(v':Value) (x:Nat),QRw src tb tc ts g R bl w0 w' r.2 ⟨10*n,N.d⟩ v' (l++[x])∧(r.2.e=0->x=oneOf r.1)∧Blk w' b0 78 #[(g,())]:=by
 have H:=hD h;have HB:=hD hb0;have HL:=hD hl;obtain⟨cg,hcg⟩:=h.q.tZ;have GB:Hd (b0≠g):=hb0.ne hcg (by decide);have HX:=(oP src tb tc ts g n).expr (RV R v) w w.drew s r ⟨0,N.d⟩ ((h.q.here.zero h0 0).no (fR w).drew) hr (by omega);rw[if_pos h0] at HX;have HX:=hD HX;obtain⟨A1,c1,hv,hc1,hc2⟩:=h.own.cap;obtain⟨m,hm⟩:∃m,l.length=m:=⟨_,rfl⟩;rw[hm] at hv HL;subst hv;have HMM:=hD hm;have k0:w.cell? (bl,0)=some (.slice A1 m c1):=by rw[h.cell.cell 0];rfl
 have k1:w.cell? (b0,0)=(g,()):=by rw[hb0.cell 0];rfl
 have CK:=hD (show ∀wx:World,Blk wx bl 27 #[.slice A1 m c1]->Blk wx b0 78 #[(g,())]->wx.cell? (bl,0)=some (.slice A1 m c1)∧wx.cell? (b0,0)=(g,()) from λwx h1 h2=>⟨by rw[h1.cell 0];rfl,by rw[h2.cell 0];rfl⟩);clear h h0 hb0 hr hn hl hcg hm;go_enter func203,ntmps203;go_wp2_with fail
 go_region_law (first
    | (go_simp;go_at_call 162;go_loud (refine HX.o.mono ?_);go_loud (rintro e w2 ⟨x,rfl,hx,h2⟩);go_loud (have HE:=hD hx);go_loud (have S2:=hD (H.o.to h2));go_loud (have B2:=hD (h2.fr.blk HB GB (by decide)));go_loud (have K2:=hD (CK _ S2.o.cell B2));go_loud (have K3:=hD (CK _ (S2.o.cell.alloc (.cells #[(x:Int)] 3)) (B2.o.alloc (.cells #[(x:Int)] 3))));have k2:=K2.o.1;have k3:=K3.o.1;have k4:=K2.o.2;clear hx h2)
    | (refine step_append (v:= .slice A1 m c1) (n:=m) (m:=1) (xs:=ints l) (news:=[x]) (by rfl) _ _ (by rfl) gW (by rfl) (by rfl) (by have h9:=S2.o.own;rw[HMM.o] at h9;exact h9.alloc _) (Rd.eZ (n:=1) (cs:=[x]) (Blk.new _ _ _) rfl (by decide)) (by simp[Value.oneCell']) (by have h9:=HL.o;first|omega|(unfold maxLen;omega)) (by have h9:=HL.o;first|omega|(unfold maxLen;omega)) ?_;intro A5 c5 w5 ho5 hf5 hv5;go_loud (have HQ5:=hD (S2.o.app (o:= .cells #[(x:Int)] 3) (kM (x:=x) (l:=l) (by rw[HMM.o];exact ho5)) hf5 hv5));go_loud (have D5:=hD ((S2.o.cell.alloc (.cells #[(x:Int)] 3)).fr hf5 (λhm=>(S2.o.own.alloc (.cells #[(x:Int)] 3)).aD (S2.o.cell.alloc (.cells #[(x:Int)] 3)) (by decide) hm)));go_loud (have E5:=hD ((B2.o.alloc (.cells #[(x:Int)] 3)).fr hf5 (λhm=>(S2.o.own.alloc (.cells #[(x:Int)] 3)).aD (B2.o.alloc (.cells #[(x:Int)] 3)) (by decide) hm)));go_loud (have K5:=hD (CK _ D5 E5));have z0:=K5.o.1;have z1:=D5.o.frozen 0;clear ho5 hf5 hv5))
 all_goals
  go_wp2
  refine fK rfl rfl ⟨rfl,_,x,HQ5,HE,E5.o.far (p:=(bl,())) (λe=>E5.o.ne D5 (by decide) e) _⟩
section
variable (src:ByteArray) (tb tc:Nat) (ts:List Tok) (g:Nat)
def aCv (n:Nat) (k:Task) (F:FuncId) (args:Array Value):Prop:=
 ∀(R:Nat->Prop) (w0 w:World) (s:PS) (r:List Nat×PS) (N:Lim),QS src tb tc ts g R w0 w s N->s.e=0->run src.data.toList ts n k s=some r->r.2.nodes.length+10*n+10<=1000000 ->
  Calls prog F args w λe w'=>∃x:Nat,e = .returned x∧(r.2.e=0->x=oneOf r.1)∧QS src tb tc ts g R w0 w' r.2 ⟨10*n,N.d⟩
end
def uX (src:List UInt8) (ts:List Tok) (k:Nat) (l:List Nat) (s:PS):Option (List Nat×PS):=(run src ts k (.chain 0) s).map λr=>(l++r.1,r.2)
theorem xQ (src:List UInt8) (ts:List Tok):∀(k:Nat) (l:List Nat) (s:PS),aHl ts (uX src ts) k l s=run src ts k (.args l) s
 | 0,_,_=>rfl
 | k+1,l,s=>by
  simp only[aHl,run,uX];cases h:run src ts k (.chain 0) s with
  | none=>rfl
  | some r=>
   simp only[Option.map_some,Option.bind_some];split
   . exact xQ src ts k _ _
   . rfl
def aRv (src:ByteArray) (tb tc:Nat) (ts:List Tok) (g:Nat) (R:Nat->Prop) (bl b0:Nat) (w0:World) (N:Lim) (w:World) (s:PS) (l:List Nat):Prop:=
 ∃v l',QRw src tb tc ts g R bl w0 w s N v l'∧l'.length=l.length∧(s.e=0->l'=l)∧Blk w b0 78 #[(g,())]
theorem aKh (src:ByteArray) (tb tc:Nat) (ts:List Tok) (g:Nat) (R:Nat->Prop) (bl b0:Nat) (w0:World) (N:Lim):aNw src tb tc ts g (aRv src tb tc ts g R bl b0 w0 N):=by
 intro w s a h;obtain⟨v,l',hq,h1,h2,hb⟩:=h;refine⟨RV R v,N,hq.q.here,λw' s' he h'=>⟨v,l',hq.to h',h1,λe=>h2 (he e),?_⟩⟩;obtain⟨cg,hcg⟩:=hq.q.tZ;exact h'.fr.blk hb (hb.ne hcg (by decide)) (by decide)
theorem aAn {src:List UInt8} (k:Nat) (a:List Nat) (s:PS) (r:List Nat×PS) (h:uX src ts k a s=some r):s.nodes.length<=r.2.nodes.length∧s.i<=r.2.i∧r.1.length=a.length+1:=by
 unfold uX at h;simp only[mS] at h;obtain⟨q,hq,rfl⟩:=h;have hx:=aK _ _ _ _ hq;refine⟨aV hx,hx.i,?_⟩;have h1:=aJ _ _ _ _ hq trivial
 show (a++q.1).length=_
 rw[h1];simp
theorem aBf {d:Nat}{s2:PS}
   (h:QS src tb tc ts g R w0 w s ⟨10*n,d⟩) (hc:Blk w bl 27 #[Un]) (hbl:w0.heap.size<=bl) (hb0:Blk w b0 78 #[(g,())])
   (hs2:aA ts [40] s=s2) (hr:(if pIs ts [41] s2=false∧s2.e=0 then run src.data.toList ts n (.args []) s2 else some ([],s2))=some r) (hL:r.2.nodes.length+10*n+10<=1000000):
   Calls prog 80 #[(g,()),.func (.func 203) #[] #[(bl,()),(b0,())]] w λe w'=>e = .returned (.tuple #[])∧aRv src tb tc ts g R bl b0 w0 ⟨10*n,d⟩ w' (aA ts [41] r.2) r.1:=by
 refine aHk (one:=uX src.data.toList ts) (len:=List.length) (n:=n) (L:=r.2.nodes.length) (aKh src tb tc ts g R bl b0 w0 ⟨10*n,d⟩) yR aAn ?_ (a:=[]) (s:=s) (s2:=s2) ?_ rfl hs2 ?_ (aA1 _)
 . intro k w s a u hk hI he hl hu hul
   obtain⟨v,l',hq,h1,h2,hb⟩:=hI;have hl':=h2 he;subst hl';unfold uX at hu;simp only[mS] at hu;obtain⟨q,hq2,rfl⟩:=hu;refine (aKi hq he hb hq2 (by have:q.2.nodes.length<=r.2.nodes.length:=hul;omega) hl).mono ?_;rintro e w' ⟨rfl,v',x,h3,h4,h5⟩;have hq1:=aJ _ _ _ _ hq2 trivial;refine⟨rfl,v',l'++[x],⟨h3.q.more (by show 10*k<=10*n;omega),h3.cell,h3.own,h3.nr,h3.nw,h3.bnew⟩,?_,λe=>?_,h5⟩
   . show (l'++[x]).length=(l'++q.1).length
     rw[hq1];simp
   . show l'++[x]=l'++q.1
     rw[hq1,h4 e]
 . exact⟨Un,[],QRw.start h hc hbl,rfl,λ_=>rfl,hb0⟩
 . split
   . rename_i hh
     rw[xQ,<-hr,if_pos hh]
   . rename_i hh
     rw[<-hr,if_neg hh]
theorem aEh (src:ByteArray) (tb tc:Nat) (ts:List Tok) (g n:Nat):aCv src tb tc ts g (n+1) .call 188 #[(g,())]:=by
 intro R w0 w s r N h h0 hr hn;have S0:=hD h;obtain⟨cg,hcg⟩:=h.tZ;have hgl:g<w.heap.size:=hcg.lt;have GL:=hD hgl;have A0:Hd (Fr nob w (w.alloc (.cells #[(g,())] 78))):=(fR w).alloc _;have B0:=hD (Blk.new w 78 #[(g,())]);obtain⟨W1,hW1⟩:∃W1,W1=w.alloc (.cells #[(g,())] 78):=⟨_,rfl⟩;rw[<-hW1] at A0 B0;have hsz:W1.heap.size=w.heap.size+1:=by rw[hW1];simp
 have S1:=hD ((S0.o.no A0).here.zero h0 (10*n));have x0:W1.cell? (w.heap.size,0)=(g,()):=by rw[B0.o.cell 0];rfl
 have HW:=hD hW1;simp only[run,mS] at hr;obtain⟨q,hq,rfl⟩:=hr;obtain⟨s2,hs2⟩:∃s2,aA ts [40] (aI ts s)=s2:=⟨_,rfl⟩;rw[hs2] at hq;have HQ:=hD hq;have HS2:=hD hs2;have hn2:(aA ts [41] q.2).nodes.length+1+10*(n+1)+10<=1000000:=by simpa[bR] using hn
 have hqn:=aV ((Ext.refl q.2).must (ts:=ts) [41]);have HN:=hD (show q.2.nodes.length+10*n+10<=1000000 by omega);have HN2:=hD (show (aA ts [41] q.2).nodes.length+10*n<=1000000 by omega);obtain⟨line,hline⟩:∃line,bJ src.data.toList ts s=line:=⟨_,rfl⟩;have HLN:=hD hline;obtain⟨NM,hname⟩:∃NM,bs (dZ ts s)=NM:=⟨_,rfl⟩;have HNM:=hD hname;rw[hline];have H0:=hD h0;have CK:=hD (show ∀wx:World,FrR g W1 wx->wx.cell? (w.heap.size,0)=(g,()) from λwx f=>by rw[(f.blk B0.o (λe=>by have:=GL.o;omega) (by decide)).cell 0];rfl);clear h hcg hgl hsz hq hs2 hn hn2 hqn hline hname h0 hW1;go_enter func188,ntmps188;go_wp2_with fail
 rw[<-HW.o];have HLN1:=hD (S1.o.no (fR W1).drew).line;go_region_held3 (λwx=>wx.cell? (w.heap.size,0)=(g,())) (first|exact K2.o|exact K3.o|go_keep)
  (first
    | (go_at_call 77;go_loud (refine HLN1.o.mono ?_);go_loud (rintro e w2 ⟨y,rfl,hy,h2⟩);go_loud (have HY:=hD hy);go_loud (have S2:=hD h2);go_loud (have K2:=hD (CK _ h2.fr));clear hy h2)
    | (go_at_call 79;go_loud (refine (S2.o.name HNM).mono ?_);go_loud (rintro e w3 ⟨rfl,h3⟩);go_loud (have S3:=hD h3);go_loud (have K3:=hD (CK _ h3.fr));clear h3))
 have L3:=hD S3.o.fr.size;have B3:=hD (S3.o.fr.blk B0 (λe=>by have:=GL.o;omega) (by decide));have S4:=hD (S3.o.alloc (.cells #[Un] 27));have B4:=hD (B3.o.alloc (.cells #[Un] 27));have C4:=hD (Blk.new w3 27 #[Un]);have x4:(w3.alloc (.cells #[Un] 27)).cell? (w.heap.size,0)=(g,()):=by rw[B4.o.cell 0];rfl
 have hmf:∀(fn:Fn) (first cap:Array Value) (w:World),(Instr.makeFunc fn first cap).run prog w = .ok (.func fn first cap) w:=λ_ _ _ _=>rfl
 have HR:=hD (aBf (w:=w3.alloc (.cells #[Un] 27)) (w0:=W1) S4 C4 L3 B4 HS2 HQ HN);go_wp2_with fail
 refine HR.o.mono ?_;rintro e w5 ⟨rfl,v,l',hq5,hl5,he5,hb5⟩;have Q5:=hD hq5;have HE5:=hD he5;obtain⟨A1,c1,hv,hc1,hc2⟩:=hq5.own.cap;generalize hm5:l'.length=m5 at *;subst hv;have x5:w5.cell? (w.heap.size,0)=(g,()):=by rw[hb5.cell 0];rfl
 have y5:w5.cell? (w3.heap.size,0)=some (.slice A1 m5 c1):=by rw[hq5.cell.cell 0];rfl
 have HM5:=hD hm5;have HP:=hD ((Q5.o.q.drop (R:=R) (λk hk=>Or.inl hk)).put 21 rfl y line (λe=>(HY H0).trans HLN) (name:=dZ ts s) HNM (A1:=A1) (M:=m5) (c1:=c1) (l:=q.1) (λe=>by have h1:=Q5.o.own;have h2:=HE5.o e;subst h2;rw[HM5.o] at h1 ⊢;exact h1) Q5.o.nr HN2);clear hq5 hl5 he5 hb5 hc1 hc2 hm5 x0 x4;go_wp2_with fail
 refine HP.o.mono ?_;rintro e w6 ⟨x6,rfl,hx,h6⟩;have S6:=hD h6;have HX:=hD hx;clear hx h6;go_wp2
 go_ret;exact⟨x6,rfl,λe=>HX.o e,(S0.o.no A0).back (S6.o.more (by show 10*n<=10*(n+1);omega))⟩
theorem xY (src:ByteArray) (tb tc:Nat) (ts:List Tok) (g n:Nat):aCv src tb tc ts g n .call 188 #[(g,())]:=by
 cases n with
 | zero=>
  intro R w0 w s r N h h0 hr hn;simp[run] at hr
 | succ n=>exact aEh src tb tc ts g n
section
variable {src:ByteArray}{tb tc:Nat}{ts:List Tok}{g n:Nat}{N:Lim}{R:Nat->Prop}{w0 w:World}{s:PS}{r:List Nat×PS}
theorem aHe {src:List UInt8}{ts:List Tok}{n:Nat}{s:PS}{r:List Nat×PS} (h:run src ts n k s=some r):1<=n:=by
 cases n with
 | zero=>simp[run] at h
 | succ n=>omega
theorem fM.at (h:fM src tb tc ts g n k F args) (hq:QS src tb tc ts g R w0 w s N) (hr:run src.data.toList ts n k s=some r) (hn:r.2.nodes.length+N.n+10*n+10<=1000000):
  Calls prog F args w λe w'=>∃x:Nat,e = .returned x∧(r.2.e=0->x=oneOf r.1)∧QS src tb tc ts g R w0 w' r.2 ⟨N.n+10*n,N.d⟩:=by
 refine (h R w0 w s r N hq hr hn).mono ?_;rintro e w' ⟨x,he,hx,hs⟩;have:=aHe hr;exact⟨x,he,hx,hs.more (by show (if s.e=0 then 10*n else N.n+2)<=N.n+10*n;split<;>omega)⟩
theorem aCv.at (h:aCv src tb tc ts g n k F args) (hq:QS src tb tc ts g R w0 w s N) (h0:s.e=0) (hr:run src.data.toList ts n k s=some r) (hn:r.2.nodes.length+10*n+10<=1000000):
 Calls prog F args w λe w'=>∃x:Nat,e = .returned x∧(r.2.e=0->x=oneOf r.1)∧QS src tb tc ts g R w0 w' r.2 ⟨10*n,N.d⟩:=h R w0 w s r N hq h0 hr hn
theorem aNx (h:fM src tb tc ts g n k F args) (hq:QS src tb tc ts g R w0 w s ⟨0+10*n,N.d⟩) (h0:s.e≠0) (hr:run src.data.toList ts n k s=some r) (hn:r.2.nodes.length+(0+10*n)+10*n+10<=1000000):
  Calls prog F args w λe w'=>∃x:Nat,e = .returned x∧(r.2.e=0->x=oneOf r.1)∧QS src tb tc ts g R w0 w' r.2 ⟨10*n+2,N.d⟩:=by
 refine (h R w0 w s r _ hq hr hn).mono ?_;rintro e w' ⟨x,he,hx,hs⟩;rw[if_neg h0] at hs;exact⟨x,he,hx,hs.more (by show 0+10*n+2<=10*n+2;omega)⟩
theorem aB (x:List UInt8) (s:PS):(aA ts x s).nodes.length=s.nodes.length:=by
 unfold aA pGo aR;split<;>(try split)<;>rfl
theorem bZ (s:PS):(aI ts s).nodes.length=s.nodes.length:=by
 unfold aI pGo aR;split<;>(try split)<;>rfl
theorem aAb (src:ByteArray) (tb tc:Nat) (ts:List Tok) (g n:Nat):fM src tb tc ts g (n+1) .right 185 #[(g,())]:=by
 intro R w0 w s r N h hr hn;have S0:=hD h;have EX:=hD (oP src tb tc ts g n);have EC:=hD (xY src tb tc ts g n);simp only[run] at hr;by_cases i1:pIs ts [105,110,112,117,116] s=true
 . rw[if_pos i1] at hr
   simp only[aA0] at hr;subst hr;have h0:=(aM i1).1;rw[if_pos h0];have H0:=hD h0;have I1:=hD i1;have hn2:s.nodes.length+1+N.n+10*(n+1)+10<=1000000:=by simpa[bR,pGo] using hn
   have HN:=hD (show (pGo s).nodes.length+0<=1000000 by show s.nodes.length+0<=1000000;omega);have Z0:=hD (h.zero h0 0);clear h hn hn2 i1 h0;go_enter func185,ntmps185;go_wp2_with fail
   refine Z0.o.line.mono ?_;rintro e w1 ⟨y,rfl,hy,h1⟩;have S1:=hD h1;have HY:=hD hy;clear h1 hy;go_wp2_with fail
   refine stepM (S1.o.has ⟨#[105,110,112,117,116]⟩ I1) λw2 S2=>?_;rw[if_pos rfl] at S2;go_wp2_with fail
   refine eF (S2.o.wD 19 rfl y (bJ src.data.toList ts s) (λ_=>HY.o H0) (name:=[]) rfl (l:=[]) (λ_=>rfl) HN) λx3 w3 HX3 S3=>?_;go_wp2
   go_ret;exact⟨x3,rfl,λe=>HX3.o e,S3.o.more (aA4 _)⟩
 . rw[if_neg i1] at hr
   have I1:=hD (show pIs ts [105,110,112,117,116] s=false by simpa using i1);clear i1;by_cases i2:pIs ts [110,101,119] s=true
   . rw[if_pos i2] at hr
     simp only[mS] at hr;obtain⟨q,hq,rfl⟩:=hr;have h0:=(aM i2).1;rw[if_pos h0];have H0:=hD h0;have I2:=hD i2;have hn2:(aA ts [41] q.2).nodes.length+1+N.n+10*(n+1)+10<=1000000:=by simpa[bR] using hn
     have hnm:=aB (ts:=ts) [41] q.2;have HQ1:=hD (aJ _ _ _ _ hq trivial);have HE:Hd ((aA ts [41] q.2).e=0->q.2.e=0):=((Ext.refl q.2).must (ts:=ts) [41]).e0;have HQ:=hD hq;have HN:=hD (show q.2.nodes.length+0+10*n+10<=1000000 by omega);have HN2:=hD (show (aA ts [41] q.2).nodes.length+(0+10*n)<=1000000 by omega);have Z0:=hD (h.zero h0 0);clear h hn hn2 hnm hq i2 h0;go_enter func185,ntmps185;go_wp2_with fail
     refine Z0.o.line.mono ?_;rintro e w1 ⟨y,rfl,hy,h1⟩;have S1:=hD h1;have HY:=hD hy;clear h1 hy;go_wp2_with fail
     refine stepM (S1.o.has ⟨#[105,110,112,117,116]⟩ I1) λw2 S2=>?_;rw[if_neg (by decide)] at S2;go_wp2_with fail
     refine stepM (S2.o.has ⟨#[110,101,119]⟩ I2) λw3 S3=>?_;rw[if_pos rfl] at S3;go_wp2_with fail
     refine stepM (S3.o.must ⟨#[40]⟩) λw4 S4=>?_;go_wp2_with fail
     refine eF (EX.o.expr.at S4 HQ HN) λx5 w5 HX5 S5=>?_;go_wp2_with fail
     refine stepM (S5.o.must ⟨#[41]⟩) λw6 S6=>?_;go_wp2_with fail
     refine eF (S6.o.xA x5 rfl 20 rfl y (bJ src.data.toList ts s) (λ_=>HY.o H0) (name:=[]) rfl (l:=q.1) (λe=>by rw[HQ1.o,HX5.o (HE.o e)]) HN2) λx7 w7 HX7 S7=>?_;go_wp2
     go_ret;exact⟨x7,rfl,λe=>HX7.o e,S7.o.more (by show 0+10*n<=10*(n+1);omega)⟩
   . rw[if_neg i2] at hr
     have I2:=hD (show pIs ts [110,101,119] s=false by simpa using i2);clear i2;obtain⟨M,hM⟩:∃M,M=(if s.e=0 then 10*(n+1) else N.n+2):=⟨_,rfl⟩;rw[<-hM];by_cases i3:gG ts s=true
     . rw[if_pos i3] at hr
       have h0:s.e=0:=by
        unfold gG at i3;simp only[Bool.and_eq_true] at i3;exact (aW i3.1).1
       have HM:=hD (show 10*n<=M by rw[hM,if_pos h0];omega);have H0:=hD h0;have I3:=hD i3;have HR:=hD hr;have HN:=hD (show r.2.nodes.length+10*n+10<=1000000 by omega);clear h hn hr i3 h0 hM;go_enter func185,ntmps185;go_wp2_with fail
       refine S0.o.line.mono ?_;rintro e w1 ⟨y,rfl,hy,h1⟩;have S1:=hD h1;have HY:=hD hy;clear h1 hy;go_wp2_with fail
       refine stepM (S1.o.has ⟨#[105,110,112,117,116]⟩ I1) λw2 S2=>?_;rw[if_neg (by decide)] at S2;go_wp2_with fail
       refine stepM (S2.o.has ⟨#[110,101,119]⟩ I2) λw3 S3=>?_;rw[if_neg (by decide)] at S3;go_wp2_with fail
       refine stepM (S3.o.calls I3) λw4 S4=>?_;go_wp2_with fail
       refine eF (EC.o.at S4 H0 HR HN) λx5 w5 HX5 S5=>?_;go_wp2
       go_ret;exact⟨x5,rfl,HX5,S5.o.more HM⟩
     . rw[if_neg i3] at hr
       have I3:=hD (show gG ts s=false by simpa using i3);have HR:=hD hr;have HN:=hD (show r.2.nodes.length+N.n+10*n+10<=1000000 by omega);have HX:=hD (show ∀wx,QS src tb tc ts g R w0 wx s N->Calls prog 162 #[(g,())] wx λe w'=>∃x:Nat,e = .returned x∧(r.2.e=0->x=oneOf r.1)∧QS src tb tc ts g R w0 w' r.2 ⟨M,N.d⟩ from λwx hx=>by
        refine (EX.o.expr R w0 wx s r N hx HR HN).mono ?_;rintro e w' ⟨x,he,hxx,hs⟩;exact⟨x,he,hxx,hs.more (by show (if s.e=0 then 10*n else N.n+2)<=M;rw[hM];split<;>omega)⟩)
       clear h hn hr i3 hM;go_enter func185,ntmps185;go_wp2_with fail
       refine S0.o.line.mono ?_;rintro e w1 ⟨y,rfl,hy,h1⟩;have S1:=hD h1;have HY:=hD hy;clear h1 hy;go_wp2_with fail
       refine stepM (S1.o.has ⟨#[105,110,112,117,116]⟩ I1) λw2 S2=>?_;rw[if_neg (by decide)] at S2;go_wp2_with fail
       refine stepM (S2.o.has ⟨#[110,101,119]⟩ I2) λw3 S3=>?_;rw[if_neg (by decide)] at S3;go_wp2_with fail
       refine stepM (S3.o.calls I3) λw4 S4=>?_;go_wp2_with fail
       refine eF (HX _ S4) λx5 w5 HX5 S5=>?_;go_wp2
       go_ret;exact⟨x5,rfl,HX5,S5⟩
theorem aEa (src:ByteArray) (tb tc:Nat) (ts:List Tok) (g n:Nat):fM src tb tc ts g n .right 185 #[(g,())]:=by
 cases n with
 | zero=>exact fM.zero _ _ _
 | succ n=>exact aAb src tb tc ts g n
theorem xU (h:QS src tb tc ts g R w0 w s N) (k:Nat){kv:Int} (hkv:((k:Nat):Int)=kv) (y line:Nat) (hy:s.e=0->y=line){name:List UInt8}{X:ByteArray} (hX:bs name=X)
  (hr:run src.data.toList ts n .right (aA ts [61] s)=some r) (hn:r.2.nodes.length+N.n+10*n+20<=1000000):
  Calls prog 161 #[(g,()),kv,y,X] w λe w'=>∃x:Nat,e = .returned x∧((aA ts [59] r.2).e=0->x=(aA ts [59] r.2).nodes.length)∧QS src tb tc ts g R w0 w' (bR k line 0 name r.1 (aA ts [59] r.2)).2 ⟨N.n+10*n,N.d⟩:=by
 have S0:=hD h;have HK:=hD hkv;have HX:=hD hX;have HR:=hD hr;have HQ1:=hD (aJ _ _ _ _ hr trivial);have HE:Hd ((aA ts [59] r.2).e=0->r.2.e=0):=((Ext.refl r.2).must (ts:=ts) [59]).e0;have HY:=hD (show (aA ts [59] r.2).e=0->y=line from λe=>hy (((Ext.refl s).must (ts:=ts) [61]).e0 ((aK _ _ _ _ hr).e0 (HE e))));have hnm:=aB (ts:=ts) [59] r.2;have HN:=hD (show r.2.nodes.length+N.n+10*n+10<=1000000 by omega);have HN2:=hD (show (aA ts [59] r.2).nodes.length+(N.n+10*n)<=1000000 by omega);have ER:=hD (aEa src tb tc ts g n);clear h hkv hX hr hn hy hnm;go_enter func161,ntmps161;go_wp2_with fail
 refine stepM (S0.o.must ⟨#[61]⟩) λw1 S1=>?_;go_wp2_with fail
 refine eF (ER.o.at S1 HR HN) λx2 w2 HX2 S2=>?_;go_wp2_with fail
 refine stepM (S2.o.must ⟨#[59]⟩) λw3 S3=>?_;go_wp2_with fail
 refine eF (S3.o.xA x2 rfl k HK y line HY HX (l:=r.1) (λe=>by rw[HQ1.o,HX2.o (HE.o e)]) HN2) λx4 w4 HX4 S4=>?_;go_wp2
 go_ret;exact⟨x4,rfl,HX4,S4⟩
theorem aAe (src:ByteArray) (tb tc:Nat) (ts:List Tok) (g n:Nat){R:Nat->Prop}{w0 w:World}{s:PS}{r:List Nat×PS}{N:Lim} (h:QS src tb tc ts g R w0 w s N) (h0:s.e=0) (y:Nat) (hr:run src.data.toList ts (n+1) (.named y) s=some r) (hn:r.2.nodes.length+20*(n+1)+20<=1000000):
   Calls prog 164 #[(g,()),y] w λe w'=>∃x:Nat,e = .returned x∧(r.2.e=0->x=oneOf r.1)∧QS src tb tc ts g R w0 w' r.2 ⟨10*n+2,N.d⟩:=by
 have Z0:=hD (h.zero h0 0);have H0:=hD h0;have EX:=hD (oP src tb tc ts g n);have EC:=hD (xY src tb tc ts g n);simp only[run] at hr;by_cases i1:gG ts s=true
 . rw[if_pos i1] at hr
   simp only[mS] at hr;obtain⟨q,hq,rfl⟩:=hr;have I1:=hD i1;have HQ:=hD hq;have HQ1:=hD (aJ _ _ _ _ hq trivial);have HE:Hd ((aA ts [59] q.2).e=0->q.2.e=0):=((Ext.refl q.2).must (ts:=ts) [59]).e0;have hn2:(aA ts [59] q.2).nodes.length+1+20*(n+1)+20<=1000000:=by simpa[bR] using hn
   have hnm:=aB (ts:=ts) [59] q.2;have HN:=hD (show q.2.nodes.length+10*n+10<=1000000 by omega);have HN2:=hD (show (aA ts [59] q.2).nodes.length+10*n<=1000000 by omega);clear h h0 hq hn hn2 hnm i1;go_enter func164,ntmps164;go_wp2_with fail
   refine stepM (Z0.o.calls I1) λw1 S1=>?_;go_wp2_with fail
   refine eF (EC.o.at S1 H0 HQ HN) λx2 w2 HX2 S2=>?_;go_wp2_with fail
   refine stepM (S2.o.must ⟨#[59]⟩) λw3 S3=>?_;go_wp2_with fail
   refine eF (S3.o.xA x2 rfl 13 rfl y y (λ_=>rfl) (name:=[]) rfl (l:=q.1) (λe=>by rw[HQ1.o,HX2.o (HE.o e)]) HN2) λx4 w4 HX4 S4=>?_;go_wp2
   go_ret;exact⟨x4,rfl,λe=>HX4.o e,S4.o.more (by show 10*n<=10*n+2;omega)⟩
 . rw[if_neg i1] at hr
   have I1:=hD (show gG ts s=false by simpa using i1);obtain⟨NM,hname⟩:∃NM,bs (dZ ts s)=NM:=⟨_,rfl⟩;have HNM:=hD hname;clear i1;by_cases i2:pIs ts [91] (aI ts s)=true
   . rw[if_pos i2] at hr
     simp only[bS,mS] at hr;obtain⟨q,hq,u,hu,rfl⟩:=hr;have I2:=hD i2;have HQ:=hD hq;have HU:=hD hu;have HQ1:=hD (aJ _ _ _ _ hq trivial);have HU1:=hD (aJ _ _ _ _ hu trivial);have HE:Hd ((aA ts [59] u.2).e=0->u.2.e=0):=((Ext.refl u.2).must (ts:=ts) [59]).e0;have HE2:=hD (show u.2.e=0->(pUp (aA ts [93] q.2)).e=0 from λe=>((Ext.refl _).must (ts:=ts) [61]).e0 ((aK _ _ _ _ hu).e0 e));have hn2:(aA ts [59] u.2).nodes.length+1+20*(n+1)+20<=1000000:=by simpa[bR] using hn
     have hnm:=aB (ts:=ts) [59] u.2;have hqu:q.2.nodes.length<=u.2.nodes.length:=by
      have h1:=aV (aK _ _ _ _ hu);rw[aB,fJ] at h1;exact h1
     have HN:=hD (show q.2.nodes.length+0+10*n+10<=1000000 by omega);have hn1:=aHe hq;have HXP:=hD (show ∀wx,QS src tb tc ts g R w0 wx (aA ts [61] (pUp (aA ts [93] q.2))) ⟨0+10*n,N.d⟩->Calls prog 162 #[(g,())] wx λe w'=>∃x:Nat,e = .returned x∧(u.2.e=0->x=oneOf u.1)∧QS src tb tc ts g R w0 w' u.2 ⟨10*n+2,N.d⟩ from λwx hx=>by
      by_cases he:(aA ts [61] (pUp (aA ts [93] q.2))).e=0
      . refine (EX.o.expr R w0 wx _ u ⟨0,N.d⟩ (hx.zero he 0) HU (by show u.2.nodes.length+0+10*n+10<=1000000;omega)).mono ?_
        rintro e w' ⟨x,h1,h2,h3⟩;rw[if_pos he] at h3;exact⟨x,h1,h2,h3.more (by show 10*n<=10*n+2;omega)⟩
      . have hb:=aNx EX.o.expr hx he HU.o
        exact hb (by show u.2.nodes.length+(0+10*n)+10*n+10<=1000000;have:=hn2;omega))
     have HN2:=hD (show (aA ts [59] u.2).nodes.length+(10*n+2)<=1000000 by omega);clear h h0 hq hu hn hn2 hnm hqu i2 hn1;go_enter func164,ntmps164;go_wp2_with fail
     refine stepM (Z0.o.calls I1) λw1 S1=>?_;go_wp2_with fail
     refine stepM (S1.o.name HNM) λw2 S2=>?_;go_wp2_with fail
     have A3:Hd (Fr nob w2 (w2.alloc (.cells #[.string ⟨#[91]⟩] 9))):=(fR w2).alloc _;refine stepM ((S2.o.no A3).is1 ⟨#[91]⟩ (Blk.new w2 _ _) I2) λw3 h3=>?_;have S3:=hD (S2.o.no (A3.o.tr h3));clear h3;go_wp2_with fail
     refine (S3.o.inner EX.o.expr ⟨#[91]⟩ ⟨#[93]⟩ (λ_=>HQ.o) (λ_=>HN.o)).mono ?_;rintro e w4 ⟨x4,rfl,_,hB⟩;obtain⟨hv,h4⟩:=hB I2.o;have HX4:=hD hv;have S4:=hD h4;clear h4 hv hB;go_wp2_with fail
     refine stepM (S4.o.must ⟨#[61]⟩) λw5 S5=>?_;go_wp2_with fail
     refine eF (HXP _ S5) λx6 w6 HX6 S6=>?_;go_wp2_with fail
     refine stepM (S6.o.must ⟨#[59]⟩) λw7 S7=>?_;go_wp2_with fail
     refine eF (S7.o.aOe x4 x6 rfl 12 rfl y y (λ_=>rfl) (name:=dZ ts s) HNM (l:=q.1++u.1) (λe=>by rw[HQ1.o,HU1.o,HX4.o (HE2.o (HE.o e)),HX6.o (HE.o e)];rfl) HN2) λx8 w8 HX8 S8=>?_;go_wp2
     go_ret;exact⟨x8,rfl,λe=>HX8.o e,S8⟩
   . rw[if_neg i2] at hr
     have I2:=hD (show pIs ts [91] (aI ts s)=false by simpa using i2);simp only[mS] at hr;obtain⟨q,hq,rfl⟩:=hr;have HQ:=hD hq;have hn2:(aA ts [59] q.2).nodes.length+1+20*(n+1)+20<=1000000:=by simpa[bR] using hn
     have hnm:=aB (ts:=ts) [59] q.2;have HN:=hD (show q.2.nodes.length+0+10*n+20<=1000000 by omega);clear h h0 hq hn hn2 hnm i2;go_enter func164,ntmps164;go_wp2_with fail
     refine stepM (Z0.o.calls I1) λw1 S1=>?_;go_wp2_with fail
     refine stepM (S1.o.name HNM) λw2 S2=>?_;go_wp2_with fail
     have A3:Hd (Fr nob w2 (w2.alloc (.cells #[.string ⟨#[91]⟩] 9))):=(fR w2).alloc _;refine stepM ((S2.o.no A3).is1 ⟨#[91]⟩ (Blk.new w2 _ _) I2) λw3 h3=>?_;have S3:=hD (S2.o.no (A3.o.tr h3));clear h3;go_wp2_with fail
     refine eF (xU S3 11 rfl y y (λ_=>rfl) (name:=dZ ts s) HNM HQ HN) λx4 w4 HX4 S4=>?_;go_wp2
     go_ret;exact⟨x4,rfl,λe=>HX4.o e,S4.o.more (by show 0+10*n<=10*n+2;omega)⟩
end
section
variable (src:ByteArray) (tb tc:Nat) (ts:List Tok) (g:Nat)
def aCu (n:Nat):Prop:=
 ∀(R:Nat->Prop) (w0 w:World) (s:PS) (r:List Nat×PS) (N:Lim),QS src tb tc ts g R w0 w s N->s.e=0->run src.data.toList ts n .stmt s=some r->r.2.nodes.length+20*n+40<=1000000 ->
  Calls prog 125 #[(g,())] w λe w'=>∃x:Nat,e = .returned x∧(r.2.e=0->x=oneOf r.1)∧QS src tb tc ts g R w0 w' r.2 ⟨10*n,N.d⟩
def tK (n:Nat):Prop:=
 ∀(R:Nat->Prop) (w0 w:World) (s:PS) (r:List Nat×PS) (N:Lim),QS src tb tc ts g R w0 w s N->run src.data.toList ts n .block s=some r->r.2.nodes.length+N.n+40<=1000000->(s.e=0->r.2.nodes.length+20*n+40<=1000000) ->
  Calls prog 84 #[(g,())] w λe w'=>∃x:Nat,e = .returned x∧(r.2.e=0->x=oneOf r.1)∧QS src tb tc ts g R w0 w' r.2 ⟨if s.e=0 then 10*n else N.n+1,N.d⟩
end
def Other (w w':World):Prop:=∀b t cs,Blk w b t cs->t≠82->t≠50->t≠3->t≠27->Blk w' b t cs
theorem Other.refl (w:World):Other w w:=λ_ _ _ h _ _ _ _=>h
theorem Other.trans {w1 w2:World} (h:Other w w1) (h2:Other w1 w2):Other w w2:=λb t cs hb a c d e=>h2 b t cs (h b t cs hb a c d e) a c d e
theorem Other.frR {w':World}{cs:Array Value} (hg:Blk w g 82 cs) (f:FrR g w w'):Other w w':=λb t cs hb a c d e=>f.blk hb (hb.ne hg a) c
theorem Other.app {wa w3:World} (ho:Other wa w) (h:QRw src tb tc ts g R bl w0 w s N v l) (o:Obj) (hf:Fr (obl (blk v)) (w.alloc o) w3) (v':Value):Other wa (w3.setCell (bl,()) v'):=λb t cs hb a c d e=>by
 have h1:=(ho b t cs hb a c d e).alloc o;have h2:=h1.fr hf (λhm=>(h.own.alloc o).aD h1 (Ne.symm d) hm);have h3:Blk w3 bl 27 #[v]:=(h.cell.alloc o).fr hf (λhm=>(h.own.alloc o).aD (h.cell.alloc o) (by decide) hm);exact h2.far (p:=(bl,())) (λe2=>h2.ne h3 e e2) _
theorem oD:Enters prog 124:=enters_of func124 (by kernel_rfl) rfl
theorem aFz (ih:∀m,m<n->aCu src tb tc ts g m)
  (h:QRw src tb tc ts g R bl w0 w s ⟨10*n,N.d⟩ v l) (h0:s.e=0) (hb0:Blk w b0 78 #[(g,())]) (hr:run src.data.toList ts n (.stmts l) s=some r) (hl:l.length<=s.nodes.length) (hn:r.2.nodes.length+20*n+40<=1000000):
  Calls prog 124 #[(b0,()),(bl,())] w λe w'=>e = .returned (.tuple #[])∧∃(v':Value) (l':List Nat),QRw src tb tc ts g R bl w0 w' r.2 ⟨10*n,N.d⟩ v' l'∧(r.2.e=0->l'=r.1)∧Other w w':=by
 have H:=hD h;have HB:=hD hb0;have HL:=hD hl;have HN:=hD hn;have HI:=hD ih;have HR0:=hD hr;have CK:=hD (show ∀wx:World,∀v:Value,Blk wx bl 27 #[v]->Blk wx b0 78 #[(g,())]->wx.cell? (bl,0)=some v∧wx.cell? (b0,0)=(g,()) from λwx v h1 h2=>⟨by rw[h1.cell 0];rfl,by rw[h2.cell 0];rfl⟩);clear h h0 hb0 hr hl hn ih;go_enter func124,ntmps124;go_wp2
 go_loopg [] n (λk wr=>∃(v:Value) (l' lm:List Nat) (s':PS),Hd (k<=n)∧Hd (QRw src tb tc ts g R bl w0 wr s' ⟨10*n,N.d⟩ v l')∧Hd (Other w wr)∧Hd (run src.data.toList ts k (.stmts lm) s'=some r)∧Hd (l'.length<=s'.nodes.length)∧Hd (s'.e=0->l'=lm))
 case atStart=>exact⟨v,l,l,s,hD (aA1 n),H,hD (Other.refl w),HR0,HL,hD (λ_=>rfl)⟩
 case round=>
  obtain⟨v,l',lm,s',HK,HQ,HO,HR,HLL,HE⟩:=hrel;clear H HL HR0;have hr:=HR.o;cases gk with
  | zero=>simp[run] at hr
  | succ k=>
    simp only[run] at hr;have B0:=hD (HO _ _ _ HB (by decide) (by decide) (by decide) (by decide));obtain⟨_,x0⟩:=CK.o _ _ HQ.o.cell B0.o;obtain⟨hg,_,_,_,c3⟩:=HQ.o.q.aJv;obtain⟨cg,hcg⟩:=HQ.o.q.tZ;have HG:=hD hcg;have NB:Hd (b0≠g):=B0.o.ne hcg (by decide);clear hcg;by_cases h0:s'.e=0
    case neg=>
     rw[if_pos h0] at hr;simp only[aA0] at hr;subst hr;have heb:((s'.e:Int)==0)=false:=bN.2 (by omega);have H0:=hD h0;clear h0;go_wp2
     refine fK rfl rfl ⟨rfl,v,l',HQ,λe=>absurd e H0,HO⟩
    case pos=>
     rw[if_neg (by omega)] at hr;have heb:((s'.e:Int)==0)=true:=by rw[h0];rfl
     by_cases hm:pIs ts [125] s'=true
     . rw[if_pos hm] at hr
       simp only[aA0] at hr;subst hr;have A1:Hd (Fr nob wr (wr.alloc (.cells #[.string ⟨#[125]⟩] 9))):=(fR wr).alloc _;have HI1:=hD ((HQ.o.q.no A1).is1 ⟨#[125]⟩ (Blk.new wr _ _) (z:=true) hm);have H0:=hD h0;clear h0 hm;go_wp2_with fail
       refine HI1.o.mono ?_;rintro e w4 ⟨rfl,h4⟩;have F4:=hD (A1.o.tr h4);clear h4;go_wp2
       refine fK rfl rfl ⟨rfl,v,l',HQ.o.to (HQ.o.q.here.no F4),λe=>HE.o H0,HO.o.trans (Other.frR HG (FrR.no F4))⟩
     . rw[if_neg hm] at hr
       simp only[bS] at hr;obtain⟨u,hu,hr⟩:=hr;have A1:Hd (Fr nob wr (wr.alloc (.cells #[.string ⟨#[125]⟩] 9))):=(fR wr).alloc _;have HI1:=hD ((HQ.o.q.no A1).is1 ⟨#[125]⟩ (Blk.new wr _ _) (by simpa using hm));have hu1:=aJ _ _ _ _ hu trivial;have hp:=xJ hu;have hle:=aV (aK _ _ _ _ hr);have HR2:=hD hr;have HB2:=hD (show l'.length<=1000000 by have:=HLL.o;have:=HN.o;omega);have HB3:=hD (show l'.length+1<=u.2.nodes.length by have:=HLL.o;omega);have HS:=hD (show ∀wx wy,QS src tb tc ts g (RV R v) wx wy s' ⟨10*n,N.d⟩->Calls prog 125 #[(g,())] wy λe w'=>∃x:Nat,e = .returned x∧(u.2.e=0->l'++[x]=lm++u.1)∧QS src tb tc ts g (RV R v) wx w' u.2 ⟨10*n,N.d⟩ from λwx wy hq=>by
        refine (HI k (by have:=HK.o;omega) (RV R v) wx wy s' u ⟨0,N.d⟩ (hq.zero h0 0) h0 hu (by have:=HK.o;have:=HN.o;omega)).mono ?_;rintro e w' ⟨x,he,hx,hs⟩;exact⟨x,he,λe=>by rw[HE.o h0,hx e];exact congrArg (lm ++ ·) hu1.symm,hs.more (by show 10*k<=10*n;have:=HK.o;omega)⟩)
       obtain⟨A,c1,hv,hc1,hc2⟩:=HQ.o.own.cap;generalize hm5:l'.length=m at *;subst hv;have HMM:=hD hm5;clear h0 hm hu hr hu1 hp hle hc1 hc2 hm5 HR HE HLL;go_wp2_with fail
       refine HI1.o.mono ?_;rintro e w4 ⟨rfl,h4⟩;have F4:=hD (A1.o.tr h4);have S4:=hD (HQ.o.to (HQ.o.q.here.no F4));have B4:=hD (B0.o.fr F4 (λx=>x));obtain⟨k0,k1⟩:=CK.o _ _ S4.o.cell B4.o;have HX:=hD (HS w4 w4.drew (S4.o.q.here.no (fR w4).drew));have G4:=hD (HG.o.fr F4 (λx=>x));have O4:=hD (HO.o.trans (Other.frR HG (FrR.no F4)));clear h4 x0 c3 hg heb HI1 A1 HS;go_wp2_with fail
       go_region_law (first
         | (go_simp;go_at_call 125;go_loud (refine HX.o.mono ?_);go_loud (rintro e w5 ⟨x,rfl,hx,h5⟩);go_loud (have HE5:=hD hx);go_loud (have S5:=hD (S4.o.to h5));go_loud (have B5:=hD (h5.fr.blk B4 NB (by decide)));go_loud (have O5:=hD (O4.o.trans (Other.frR G4 h5.fr)));go_loud (have K5:=hD (CK _ _ S5.o.cell B5));go_loud (have K6:=hD (CK _ _ (S5.o.cell.alloc (.cells #[(x:Int)] 3)) (B5.o.alloc (.cells #[(x:Int)] 3))));have k2:=K5.o.1;have k3:=K6.o.1;have k4:=K5.o.2;clear hx h5)
         | (refine step_append (v:= .slice A m c1) (n:=m) (m:=1) (xs:=ints l') (news:=[x]) (by rfl) _ _ (by rfl) gW (by rfl) (by rfl) (by have h9:=S5.o.own;rw[HMM.o] at h9;exact h9.alloc _) (Rd.eZ (n:=1) (cs:=[x]) (Blk.new _ _ _) rfl (by decide)) (by simp[Value.oneCell']) (by have h9:=HB2.o;first|omega|(unfold maxLen;omega)) (by have h9:=HB2.o;first|omega|(unfold maxLen;omega)) ?_;intro A6 c6 w6 ho6 hf6 hv6;go_loud (have HQ6:=hD (S5.o.app (o:= .cells #[(x:Int)] 3) (kM (x:=x) (l:=l') (by rw[HMM.o];exact ho6)) hf6 hv6));go_loud (have O6:=hD (O5.o.app S5 (.cells #[(x:Int)] 3) hf6 (.slice A6 (m+1) c6)));go_loud (have D6:=hD ((S5.o.cell.alloc (.cells #[(x:Int)] 3)).fr hf6 (λhm=>(S5.o.own.alloc (.cells #[(x:Int)] 3)).aD (S5.o.cell.alloc (.cells #[(x:Int)] 3)) (by decide) hm)));have z0:w6.cell? (bl,0)=some (.slice A m c1):=(by rw[D6.o.cell 0];rfl);have z1:=D6.o.frozen 0;clear ho6 hf6 hv6))
       all_goals
        go_wp2
        go_roundg k
        case measure=>omega
        case rel=>exact⟨_,l'++[x],lm++u.1,u.2,hD (by have:=HK.o;omega),HQ6,O6,HR2,hD (by have h9:=HB3.o;rw[aA3,HMM.o];exact h9),HE5⟩
end Go.Proofs.YtlbjicjinnnboaaGreatDoor
