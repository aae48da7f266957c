/- MmN: QBlock, QBlockB, QStmt, QStmtB, QFunc, QFuncB, QMany, QLexed, QAll. -/
import Derived.Test.YtlbjicjinnnboaaGreatDoorMmM
import Derived.Test.YtlbjicjinnnboaaGreatDoorMmE
import Derived.Test.YtlbjicjinnnboaaGreatDoorMmK
import Derived.Laws.EntriesVeiled
import Derived.Test.YtlbjicjinnnboaaGreatDoorMmF
set_option maxHeartbeats 8000000
set_option maxRecDepth 100000
set_option linter.unusedVariables false
set_option linter.unusedSimpArgs false
/- The program's own parser: a block's closure. -/
namespace Go.Proofs.YtlbjicjinnnboaaGreatDoor
open Go.RowKit
section
variable (src:ByteArray) (tb tc:Nat) (ts:List Tok) (g:Nat)
def aCc (n:Nat):Prop:=
 ∀(R:Nat→Prop) (w0 w:World) (s:PS) (r:List Nat×PS) (N:Lim),QS src tb tc ts g R w0 w s N→s.e=0→run src.data.toList ts n .stmt s=some r→r.2.nodes.length+20*n+40≤1000000 →
  Calls Tryz.prog 125 #[.pointer (some ⟨g,0,none⟩)] w fun e w'=>∃x:Nat,e = .returned (.int .i64 x)∧(r.2.e=0→x=oneOf r.1)∧QS src tb tc ts g R w0 w' r.2 ⟨10*n,N.d⟩
def rH (n:Nat):Prop:=
 ∀(R:Nat→Prop) (w0 w:World) (s:PS) (r:List Nat×PS) (N:Lim),QS src tb tc ts g R w0 w s N→run src.data.toList ts n .block s=some r→r.2.nodes.length+N.n+40≤1000000→(s.e=0→r.2.nodes.length+20*n+40≤1000000) →
  Calls Tryz.prog 84 #[.pointer (some ⟨g,0,none⟩)] w fun e w'=>∃x:Nat,e = .returned (.int .i64 x)∧(r.2.e=0→x=oneOf r.1)∧QS src tb tc ts g R w0 w' r.2 ⟨if s.e=0 then 10*n else N.n+1,N.d⟩
end
def Other (w w':World):Prop:=∀b t cs,Blk w b t cs→t≠82→t≠50→t≠3→t≠27→Blk w' b t cs
theorem Other.refl (w:World):Other w w:=fun _ _ _ h _ _ _ _=>h
theorem Other.trans {w w1 w2:World} (h:Other w w1) (h2:Other w1 w2):Other w w2:=fun b t cs hb a c d e=>h2 b t cs (h b t cs hb a c d e) a c d e
theorem Other.frR {w w':World}{g:Nat}{cs:Array Value} (hg:Blk w g 82 cs) (f:FrR g w w'):Other w w':=fun b t cs hb a c d e=>f.blk hb (hb.ne hg a) c
theorem Other.app {src:ByteArray}{tb tc:Nat}{ts:List Tok}{g:Nat}{R:Nat→Prop}{bl:Nat}{wa w0 w w3:World}{s:PS}{N:Lim}{v:Value}{l:List Nat} (ho:Other wa w) (h:QRw src tb tc ts g R bl w0 w s N v l) (o:Obj) (hf:Fr (obl (blk v)) (w.alloc o) w3) (v':Value):Other wa (w3.setCell ⟨bl,0,none⟩ v'):=fun b t cs hb a c d e=>by
 have h1:=(ho b t cs hb a c d e).alloc o;have h2:=h1.fr hf (fun hm=>(h.own.alloc o).aG h1 (Ne.symm d) hm);have h3:Blk w3 bl 27 #[v]:=(h.cell.alloc o).fr hf (fun hm=>(h.own.alloc o).aG (h.cell.alloc o) (by decide) hm);exact h2.far (p:=⟨bl,0,none⟩) (fun e2=>h2.ne h3 e e2) _
theorem mW:Enters Tryz.prog 124:=enters_of Tryz.func124 (by kernel_rfl) rfl
theorem aEt {src:ByteArray}{tb tc:Nat}{ts:List Tok}{g n:Nat}{N:Lim}{R:Nat→Prop}{w0 w:World}{s:PS}{v:Value}{l:List Nat}{bl b0:Nat}{r:List Nat×PS} (ih:∀m,m<n→aCc src tb tc ts g m)
  (h:QRw src tb tc ts g R bl w0 w s ⟨10*n,N.d⟩ v l) (h0:s.e=0) (hb0:Blk w b0 78 #[.pointer (some ⟨g,0,none⟩)]) (hr:run src.data.toList ts n (.stmts l) s=some r) (hl:l.length≤s.nodes.length) (hn:r.2.nodes.length+20*n+40≤1000000):
  Calls Tryz.prog 124 #[.pointer (some ⟨b0,0,none⟩),.pointer (some ⟨bl,0,none⟩)] w fun e w'=>e = .returned (.tuple #[])∧∃(v':Value) (l':List Nat),QRw src tb tc ts g R bl w0 w' r.2 ⟨10*n,N.d⟩ v' l'∧(r.2.e=0→l'=r.1)∧Other w w':=by
 have H:=hD h;have HB:=hD hb0;have HL:=hD hl;have HN:=hD hn;have HI:=hD ih;have HR0:=hD hr;have CK:=hD (show ∀wx:World,∀v:Value,Blk wx bl 27 #[v]→Blk wx b0 78 #[.pointer (some ⟨g,0,none⟩)]→wx.cell? ⟨bl,0,none⟩=some v∧wx.cell? ⟨b0,0,none⟩=some (.pointer (some ⟨g,0,none⟩)) from fun wx v h1 h2=>⟨by rw[h1.cell 0];rfl,by rw[h2.cell 0];rfl⟩);clear h h0 hb0 hr hl hn ih;go_enter Tryz.func124,Tryz.ntmps124;go_wp2_with fail
 go_loopg [] n (fun k wr=>∃(v:Value) (l' lm:List Nat) (s':PS),Hid (k≤n)∧Hid (QRw src tb tc ts g R bl w0 wr s' ⟨10*n,N.d⟩ v l')∧Hid (Other w wr)∧Hid (run src.data.toList ts k (.stmts lm) s'=some r)∧Hid (l'.length≤s'.nodes.length)∧Hid (s'.e=0→l'=lm))
 case atStart=>exact⟨v,l,l,s,hD (Nat.le_refl n),H,hD (Other.refl w),HR0,HL,hD (fun _=>rfl)⟩
 case round=>
  obtain⟨v,l',lm,s',HK,HQ,HO,HR,HLL,HE⟩:=hrel;clear H HL HR0;have hr:=HR.out;cases gk with
  | zero=>simp[run] at hr
  | succ k=>
    simp only[run] at hr;have B0:=hD (HO.out _ _ _ HB.out (by decide) (by decide) (by decide) (by decide));obtain⟨_,x0⟩:=CK.out _ _ HQ.out.cell B0.out;obtain⟨hg,_,_,_,c3⟩:=HQ.out.q.aIu;obtain⟨cg,hcg⟩:=HQ.out.q.rW;have HG:=hD hcg;have NB:=hD (show b0≠g from B0.out.ne hcg (by decide));clear hcg;by_cases h0:s'.e=0
    case neg=>
     rw[if_pos h0] at hr;simp only[Option.some.injEq] at hr;subst hr;have heb:((s'.e:Int)==0)=false:=bN.2 (by omega);have H0:=hD h0;clear h0;go_wp2_with fail
     refine bodyPost_end (results_none rfl _ _ _) rfl ⟨rfl,v,l',HQ.out,fun e=>absurd e H0.out,HO.out⟩
    case pos=>
     rw[if_neg (by omega)] at hr;have heb:((s'.e:Int)==0)=true:=by rw[h0];rfl
     by_cases hm:pIs ts [125] s'=true
     · rw[if_pos hm] at hr
       simp only[Option.some.injEq] at hr;subst hr;have A1:=hD (show Fr nob wr (wr.alloc (.cells #[.string ⟨#[125]⟩] 9)) from (fR wr).alloc _);have HI1:=hD ((HQ.out.q.no A1.out).is1 ⟨#[125]⟩ (Blk.new wr _ _) (z:=true) hm);have H0:=hD h0;clear h0 hm;go_wp2_with fail
       refine HI1.out.mono ?_;rintro e w4 ⟨rfl,h4⟩;have F4:=hD (A1.out.tr h4);clear h4;go_wp2_with fail
       refine bodyPost_end (results_none rfl _ _ _) rfl ⟨rfl,v,l',HQ.out.to (HQ.out.q.here.no F4.out),fun e=>HE.out H0.out,HO.out.trans (Other.frR HG.out (FrR.no F4.out))⟩
     · rw[if_neg hm] at hr
       simp only[bS] at hr;obtain⟨u,hu,hr⟩:=hr;have A1:=hD (show Fr nob wr (wr.alloc (.cells #[.string ⟨#[125]⟩] 9)) from (fR wr).alloc _);have HI1:=hD ((HQ.out.q.no A1.out).is1 ⟨#[125]⟩ (Blk.new wr _ _) (z:=false) (by simpa using hm));have hu1:=aK _ _ _ _ hu trivial;have hp:=vX hu;have hle:=aU (aI _ _ _ _ hr);have HR2:=hD hr;have HB2:=hD (show l'.length≤1000000 by have:=HLL.out;have:=HN.out;omega);have HB3:=hD (show l'.length+1≤u.2.nodes.length by have:=HLL.out;omega);have HS:=hD (show ∀wx wy,QS src tb tc ts g (RV R v) wx wy s' ⟨10*n,N.d⟩→Calls Tryz.prog 125 #[.pointer (some ⟨g,0,none⟩)] wy fun e w'=>∃x:Nat,e = .returned (.int .i64 x)∧(u.2.e=0→l'++[x]=lm++u.1)∧QS src tb tc ts g (RV R v) wx w' u.2 ⟨10*n,N.d⟩ from fun wx wy hq=>by
        refine (HI.out k (by have:=HK.out;omega) (RV R v) wx wy s' u ⟨0,N.d⟩ (hq.zero h0 0) h0 hu (by have:=HK.out;have:=HN.out;omega)).mono ?_;rintro e w' ⟨x,he,hx,hs⟩;exact⟨x,he,fun e=>by rw[HE.out h0,hx e];exact congrArg (lm ++ ·) hu1.symm,hs.more (by show 10*k≤10*n;have:=HK.out;omega)⟩)
       obtain⟨A,c1,hv,hc1,hc2⟩:=HQ.out.own.cap;generalize hm5:l'.length=m at *;subst hv;have HMM:=hD hm5;clear h0 hm hu hr hu1 hp hle hc1 hc2 hm5 HR HE HLL;go_wp2_with fail
       refine HI1.out.mono ?_;rintro e w4 ⟨rfl,h4⟩;have F4:=hD (A1.out.tr h4);have S4:=hD (HQ.out.to (HQ.out.q.here.no F4.out));have B4:=hD (B0.out.fr F4.out (fun x=>x));obtain⟨k0,k1⟩:=CK.out _ _ S4.out.cell B4.out;have HX:=hD (HS.out w4 w4.drew (S4.out.q.here.no (fR w4).drew));have G4:=hD (HG.out.fr F4.out (fun x=>x));have O4:=hD (HO.out.trans (Other.frR HG.out (FrR.no F4.out)));clear h4 x0 c3 hg heb HI1 A1 HS;go_wp2_with fail
       go_region_law (first
         | (go_simp;go_at_call 125;go_loud (refine HX.out.mono ?_);go_loud (rintro e w5 ⟨x,rfl,hx,h5⟩);go_loud (have HE5:=hD hx);go_loud (have S5:=hD (S4.out.to h5));go_loud (have B5:=hD (h5.fr.blk B4.out NB.out (by decide)));go_loud (have O5:=hD (O4.out.trans (Other.frR G4.out h5.fr)));go_loud (have K5:=hD (CK.out _ _ S5.out.cell B5.out));go_loud (have K6:=hD (CK.out _ _ (S5.out.cell.alloc (.cells #[.int .i64 (x:Int)] 3)) (B5.out.alloc (.cells #[.int .i64 (x:Int)] 3))));have k2:=K5.out.1;have k3:=K6.out.1;have k4:=K5.out.2;clear hx h5)
         | (refine step_append (v:= .slice A m c1) (n:=m) (m:=1) (xs:=ints l') (news:=[.int .i64 (x:Nat)]) (by rfl) _ _ (by rfl) gW (by rfl) (by rfl) (by have h9:=S5.out.own;rw[HMM.out] at h9;exact h9.alloc _) (Rd.fC (n:=1) (cs:=[.int .i64 (x:Nat)]) (Blk.new _ _ _) rfl (by decide)) (by simp[Value.oneCell']) (by have h9:=HB2.out;first|omega|(unfold maxLen;omega)) (by have h9:=HB2.out;first|omega|(unfold maxLen;omega)) ?_;intro A6 c6 w6 ho6 hf6 hv6;go_loud (have HQ6:=hD (S5.out.app (o:= .cells #[.int .i64 (x:Int)] 3) (gF (x:=x) (l:=l') (by rw[HMM.out];exact ho6)) hf6 hv6));go_loud (have O6:=hD (O5.out.app S5.out (.cells #[.int .i64 (x:Int)] 3) hf6 (.slice A6 (m+1) c6)));go_loud (have D6:=hD ((S5.out.cell.alloc (.cells #[.int .i64 (x:Int)] 3)).fr hf6 (fun hm=>(S5.out.own.alloc (.cells #[.int .i64 (x:Int)] 3)).aG (S5.out.cell.alloc (.cells #[.int .i64 (x:Int)] 3)) (by decide) hm)));have z0:w6.cell? ⟨bl,0,none⟩=some (.slice A m c1):=(by rw[D6.out.cell 0];rfl);have z1:=D6.out.frozen 0;clear ho6 hf6 hv6))
       all_goals
        go_wp2_with fail
        go_roundg k
        case measure=>omega
        case rel=>exact⟨_,l'++[x],lm++u.1,u.2,hD (by have:=HK.out;omega),HQ6,O6,HR2,hD (by have h9:=HB3.out;rw[List.length_append,HMM.out];exact h9),HE5⟩
theorem mZ {src:List UInt8}{ts:List Tok}{n:Nat}{t:Task}{s:PS}{op X:List UInt8}{r:List Nat×PS} (hp:pIs ts op s=true) (hr:run src ts n t (aA ts op (aW ts s))=some r):
   (s.deep<16→run src ts n t (pGo { s with deep:=s.deep+1 })=some r) ∧
     (16≤s.deep→(pUp (aA ts X r.2)).e=(aO ts 21 s).e∧(aO ts 21 s).e≠0∧(pUp (aA ts X r.2)).place=(aO ts 21 s).place∧(aO ts 21 s).nodes.length≤(pUp (aA ts X r.2)).nodes.length):=by
 have h0:=(aN hp).1;constructor
 · intro hd
   have e1:aW ts s={ s with deep:=s.deep+1 }:=by
     unfold aW;rw[if_neg (by omega)]
   have e2:aA ts op (aW ts s)=pGo { s with deep:=s.deep+1 }:=by
     rw[e1];unfold aA;rw[if_pos (by simpa[pIs,bE] using hp)]
   rw[←e2];exact hr
 · intro hd
   have e1:aW ts s={ aO ts 21 s with deep:=s.deep+1 }:=by
     unfold aW;rw[if_pos hd];simp only[eB]
   have f0:(aO ts 21 s).e≠0:=by
     unfold aO;rw[if_pos h0];exact (by decide:(21:Nat)≠0)
   have d0:(aW ts s).e≠0:=by rw[e1];exact f0
   have x1:Ext (aW ts s) (aA ts op (aW ts s)):=(Ext.refl _).must _;have x2:=x1.trans (aI _ _ _ _ hr);have x3:Ext (aW ts s) (pUp (aA ts X r.2)):=(x2.must (ts:=ts) X).up;have x4:=x3.err d0;obtain⟨x,hx⟩:=x3.nodes;rw[e1] at x4 hx;exact⟨x4.1,f0,x4.2,by rw[hx];simp⟩
def xR (g:Nat) (R:Nat→Prop) (bl b0:Nat) (s:PS) (l:List Nat) (w:World):Prop:=
 ∃A m c l',Blk w bl 27 #[.slice A m c]∧Own w 3 1 (.slice A m c) l'.length (ints l')∧(s.e=0→l'=l)∧(∀k,blk (.slice A m c)=some k→¬R k∧k≠g)∧Blk w b0 78 #[.pointer (some ⟨g,0,none⟩)]
theorem xR.frR {g:Nat}{R:Nat→Prop}{bl b0:Nat}{s:PS}{l:List Nat}{w w':World} (h:xR g R bl b0 s l w) (hbl:bl≠g) (hb0:b0≠g) (f:FrR g w w'):xR g R bl b0 s l w':=by
 obtain⟨A,m,c,l',h1,h2,h3,h4,h5⟩:=h;refine⟨A,m,c,l',f.blk h1 hbl (by decide),h2.fr f (fun k hk hm=>?_),h3,h4,f.blk h5 hb0 (by decide)⟩;rcases hm with e|⟨_,cs,fz,hc⟩
 · exact (h4 k hk).2 e
 · obtain⟨cs2,hb⟩:=h2.ty hk
   unfold Blk at hb;rw[hb] at hc;injection hc with hc;injection hc with _ ht;exact absurd ht (by decide)
theorem zA {src:ByteArray}{tb tc:Nat}{ts:List Tok}{g n:Nat} (ih:∀m,m<n→aCc src tb tc ts g m):rH src tb tc ts g (n+1):=by
 intro R w0 w s r N h hr hn hnz;have S0:=hD h;obtain⟨cg,hcg⟩:=h.rW;have hgl:g<w.heap.size:=hcg.lt;have A0:=hD (show Fr nob w (w.alloc (.cells #[.pointer (some ⟨g,0,none⟩)] 78)) from (fR w).alloc _);have B0:=hD (Blk.new w 78 #[.pointer (some ⟨g,0,none⟩)]);obtain⟨W1,hW1⟩:∃W1,W1=w.alloc (.cells #[.pointer (some ⟨g,0,none⟩)] 78):=⟨_,rfl⟩;rw[←hW1] at A0 B0;have hsz:W1.heap.size=w.heap.size+1:=by rw[hW1];simp
 have HSZ:=hD hsz;have x0:W1.cell? ⟨w.heap.size,0,none⟩=some (.pointer (some ⟨g,0,none⟩)):=by rw[B0.out.cell 0];rfl
 have HW:=hD hW1;have hmf:∀(fn:Fn) (first cap:Array Value) (w:World),(Instr.makeFunc fn first cap).run Tryz.prog w = .ok (.func fn first cap) w:=fun _ _ _ _=>rfl
 have NE:=hD (show ∀k,w.heap.size≤k→k≠g from fun k hk e=>by omega);simp only[run] at hr;by_cases hp:pIs ts [123] s=true
 · rw[if_pos hp] at hr
   simp only[mS] at hr;obtain⟨q,hq,rfl⟩:=hr;have h0:=(aN hp).1;rw[if_pos h0];have S1:=hD ((S0.out.no A0.out).here.zero h0 (10*n));have hn2:(pUp (aA ts [125] q.2)).nodes.length+1+20*(n+1)+40≤1000000:=by simpa[bM] using hnz h0
   have hnm:=fD (ts:=ts) [125] q.2;have HN:=hD (show q.2.nodes.length+20*n+40≤1000000 by omega);have HN2:=hD (show (pUp (aA ts [125] q.2)).nodes.length+10*n≤1000000 by omega);have HQ:=hD hq;have HP:=hD hp;have HI:=hD ih;have HUP:=hD (show bO ts (pUp (aA ts [125] q.2)) from ((gV h.toks _ _ _ _ hq ((h.ok.down h.toks h0).must h.toks _)).must h.toks _).up);have HDP:=hD (show q.2.e=0→q.2.deep=s.deep+1 from fun _=>by
    have:=gD _ _ _ _ hq;rw[aX,dF] at this;exact this)
   have H0:=hD h0;clear h hcg hgl hsz hq hn hnz hn2 hnm h0 hp ih hW1;go_enter Tryz.func84,Tryz.ntmps84;go_wp2_with fail
   rw[←HW.out];refine S1.out.line.mono ?_;rintro e w2 ⟨y,rfl,hy,h2⟩;have S2:=hD h2;have HY:=hD (hy H0.out);have L2:=hD S2.out.fr.size;have B2:=hD (S2.out.fr.blk B0.out (NE.out _ (Nat.le_refl _)) (by decide));clear hy h2 x0;have x2:w2.cell? ⟨w.heap.size,0,none⟩=some (.pointer (some ⟨g,0,none⟩)):=by rw[B2.out.cell 0];rfl
   have S3:=hD (S2.out.alloc (.cells #[.slice none 0 0] 27));have B3:=hD (B2.out.alloc (.cells #[.slice none 0 0] 27));have C3:=hD (Blk.new w2 27 #[.slice none 0 0]);have x3:(w2.alloc (.cells #[.slice none 0 0] 27)).cell? ⟨w.heap.size,0,none⟩=some (.pointer (some ⟨g,0,none⟩)):=by rw[B3.out.cell 0];rfl
   have NL:=hD (show w2.heap.size≠g from NE.out _ (by have:=L2.out;have:=HSZ.out;omega));have HWI:=hD (S3.out.within ⟨#[123]⟩ ⟨#[125]⟩ 124 #[.pointer (some ⟨w.heap.size,0,none⟩),.pointer (some ⟨w2.heap.size,0,none⟩)] (s2:=q.2) (n2:=10*n) (K:=xR g R w2.heap.size w.heap.size q.2 q.1)
    (fun _ hd w3 hw3 hf=>by
      have hrr:=(mZ (X:=[125]) HP.out HQ.out).1 hd;have hb3:=hf.blk B3.out (NE.out _ (Nat.le_refl _)) (by decide);have hc3:=hf.blk C3.out NL.out (by decide);refine (aEt (N:=⟨10*n,N.d+1⟩) HI.out (QRw.start hw3 hc3 L2.out) (show (pGo { s with deep:=s.deep+1 }).e=0 from H0.out) hb3 hrr (Nat.zero_le _) HN.out).mono ?_;rintro e w' ⟨rfl,v',l',hq',he',ho'⟩;obtain⟨A,c,hv,_,_⟩:=hq'.own.cap;obtain⟨cg',hcg'⟩:=hq'.q.rW;refine⟨rfl,hq'.q.drop (fun k hk=>Or.inl hk),fun b t cs hb ht=>ho' b t cs hb ?_ ?_ ?_ ?_,A,l'.length,c,l',by rw[←hv];exact hq'.cell,by rw[←hv];exact hq'.own,he',fun k hk=>⟨hq'.nr k (by rw[hv];exact hk),fun e=>hq'.own.aG hcg' (by decide) (by rw[hv,hk,e])⟩,ho' _ _ _ hb3 (by decide) (by decide) (by decide) (by decide)⟩
      all_goals rcases ht with rfl|rfl<;>decide)
    (fun w' w'' hf hk=>hk.frR NL.out (NE.out _ (Nat.le_refl _)) hf) mW HDP.out (fun _=>HUP.out))
   go_wp2_with fail
   refine HWI.out.mono ?_;rintro e w4 ⟨rfl,_,hB,hC⟩;have Q4:=hD (show QS src tb tc ts g R W1 w4 (pUp (aA ts [125] q.2)) ⟨10*n,N.d⟩∧xR g R w2.heap.size w.heap.size (pUp (aA ts [125] q.2)) q.1 w4 from by
    by_cases hd:16≤s.deep
    · obtain⟨hqs,hf⟩:=hB HP.out hd
      obtain⟨e1,e2,e3,e4⟩:=(mZ (X:=[125]) HP.out HQ.out).2 hd;exact⟨hqs.bad e2 e1 e3 e4 HUP.out,none,0,0,[],hf.blk C3.out NL.out (by decide),Own.nil _ _ _,fun e=>absurd e (by rw[e1];exact e2),fun k hk=>by simp[blk] at hk,hf.blk B3.out (NE.out _ (Nat.le_refl _)) (by decide)⟩
    · obtain⟨hqs,A,m,c,l',h1,h2,h3,h4,h5⟩:=hC HP.out (by omega)
      exact⟨hqs,A,m,c,l',h1,h2,fun e=>h3 (((Ext.refl q.2).must (ts:=ts) [125]).up.e0 e),h4,h5⟩)
   clear hB hC x2 x3;obtain⟨S4,A,m,c,l',h1,h2,h3,h4,h5⟩:=Q4.out;have S4:=hD S4;have y4:w4.cell? ⟨w2.heap.size,0,none⟩=some (.slice A m c):=by rw[h1.cell 0];rfl
   have x4:w4.cell? ⟨w.heap.size,0,none⟩=some (.pointer (some ⟨g,0,none⟩)):=by rw[h5.cell 0];rfl
   have HP4:=hD (S4.out.put 18 rfl y (aS src.data.toList ts s) (fun _=>HY.out) (name:=[]) rfl (A1:=A) (M:=m) (c1:=c) (l:=q.1) (fun e=>by have h6:=h3 e;subst h6;exact h2) (fun k hk=>(h4 k hk).1) HN2.out);clear h1 h2 h3 h4 h5;go_wp2_with fail
   refine HP4.out.mono ?_;rintro e w5 ⟨x5,rfl,hx,h6⟩;have S5:=hD h6;have HX:=hD hx;clear hx h6;go_wp2_with fail
   go_ret;exact⟨x5,rfl,fun e=>HX.out e,(S0.out.no A0.out).back (S5.out.more (by show 10*n≤10*(n+1);omega))⟩
 · rw[if_neg hp] at hr
   simp only[Option.some.injEq] at hr;subst hr;obtain⟨M,hM⟩:∃M,M=(if s.e=0 then 10*(n+1) else N.n+1):=⟨_,rfl⟩;rw[←hM];have hl:(aO ts 20 s).nodes.length=s.nodes.length:=by unfold aO;split<;>rfl
   have hn2:(aO ts 20 s).nodes.length+N.n+40≤1000000:=hn;have hn3:s.e=0→(aO ts 20 s).nodes.length+20*(n+1)+40≤1000000:=hnz;have S1:=hD (show QS src tb tc ts g R W1 W1 s ⟨M - 1,N.d⟩ from by
    by_cases h0:s.e=0
    · exact (S0.out.no A0.out).here.zero h0 _
    · exact (S0.out.no A0.out).here.more (by rw[hM,if_neg h0];show N.n≤N.n+1 - 1;omega))
   have HM:=hD (show 1≤M by rw[hM];split<;>omega);have HN:=hD (show (aO ts 20 s).nodes.length+(M - 1)≤1000000 by
    by_cases h0:s.e=0
    · have:=hn3 h0
      rw[hM,if_pos h0];omega
    · rw[hM,if_neg h0];omega)
   have HP:=hD (show pIs ts [123] s=false by simpa using hp);have HOK:=hD h.ok;have HTK:=hD h.toks;clear h hcg hgl hsz hn hnz hn2 hn3 hl hp ih hW1 hM;go_enter Tryz.func84,Tryz.ntmps84;go_wp2_with fail
   rw[←HW.out];refine S1.out.line.mono ?_;rintro e w2 ⟨y,rfl,hy,h2⟩;have S2:=hD h2;have L2:=hD S2.out.fr.size;have B2:=hD (S2.out.fr.blk B0.out (NE.out _ (Nat.le_refl _)) (by decide));clear hy h2 x0;have x2:w2.cell? ⟨w.heap.size,0,none⟩=some (.pointer (some ⟨g,0,none⟩)):=by rw[B2.out.cell 0];rfl
   have S3:=hD (S2.out.alloc (.cells #[.slice none 0 0] 27));have B3:=hD (B2.out.alloc (.cells #[.slice none 0 0] 27));have C3:=hD (Blk.new w2 27 #[.slice none 0 0]);have x3:(w2.alloc (.cells #[.slice none 0 0] 27)).cell? ⟨w.heap.size,0,none⟩=some (.pointer (some ⟨g,0,none⟩)):=by rw[B3.out.cell 0];rfl
   have NL:=hD (show w2.heap.size≠g from NE.out _ (by have:=L2.out;have:=HSZ.out;omega));have HWI:=hD (S3.out.within ⟨#[123]⟩ ⟨#[125]⟩ 124 #[.pointer (some ⟨w.heap.size,0,none⟩),.pointer (some ⟨w2.heap.size,0,none⟩)] (s2:={ s with deep:=s.deep+1 }) (n2:=0) (K:=fun _=>True)
    (fun hp=>absurd (HP.out.symm.trans hp) (by decide)) (fun _ _ _ _=>trivial) mW (fun _=>rfl) (fun hd=>by
      have k:bO ts { s with deep:=s.deep+1 }:=⟨HOK.out.room,by show s.deep+1≤17;omega,fun e=>by show s.deep+1≤16;omega,HOK.out.err,HOK.out.place⟩;exact (k.must HTK.out _).up))
   go_wp2_with fail
   refine HWI.out.mono ?_;rintro e w4 ⟨rfl,hA,_,_⟩;obtain⟨hq,hf⟩:=hA HP.out;have S4:=hD hq;have x4:w4.cell? ⟨w.heap.size,0,none⟩=some (.pointer (some ⟨g,0,none⟩)):=by rw[(hf.blk B3.out (NE.out _ (Nat.le_refl _)) (by decide)).cell 0];rfl
   have y4:w4.cell? ⟨w2.heap.size,0,none⟩=some (.slice none 0 0):=by rw[(hf.blk C3.out NL.out (by decide)).cell 0];rfl
   have HP4:=hD (S4.out.aNc pE 18 rfl y (name:=[]) rfl (A1:=none) (M:=0) (c1:=0) HN.out);clear hA hq hf x2 x3;go_wp2_with fail
   refine HP4.out.mono ?_;rintro e w5 ⟨x5,rfl,h6⟩;have S5:=hD h6;clear h6;go_wp2_with fail
   go_ret;exact⟨x5,rfl,fun e=>absurd e pE,(S0.out.no A0.out).back (S5.out.more (by show M - 1+1≤M;have:=HM.out;omega))⟩
def aJo (ts:List Tok):Prop:=∀t∈ts,t.kind=5→∀c∈t.text,¬(97≤c∧c≤122)
theorem aMb {ts:List Tok}{s:PS} (hs:aJo ts) (hr:s.i<ts.length){x:List UInt8} (c:UInt8) (hc:c∈x) (h1:97≤c∧c≤122):pIs ts x s=true↔bH ts s=x:=by
 have hmem:bE ts s∈ts:=by
   unfold bE;rw[List.getD,gE hr];exact List.getElem_mem _
 have hx:x≠[]:=fun e=>by rw[e] at hc;cases hc
 constructor
 · intro h
   have h2:=aN h;unfold pIs at h;simp only[Bool.and_eq_true,Bool.or_eq_true,decide_eq_true_eq] at h;obtain⟨⟨h0,hk⟩,ht⟩:=h;rcases hk with hk|hk
   · exact absurd h1 (hs _ hmem hk c (by rw[ht];exact hc))
   · unfold bH bA
     rw[if_pos (by simp[h0,hk])];exact ht
 · intro h
   unfold bH at h;by_cases hk:bA ts 4 s=true
   · rw[if_pos hk] at h
     obtain⟨h0,hk⟩:=aM hk;unfold pIs;simp[h0,hk,h]
   · rw[if_neg hk] at h
     exact absurd h.symm hx
section
variable {src:ByteArray}{tb tc:Nat}{ts:List Tok}{g n:Nat}{N:Lim}{R:Nat→Prop}{w0 w:World}{s:PS}{r:List Nat×PS}
structure QRo (src:ByteArray) (tb tc:Nat) (ts:List Tok) (g:Nat) (R:Nat→Prop) (w0 w:World) (s:PS) (N:Lim) (v:Value) (l:List Nat):Prop where
 q:QS src tb tc ts g (RV R v) w0 w s N
 own:Own w 3 1 v l.length (ints l)
 nr:∀k,blk v=some k→¬R k
 nw:∀k,blk v=some k→w0.heap.size≤k
theorem QRo.to {v:Value}{l:List Nat}{w':World}{s':PS}{N':Lim} (h:QRo src tb tc ts g R w0 w s N v l) (h':QS src tb tc ts g (RV R v) w w' s' N'):QRo src tb tc ts g R w0 w' s' N' v l:=by
 obtain⟨cs,hg⟩:=h.q.rW;exact⟨h.q.back h',h.own.frR hg (by decide) (by decide) h'.fr,h.nr,h.nw⟩
theorem QRo.app {v:Value}{l:List Nat} (h:QRo src tb tc ts g R w0 w s N v l){o:Obj}{w3:World}{v':Value}{l':List Nat} (ho:Own w3 3 1 v' l'.length (ints l')) (hf:Fr (obl (blk v)) (w.alloc o) w3) (hv:blk v'=blk v∨blk v'=some (w.alloc o).heap.size):
   QRo src tb tc ts g R w0 w3 s N v' l':=by
 have h1:=h.q.alloc o;have hown:=h.own.alloc o;obtain⟨q,lvs,hq,hs⟩:=h1.q;have hMk:∀k,obl (blk v) k→∃t cs,Blk (w.alloc o) k t cs∧t≠82∧t≠50∧t≠115∧(t=3→RV R v k):=fun k hk=>by
   obtain⟨cs,hb⟩:=hown.ty hk;exact⟨_,cs,hb,by decide,by decide,by decide,fun _=> .inr hk⟩
 obtain⟨hq3,hs3⟩:=hq.frM hs hf hMk;have hlt:s.e=0→∀u∈lvs,∀j,blk u=some j→j<(w.alloc o).heap.size:=fun h0=>nK (hs.below h0)
 have hR':∀k,RV R v' k→k<w3.heap.size:=fun k hk=>by
   rcases hk with hk|hk
   · have:=h1.res k (.inl hk);have:=hf.size;omega
   · exact ho.cO hk
 have h3:=h1.frM hf (fun k hk=>h.nw k hk) hMk;refine⟨⟨⟨q,lvs,hq3,hs3.e,hs3.place,hs3.deep,hs3.pos,hs3.row,hs3.below,fun h0 u hu j hj hr=>?_,hs3.bad⟩,hR',h3.ok,h3.toks,h3.long,h3.fr,h3.most⟩,ho,fun k hk hr=>?_,fun k hk=>?_⟩
 · rcases hr with hr|hr
   · exact hs.avoid h0 u hu j hj (.inl hr)
   · rcases hv with e|e
     · exact hs.avoid h0 u hu j hj (.inr (by rw[←e];exact hr))
     · rw[e] at hr
       injection hr with hr;have:=hlt h0 u hu j hj;omega
 · rcases hv with e|e
   · rw[e] at hk;exact h.nr k hk hr
   · rw[e] at hk
     injection hk with hk;have:=h1.res k (.inl hr);omega
 · rcases hv with e|e
   · rw[e] at hk;exact h.nw k hk
   · rw[e] at hk
     injection hk with hk;have:=h1.fr.size;omega
theorem QS.aQk (h:QS src tb tc ts g R w0 w s N) (x z:Nat):QRo src tb tc ts g R w0 (w.alloc (.cells #[.int .i64 (x:Int),.int .i64 (z:Int)] 3)) s N (.slice (some ⟨w.heap.size,0,none⟩) 2 2) [x,z]:=by
 have hk:∀k,blk (.slice (some ⟨w.heap.size,0,none⟩) 2 2)=some k→k=w.heap.size:=fun k hk=>lX hk
 refine⟨?_,⟨rfl,_,2,rfl,.inr ⟨w.heap.size,_,rfl,by decide,Blk.new w _ _,Nat.le_refl _,by decide,rfl,rfl⟩⟩,fun k h1 hr=>?_,fun k h1=>?_⟩
 · have h2:=h.box (.cells #[.int .i64 (x:Int),.int .i64 (z:Int)] 3)
   exact h2.drop (fun k hk2=>by
    rcases hk2 with hk2|hk2
    · exact .inl hk2
    · exact .inr (hk k hk2))
 · have:=h.res k hr
   have:=hk k h1;omega
 · have:=h.fr.size
   have:=hk k h1;omega
theorem QS.row0 (h:QS src tb tc ts g R w0 w s N):QRo src tb tc ts g R w0 w s N (.slice none 0 0) []:=by
 have hn:∀k,blk (.slice none 0 0)≠some k:=fun k hk=>by simp[blk] at hk
 obtain⟨q,lvs,hq,hs⟩:=h.q;refine⟨⟨⟨q,lvs,hq,hs.e,hs.place,hs.deep,hs.pos,hs.row,hs.below,fun h0 u hu j hj hr=>?_,hs.bad⟩,fun k hk=>?_,h.ok,h.toks,h.long,h.fr,h.most⟩,Own.nil _ _ _,fun k hk=>absurd hk (hn k),fun k hk=>absurd hk (hn k)⟩
 · rcases hr with hr|hr
   · exact hs.avoid h0 u hu j hj hr
   · exact hn _ hr
 · rcases hk with hk|hk
   · exact h.res k hk
   · exact absurd hk (hn k)
theorem QRo.put {A:Option Addr}{m c:Nat}{l l':List Nat} (h:QRo src tb tc ts g R w0 w s N (.slice A m c) l) (k:Nat){kv:Int} (hkv:((k:Nat):Int)=kv) (y line:Nat) (hy:s.e=0→y=line){name:List UInt8}{X:ByteArray} (hX:bs name=X) (hl:s.e=0→l'=l) (hn:s.nodes.length+N.n≤1000000):
  Calls Tryz.prog 126 #[.pointer (some ⟨g,0,none⟩),.int .i64 kv,.int .i64 y,.string X,.slice A m c] w fun e w'=>∃x:Nat,e = .returned (.int .i64 x)∧(s.e=0→x=s.nodes.length)∧QS src tb tc ts g R w0 w' (bM k line 0 name l' s).2 N:=by
 refine (h.q.drop (R:=R) (fun k hk=>Or.inl hk)).put k hkv y line hy hX (fun e=>?_) h.nr hn;rw[hl e];have h1:=h.own;exact h1
theorem rH.at (h:rH src tb tc ts g n){m:Nat} (hq:QS src tb tc ts g R w0 w s ⟨m,N.d⟩) (hm:m≤10*n) (hr:run src.data.toList ts n .block s=some r) (hn:r.2.nodes.length+20*n+40≤1000000):
  Calls Tryz.prog 84 #[.pointer (some ⟨g,0,none⟩)] w fun e w'=>∃x:Nat,e = .returned (.int .i64 x)∧(r.2.e=0→x=oneOf r.1)∧QS src tb tc ts g R w0 w' r.2 ⟨10*n+1,N.d⟩:=by
 refine (h R w0 w s r ⟨m,N.d⟩ hq hr (by show r.2.nodes.length+m+40≤1000000;omega) (fun _=>hn)).mono ?_;rintro e w' ⟨x,he,hx,hs⟩;exact⟨x,he,hx,hs.more (by show (if s.e=0 then 10*n else m+1)≤10*n+1;split<;>omega)⟩
theorem uM (hB:rH src tb tc ts g n) (h:QS src tb tc ts g R w0 w s N) (h0:s.e=0) (y:Nat){q b:List Nat×PS} (hq:run src.data.toList ts n (.chain 0) s=some q) (hb:run src.data.toList ts n .block q.2=some b) (he:pIs ts [101,108,115,101] b.2=false) (hn:b.2.nodes.length+20*n+40≤1000000):
  Calls Tryz.prog 163 #[.pointer (some ⟨g,0,none⟩),.int .i64 y] w fun e w'=>∃x:Nat,e = .returned (.int .i64 x)∧(b.2.e=0→x=b.2.nodes.length)∧QS src tb tc ts g R w0 w' (bM 15 y 0 [] (q.1++b.1) b.2).2 ⟨10*n+1,N.d⟩:=by
 have Z0:=hD (h.zero h0 0);have EX:=hD (nM src tb tc ts g n);have HBL:=hD hB;have HQ:=hD hq;have HBB:=hD hb;have HQ1:=hD (aK _ _ _ _ hq trivial);have HB1:=hD (aK _ _ _ _ hb trivial);have HE:=hD (show b.2.e=0→q.2.e=0 from (aI _ _ _ _ hb).e0);have HEL:=hD he;have hle:=aU (aI _ _ _ _ hb);have HN:=hD (show q.2.nodes.length+0+10*n+10≤1000000 by omega);have HN2:=hD hn;have HN3:=hD (show b.2.nodes.length+(10*n+1)≤1000000 by omega);clear h h0 hB hq hb he hn hle;go_enter Tryz.func163,Tryz.ntmps163;go_wp2_with fail
 refine (EX.out.expr.at Z0.out HQ.out HN.out).mono ?_;rintro e w1 ⟨x1,rfl,hx1,h1⟩;have S1:=hD h1;have HX1:=hD hx1;clear h1 hx1;go_wp2_with fail
 refine (HBL.out.at (N:=N) (m:=0+10*n) S1.out (by omega) HBB.out HN2.out).mono ?_;rintro e w2 ⟨x2,rfl,hx2,h2⟩;have S2:=hD h2;have HX2:=hD hx2;clear h2 hx2;go_wp2_with fail
 have S3:=hD (S2.out.alloc (.cells #[.int .i64 (x1:Int),.int .i64 (x2:Int)] 3));have C3:=hD (Blk.new w2 3 #[.int .i64 (x1:Int),.int .i64 (x2:Int)]);have R3:=hD (show ∀k,R k→k<w2.heap.size from S2.out.res);refine (S3.out.here.has ⟨#[101,108,115,101]⟩ (b:=false) HEL.out).mono ?_;rintro e w3 ⟨rfl,h3⟩;rw[if_neg (by decide)] at h3;have T3:=hD (S3.out.back h3);obtain⟨cg,hcg⟩:=S3.out.rW;have D3:=hD (h3.fr.blk C3.out (fun e=>C3.out.ne hcg (by decide) e) (by decide));clear h3 hcg;go_wp2_with fail
 have OW:=hD (show Own w3 3 1 (.slice (some ⟨w2.heap.size,0,none⟩) 2 2) [x1,x2].length (ints [x1,x2]) from ⟨rfl,_,2,rfl,.inr ⟨w2.heap.size,_,rfl,by decide,D3.out,Nat.le_refl _,by decide,rfl,rfl⟩⟩);refine (T3.out.put 15 rfl y y (fun _=>rfl) (name:=[]) rfl (l:=q.1++b.1) (fun e=>by rw[HQ1.out,HB1.out,←HX1.out (HE.out e),←HX2.out e];exact OW.out) (fun k hk hr=>by have:=R3.out k hr;have:=lX hk;omega) HN3.out).mono ?_;rintro e w4 ⟨x4,rfl,hx4,h4⟩;have S4:=hD h4;have HX4:=hD hx4;clear h4 hx4;go_wp2_with fail
 go_ret;exact⟨x4,rfl,fun e=>HX4.out e,S4.out⟩
theorem qF (hB:rH src tb tc ts g n) (h:QS src tb tc ts g R w0 w s N) (h0:s.e=0) (y:Nat){q b:List Nat×PS} (hq:run src.data.toList ts n (.chain 0) s=some q) (hb:run src.data.toList ts n .block q.2=some b){c:List Nat×PS} (he:pIs ts [101,108,115,101] b.2=true) (hc:run src.data.toList ts n .block (pGo b.2)=some c) (hn:c.2.nodes.length+20*n+40≤1000000):
  Calls Tryz.prog 163 #[.pointer (some ⟨g,0,none⟩),.int .i64 y] w fun e w'=>∃x:Nat,e = .returned (.int .i64 x)∧(c.2.e=0→x=c.2.nodes.length)∧QS src tb tc ts g R w0 w' (bM 15 y 0 [] (q.1++b.1++c.1) c.2).2 ⟨10*n+1,N.d⟩:=by
 have Z0:=hD (h.zero h0 0);have EX:=hD (nM src tb tc ts g n);have HBL:=hD hB;have HQ:=hD hq;have HBB:=hD hb;have HQ1:=hD (aK _ _ _ _ hq trivial);have HB1:=hD (aK _ _ _ _ hb trivial);have HE:=hD (show b.2.e=0→q.2.e=0 from (aI _ _ _ _ hb).e0);have HEL:=hD he;have HC:=hD hc;have HC1:=hD (aK _ _ _ _ hc trivial);have H0:=hD (aN he).1;have hle:=aU (aI _ _ _ _ hb);have hle2:b.2.nodes.length≤c.2.nodes.length:=(show (pGo b.2).nodes.length≤c.2.nodes.length from aU (aI _ _ _ _ hc));have HN:=hD (show q.2.nodes.length+0+10*n+10≤1000000 by omega);have HN2:=hD (show b.2.nodes.length+20*n+40≤1000000 by omega);have HN4:=hD hn;have HN3:=hD (show c.2.nodes.length+(10*n+1)≤1000000 by omega);clear h h0 hB hq hb he hn hle hc hle2;go_enter Tryz.func163,Tryz.ntmps163;go_wp2_with fail
 refine (EX.out.expr.at Z0.out HQ.out HN.out).mono ?_;rintro e w1 ⟨x1,rfl,hx1,h1⟩;have S1:=hD h1;have HX1:=hD hx1;clear h1 hx1;go_wp2_with fail
 refine (HBL.out.at (N:=N) (m:=0+10*n) S1.out (by omega) HBB.out HN2.out).mono ?_;rintro e w2 ⟨x2,rfl,hx2,h2⟩;have S2:=hD h2;have HX2:=hD hx2;clear h2 hx2;go_wp2_with fail
 have Q3:=hD (S2.out.aQk x1 x2);refine (Q3.out.q.here.has ⟨#[101,108,115,101]⟩ (b:=true) HEL.out).mono ?_;rintro e w3 ⟨rfl,h3⟩;rw[if_pos rfl] at h3;have T3:=hD (Q3.out.to h3);clear h3;go_wp2_with fail
 refine (HBL.out.at (N:=N) (m:=0) (T3.out.q.here.zero H0.out 0) (by omega) HC.out HN4.out).mono ?_;rintro e w4 ⟨x4,rfl,hx,h4⟩;have HX4:=hD hx;have T4:=hD (T3.out.to h4);clear hx h4;go_wp2_with (at_builtin;go_loud (refine aL (v:= .slice (some ⟨w2.heap.size,0,none⟩) 2 2) (n:=2) (m:=1) (xs:=ints [x1,x2]) (news:=[.int .i64 (x4:Nat)]) rfl _ _ rfl gW rfl rfl (T4.out.own.alloc _) (Rd.fC (n:=1) (cs:=[.int .i64 (x4:Nat)]) (Blk.new _ _ _) rfl (by decide)) (by simp[Value.oneCell']) (by decide) (by unfold maxLen;decide) ?_);intro A5 c5 w5 ho hf hv;go_loud (have T5:=hD (T4.out.app (l':=[x1,x2,x4]) ho hf hv));clear ho hf hv)
 refine (T5.out.put 15 rfl y y (fun _=>rfl) (name:=[]) rfl (l':=q.1++b.1++c.1) (fun e=>by rw[HQ1.out,HB1.out,HC1.out,←HX1.out (HE.out H0.out),←HX2.out H0.out,←HX4.out e];rfl) HN3.out).mono ?_;rintro e w6 ⟨x6,rfl,hx,h6⟩;have S6:=hD h6;have HX6:=hD hx;clear hx h6;go_wp2_with fail
 go_ret;exact⟨x6,rfl,fun e=>HX6.out e,S6.out⟩
end
theorem aDd {src:ByteArray}{tb tc:Nat}{ts:List Tok}{g n:Nat} (hsg:aJo ts) (hB:rH src tb tc ts g n):aCc src tb tc ts g (n+1):=by
 intro R w0 w s r N h h0 hr hn;have Z0:=hD (h.zero h0 0);have H0:=hD h0;have HBL:=hD hB;have EX:=hD (nM src tb tc ts g n);have hw:=fun (x:List UInt8) (c:UInt8) (hc:c∈x) (h1:97≤c∧c≤122)=>aMb (s:=s) hsg h.ok.room c hc h1
 have hgo:∀{x:List UInt8},x≠[]→bH ts s=x→bO ts (pGo s):=fun {x} hx hh=>by
   unfold bH at hh;by_cases hk:bA ts 4 s=true
   · exact h.ok.fU h.toks (aM hk).2 (by decide)
   · rw[if_neg hk] at hh
     exact absurd hh.symm hx
 simp only[run] at hr;by_cases i0:bH ts s=[108,101,116]
 · rw[if_pos i0] at hr
   have I0:=hD ((hw [108,101,116] 108 (by decide) (by decide)).2 i0);simp only[mS] at hr;obtain⟨q,hq,rfl⟩:=hr;have HQ:=hD hq;have hn2:(aA ts [59] q.2).nodes.length+1+20*(n+1)+40≤1000000:=by simpa[bM] using hn
   have hnm:=aB (ts:=ts) [59] q.2;have HN:=hD (show q.2.nodes.length+0+10*n+20≤1000000 by omega);obtain⟨NM,hname⟩:∃NM,bs (bK ts (pGo s))=NM:=⟨_,rfl⟩;have HNM:=hD hname;clear hq hn2 hnm hname h h0 hn i0 hw hsg hB hgo;go_enter Tryz.func125,Tryz.ntmps125;go_wp2_with fail
   refine Z0.out.line.mono ?_;rintro e w1 ⟨y,rfl,hy,h1⟩;have S1:=hD h1;have HY:=hD hy;clear h1 hy;go_wp2_with fail
   refine (S1.out.has ⟨#[108,101,116]⟩ (b:=true) I0.out).mono ?_;rintro e w2 ⟨rfl,h2⟩;rw[if_pos rfl] at h2;have S2:=hD h2;clear h2;go_wp2_with fail
   refine (S2.out.name HNM.out).mono ?_;rintro e w3 ⟨rfl,h3⟩;have S3:=hD h3;clear h3;go_wp2_with fail
   refine (wF S3.out 10 rfl y (aS src.data.toList ts s) (fun _=>HY.out H0.out) (name:=bK ts (pGo s)) HNM.out HQ.out HN.out).mono ?_;rintro e w4 ⟨x4,rfl,hx4,h4⟩;have S4:=hD h4;have HX4:=hD hx4;clear h4 hx4;go_wp2_with fail
   go_ret;exact⟨x4,rfl,fun e=>HX4.out e,S4.out.more (by show 0+10*n≤10*(n+1);omega)⟩
 · rw[if_neg i0] at hr
   have I0:=hD (show pIs ts [108,101,116] s=false from by
     cases hh:pIs ts [108,101,116] s with
     | false=>rfl
     | true=>exact absurd ((hw [108,101,116] 108 (by decide) (by decide)).1 hh) i0)
   by_cases i1:bH ts s=[112,114,105,110,116]
   · rw[if_pos i1] at hr
     have I1:=hD ((hw [112,114,105,110,116] 112 (by decide) (by decide)).2 i1);simp only[mS] at hr;obtain⟨q,hq,rfl⟩:=hr;have HQ:=hD hq;have HQ1:=hD (aK _ _ _ _ hq trivial);have HE:=hD (show (aA ts [59] q.2).e=0→q.2.e=0 from ((Ext.refl q.2).must (ts:=ts) [59]).e0);have hn2:(aA ts [59] q.2).nodes.length+1+20*(n+1)+40≤1000000:=by simpa[bM] using hn
     have hnm:=aB (ts:=ts) [59] q.2;have HN:=hD (show q.2.nodes.length+0+10*n+10≤1000000 by omega);have HN2:=hD (show (aA ts [59] q.2).nodes.length+(0+10*n)≤1000000 by omega);clear hq hn2 hnm h h0 hn i1 hw hsg hB hgo;go_enter Tryz.func125,Tryz.ntmps125;go_wp2_with fail
     refine Z0.out.line.mono ?_;rintro e w1 ⟨y,rfl,hy,h1⟩;have S1:=hD h1;have HY:=hD hy;clear h1 hy;go_wp2_with fail
     refine (S1.out.has ⟨#[108,101,116]⟩ (b:=false) I0.out).mono ?_;rintro e w2 ⟨rfl,h2⟩;rw[if_neg (by decide)] at h2;have S2:=hD h2;clear h2;go_wp2_with fail
     refine (S2.out.has ⟨#[112,114,105,110,116]⟩ (b:=true) I1.out).mono ?_;rintro e w3 ⟨rfl,h3⟩;rw[if_pos rfl] at h3;have S3:=hD h3;clear h3;go_wp2_with fail
     refine (EX.out.expr.at S3.out HQ.out HN.out).mono ?_;rintro e w4 ⟨x4,rfl,hx4,h4⟩;have S4:=hD h4;have HX4:=hD hx4;clear h4 hx4;go_wp2_with fail
     refine (S4.out.must ⟨#[59]⟩).mono ?_;rintro e w5 ⟨rfl,h5⟩;have S5:=hD h5;clear h5;go_wp2_with fail
     refine (S5.out.vM x4 rfl 14 rfl y (aS src.data.toList ts s) (fun _=>HY.out H0.out) (name:=[]) rfl (l:=q.1) (fun e=>by rw[HQ1.out,HX4.out (HE.out e)]) HN2.out).mono ?_;rintro e w6 ⟨x6,rfl,hx6,h6⟩;have S6:=hD h6;have HX6:=hD hx6;clear h6 hx6;go_wp2_with fail
     go_ret;exact⟨x6,rfl,fun e=>HX6.out e,S6.out.more (by show 0+10*n≤10*(n+1);omega)⟩
   · rw[if_neg i1] at hr
     have I1:=hD (show pIs ts [112,114,105,110,116] s=false from by
       cases hh:pIs ts [112,114,105,110,116] s with
       | false=>rfl
       | true=>exact absurd ((hw [112,114,105,110,116] 112 (by decide) (by decide)).1 hh) i1)
     by_cases i2:bH ts s=[119,104,105,108,101]
     · rw[if_pos i2] at hr
       have I2:=hD ((hw [119,104,105,108,101] 119 (by decide) (by decide)).2 i2);simp only[bS,mS] at hr;obtain⟨q,hq,u,hu,rfl⟩:=hr;have HQ:=hD hq;have HU:=hD hu;have HQ1:=hD (aK _ _ _ _ hq trivial);have HU1:=hD (aK _ _ _ _ hu trivial);have HE:=hD (show u.2.e=0→q.2.e=0 from (aI _ _ _ _ hu).e0);have hn2:u.2.nodes.length+1+20*(n+1)+40≤1000000:=by simpa[bM] using hn
       have hle:=aU (aI _ _ _ _ hu);have HN:=hD (show q.2.nodes.length+0+10*n+10≤1000000 by omega);have HN3:=hD (show u.2.nodes.length+20*n+40≤1000000 by omega);have HN2:=hD (show u.2.nodes.length+(10*n+1)≤1000000 by omega);clear hq hu hn2 hle h h0 hn i2 hw hsg hB hgo;go_enter Tryz.func125,Tryz.ntmps125;go_wp2_with fail
       refine Z0.out.line.mono ?_;rintro e w1 ⟨y,rfl,hy,h1⟩;have S1:=hD h1;have HY:=hD hy;clear h1 hy;go_wp2_with fail
       refine (S1.out.has ⟨#[108,101,116]⟩ (b:=false) I0.out).mono ?_;rintro e w2 ⟨rfl,h2⟩;rw[if_neg (by decide)] at h2;have S2:=hD h2;clear h2;go_wp2_with fail
       refine (S2.out.has ⟨#[112,114,105,110,116]⟩ (b:=false) I1.out).mono ?_;rintro e w3 ⟨rfl,h3⟩;rw[if_neg (by decide)] at h3;have S3:=hD h3;clear h3;go_wp2_with fail
       refine (S3.out.has ⟨#[119,104,105,108,101]⟩ (b:=true) I2.out).mono ?_;rintro e w4 ⟨rfl,h4⟩;rw[if_pos rfl] at h4;have S4:=hD h4;clear h4;go_wp2_with fail
       refine (EX.out.expr.at S4.out HQ.out HN.out).mono ?_;rintro e w5 ⟨x5,rfl,hx5,h5⟩;have S5:=hD h5;have HX5:=hD hx5;clear h5 hx5;go_wp2_with fail
       refine (HBL.out.at (N:=N) (m:=0+10*n) S5.out (by omega) HU.out HN3.out).mono ?_;rintro e w6 ⟨x6,rfl,hx6,h6⟩;have S6:=hD h6;have HX6:=hD hx6;clear h6 hx6;go_wp2_with fail
       refine (S6.out.aNd x5 x6 rfl 16 rfl y (aS src.data.toList ts s) (fun _=>HY.out H0.out) (name:=[]) rfl (l:=q.1++u.1) (fun e=>by rw[HQ1.out,HU1.out,HX5.out (HE.out e),HX6.out e];rfl) HN2.out).mono ?_;rintro e w7 ⟨x7,rfl,hx7,h7⟩;have S7:=hD h7;have HX7:=hD hx7;clear h7 hx7;go_wp2_with fail
       go_ret;exact⟨x7,rfl,fun e=>HX7.out e,S7.out.more (by show 10*n+1≤10*(n+1);omega)⟩
     · rw[if_neg i2] at hr
       have I2:=hD (show pIs ts [119,104,105,108,101] s=false from by
         cases hh:pIs ts [119,104,105,108,101] s with
         | false=>rfl
         | true=>exact absurd ((hw [119,104,105,108,101] 119 (by decide) (by decide)).1 hh) i2)
       by_cases i3:bH ts s=[105,102]
       · rw[if_pos i3] at hr
         have I3:=hD ((hw [105,102] 105 (by decide) (by decide)).2 i3);simp only[bS] at hr;obtain⟨q,hq,u,hu,hr⟩:=hr;by_cases ie:pIs ts [101,108,115,101] u.2=true
         · rw[if_pos ie] at hr
           simp only[mS] at hr;obtain⟨c,hc,rfl⟩:=hr;have hn2:c.2.nodes.length+1+20*(n+1)+40≤1000000:=by simpa[bM] using hn
           have HBR:=hD (show ∀wx y,QS src tb tc ts g R w0 wx (pGo s) ⟨0,N.d⟩→_ from fun wx y hx=>qF HBL.out hx H0.out y hq hu ie hc (by omega));clear hq hu hc hn2 h h0 hn i3 hw hsg hB ie hgo;go_enter Tryz.func125,Tryz.ntmps125;go_wp2_with fail
           refine Z0.out.line.mono ?_;rintro e w1 ⟨y,rfl,hy,h1⟩;have S1:=hD h1;have HY:=hD hy;clear h1 hy;go_wp2_with fail
           refine (S1.out.has ⟨#[108,101,116]⟩ (b:=false) I0.out).mono ?_;rintro e w2 ⟨rfl,h2⟩;rw[if_neg (by decide)] at h2;have S2:=hD h2;clear h2;go_wp2_with fail
           refine (S2.out.has ⟨#[112,114,105,110,116]⟩ (b:=false) I1.out).mono ?_;rintro e w3 ⟨rfl,h3⟩;rw[if_neg (by decide)] at h3;have S3:=hD h3;clear h3;go_wp2_with fail
           refine (S3.out.has ⟨#[119,104,105,108,101]⟩ (b:=false) I2.out).mono ?_;rintro e w4 ⟨rfl,h4⟩;rw[if_neg (by decide)] at h4;have S4:=hD h4;clear h4;go_wp2_with fail
           refine (S4.out.has ⟨#[105,102]⟩ (b:=true) I3.out).mono ?_;rintro e w5 ⟨rfl,h5⟩;rw[if_pos rfl] at h5;have S5:=hD h5;clear h5;go_wp2_with fail
           have hy:=HY.out H0.out;rw[hy];refine (HBR.out _ _ S5.out).mono ?_;rintro e w6 ⟨x6,rfl,hx6,h6⟩;have S6:=hD h6;have HX6:=hD hx6;clear h6 hx6;go_wp2_with fail
           go_ret;exact⟨x6,rfl,fun e=>HX6.out e,S6.out.more (by show 10*n+1≤10*(n+1);omega)⟩
         · rw[if_neg ie] at hr
           simp only[Option.some.injEq] at hr;subst hr;have hn2:u.2.nodes.length+1+20*(n+1)+40≤1000000:=by simpa[bM] using hn
           have HBR:=hD (show ∀wx y,QS src tb tc ts g R w0 wx (pGo s) ⟨0,N.d⟩→_ from fun wx y hx=>uM HBL.out hx H0.out y hq hu (by simpa using ie) (by omega));clear hq hu hn2 h h0 hn i3 hw hsg hB ie hgo;go_enter Tryz.func125,Tryz.ntmps125;go_wp2_with fail
           refine Z0.out.line.mono ?_;rintro e w1 ⟨y,rfl,hy,h1⟩;have S1:=hD h1;have HY:=hD hy;clear h1 hy;go_wp2_with fail
           refine (S1.out.has ⟨#[108,101,116]⟩ (b:=false) I0.out).mono ?_;rintro e w2 ⟨rfl,h2⟩;rw[if_neg (by decide)] at h2;have S2:=hD h2;clear h2;go_wp2_with fail
           refine (S2.out.has ⟨#[112,114,105,110,116]⟩ (b:=false) I1.out).mono ?_;rintro e w3 ⟨rfl,h3⟩;rw[if_neg (by decide)] at h3;have S3:=hD h3;clear h3;go_wp2_with fail
           refine (S3.out.has ⟨#[119,104,105,108,101]⟩ (b:=false) I2.out).mono ?_;rintro e w4 ⟨rfl,h4⟩;rw[if_neg (by decide)] at h4;have S4:=hD h4;clear h4;go_wp2_with fail
           refine (S4.out.has ⟨#[105,102]⟩ (b:=true) I3.out).mono ?_;rintro e w5 ⟨rfl,h5⟩;rw[if_pos rfl] at h5;have S5:=hD h5;clear h5;go_wp2_with fail
           have hy:=HY.out H0.out;rw[hy];refine (HBR.out _ _ S5.out).mono ?_;rintro e w6 ⟨x6,rfl,hx6,h6⟩;have S6:=hD h6;have HX6:=hD hx6;clear h6 hx6;go_wp2_with fail
           go_ret;exact⟨x6,rfl,fun e=>HX6.out e,S6.out.more (by show 10*n+1≤10*(n+1);omega)⟩
       · rw[if_neg i3] at hr
         have I3:=hD (show pIs ts [105,102] s=false from by
           cases hh:pIs ts [105,102] s with
           | false=>rfl
           | true=>exact absurd ((hw [105,102] 105 (by decide) (by decide)).1 hh) i3)
         by_cases i4:bH ts s=[114,101,116,117,114,110]
         · rw[if_pos i4] at hr
           have I4:=hD ((hw [114,101,116,117,114,110] 114 (by decide) (by decide)).2 i4);by_cases ie:pIs ts [59] (pGo s)=true
           · rw[if_pos ie] at hr
             simp only[Option.some.injEq] at hr;subst hr;have IE:=hD ie;have hn2:(aA ts [59] (pGo s)).nodes.length+1+20*(n+1)+40≤1000000:=by simpa[bM] using hn
             have HN2:=hD (show (aA ts [59] (pGo s)).nodes.length+0≤1000000 by omega);clear hn2 h h0 hn i4 hw hsg hB ie hgo;go_enter Tryz.func125,Tryz.ntmps125;go_wp2_with fail
             refine Z0.out.line.mono ?_;rintro e w1 ⟨y,rfl,hy,h1⟩;have S1:=hD h1;have HY:=hD hy;clear h1 hy;go_wp2_with fail
             refine (S1.out.has ⟨#[108,101,116]⟩ (b:=false) I0.out).mono ?_;rintro e w2 ⟨rfl,h2⟩;rw[if_neg (by decide)] at h2;have S2:=hD h2;clear h2;go_wp2_with fail
             refine (S2.out.has ⟨#[112,114,105,110,116]⟩ (b:=false) I1.out).mono ?_;rintro e w3 ⟨rfl,h3⟩;rw[if_neg (by decide)] at h3;have S3:=hD h3;clear h3;go_wp2_with fail
             refine (S3.out.has ⟨#[119,104,105,108,101]⟩ (b:=false) I2.out).mono ?_;rintro e w4 ⟨rfl,h4⟩;rw[if_neg (by decide)] at h4;have S4:=hD h4;clear h4;go_wp2_with fail
             refine (S4.out.has ⟨#[105,102]⟩ (b:=false) I3.out).mono ?_;rintro e w5 ⟨rfl,h5⟩;rw[if_neg (by decide)] at h5;have S5:=hD h5;clear h5;go_wp2_with fail
             refine (S5.out.has ⟨#[114,101,116,117,114,110]⟩ (b:=true) I4.out).mono ?_;rintro e w6 ⟨rfl,h6⟩;rw[if_pos rfl] at h6;have S6:=hD h6;clear h6;go_wp2_with fail
             have A7:=hD (show Fr nob w6 (w6.alloc (.cells #[.string ⟨#[59]⟩] 9)) from (fR w6).alloc _);refine ((S6.out.no A7.out).is1 ⟨#[59]⟩ (Blk.new w6 _ _) (z:=true) IE.out).mono ?_;rintro e w7 ⟨rfl,h7⟩;have S7:=hD (S6.out.no (A7.out.tr h7));clear h7;go_wp2_with fail
             refine (S7.out.must ⟨#[59]⟩).mono ?_;rintro e w8 ⟨rfl,h8⟩;have S8:=hD h8;clear h8;go_wp2_with fail
             refine (S8.out.uP 17 rfl y (aS src.data.toList ts s) (fun _=>HY.out H0.out) (name:=[]) rfl (l:=[]) (fun _=>rfl) HN2.out).mono ?_;rintro e w9 ⟨x9,rfl,hx9,h9⟩;have S9:=hD h9;have HX9:=hD hx9;clear h9 hx9;go_wp2_with fail
             go_ret;exact⟨x9,rfl,fun e=>HX9.out e,S9.out.more (Nat.zero_le _)⟩
           · rw[if_neg ie] at hr
             simp only[mS] at hr;obtain⟨q,hq,rfl⟩:=hr;have IE:=hD (show pIs ts [59] (pGo s)=false by simpa using ie);have HQ:=hD hq;have HQ1:=hD (aK _ _ _ _ hq trivial);have HE:=hD (show (aA ts [59] q.2).e=0→q.2.e=0 from ((Ext.refl q.2).must (ts:=ts) [59]).e0);have hn2:(aA ts [59] q.2).nodes.length+1+20*(n+1)+40≤1000000:=by simpa[bM] using hn
             have hnm:=aB (ts:=ts) [59] q.2;have HN:=hD (show q.2.nodes.length+0+10*n+10≤1000000 by omega);have HN2:=hD (show (aA ts [59] q.2).nodes.length+(0+10*n)≤1000000 by omega);clear hq hn2 hnm h h0 hn i4 hw hsg hB ie hgo;go_enter Tryz.func125,Tryz.ntmps125;go_wp2_with fail
             refine Z0.out.line.mono ?_;rintro e w1 ⟨y,rfl,hy,h1⟩;have S1:=hD h1;have HY:=hD hy;clear h1 hy;go_wp2_with fail
             refine (S1.out.has ⟨#[108,101,116]⟩ (b:=false) I0.out).mono ?_;rintro e w2 ⟨rfl,h2⟩;rw[if_neg (by decide)] at h2;have S2:=hD h2;clear h2;go_wp2_with fail
             refine (S2.out.has ⟨#[112,114,105,110,116]⟩ (b:=false) I1.out).mono ?_;rintro e w3 ⟨rfl,h3⟩;rw[if_neg (by decide)] at h3;have S3:=hD h3;clear h3;go_wp2_with fail
             refine (S3.out.has ⟨#[119,104,105,108,101]⟩ (b:=false) I2.out).mono ?_;rintro e w4 ⟨rfl,h4⟩;rw[if_neg (by decide)] at h4;have S4:=hD h4;clear h4;go_wp2_with fail
             refine (S4.out.has ⟨#[105,102]⟩ (b:=false) I3.out).mono ?_;rintro e w5 ⟨rfl,h5⟩;rw[if_neg (by decide)] at h5;have S5:=hD h5;clear h5;go_wp2_with fail
             refine (S5.out.has ⟨#[114,101,116,117,114,110]⟩ (b:=true) I4.out).mono ?_;rintro e w6 ⟨rfl,h6⟩;rw[if_pos rfl] at h6;have S6:=hD h6;clear h6;go_wp2_with fail
             have A7:=hD (show Fr nob w6 (w6.alloc (.cells #[.string ⟨#[59]⟩] 9)) from (fR w6).alloc _);refine ((S6.out.no A7.out).is1 ⟨#[59]⟩ (Blk.new w6 _ _) (z:=false) IE.out).mono ?_;rintro e w7 ⟨rfl,h7⟩;have S7:=hD (S6.out.no (A7.out.tr h7));clear h7;go_wp2_with fail
             have T7:=hD S7.out.row0;refine (EX.out.expr.at T7.out.q.here HQ.out HN.out).mono ?_;rintro e w8 ⟨x8,rfl,hx,h8⟩;have HX8:=hD hx;have T8:=hD (T7.out.to h8);clear hx h8;go_wp2_with (at_builtin;go_loud (refine aL (v:= .slice none 0 0) (n:=0) (m:=1) (xs:=ints []) (news:=[.int .i64 (x8:Nat)]) rfl _ _ rfl gW rfl rfl (T8.out.own.alloc _) (Rd.fC (n:=1) (cs:=[.int .i64 (x8:Nat)]) (Blk.new _ _ _) rfl (by decide)) (by simp[Value.oneCell']) (by decide) (by unfold maxLen;decide) ?_);intro A9 c9 w9 ho hf hv;go_loud (have T9:=hD (T8.out.app (l':=[x8]) ho hf hv));clear ho hf hv)
             refine (T9.out.q.here.must ⟨#[59]⟩).mono ?_;rintro e w10 ⟨rfl,h10⟩;have T10:=hD (T9.out.to h10);clear h10;go_wp2_with fail
             refine (T10.out.put 17 rfl y (aS src.data.toList ts s) (fun _=>HY.out H0.out) (name:=[]) rfl (l':=q.1) (fun e=>by rw[HQ1.out,←HX8.out (HE.out e)]) HN2.out).mono ?_;rintro e w11 ⟨x11,rfl,hx,h11⟩;have S11:=hD h11;have HX11:=hD hx;clear hx h11;go_wp2_with fail
             go_ret;exact⟨x11,rfl,fun e=>HX11.out e,S11.out.more (by show 0+10*n≤10*(n+1);omega)⟩
         · rw[if_neg i4] at hr
           have I4:=hD (show pIs ts [114,101,116,117,114,110] s=false from by
             cases hh:pIs ts [114,101,116,117,114,110] s with
             | false=>rfl
             | true=>exact absurd ((hw [114,101,116,117,114,110] 114 (by decide) (by decide)).1 hh) i4)
           cases n with
           | zero=>simp[run] at hr
           | succ n=>
             have HR:=hD hr;have HN:=hD (show r.2.nodes.length+20*(n+1)+20≤1000000 by omega);clear h h0 hn hr i0 i1 i2 i3 i4 hw hsg hB hgo;go_enter Tryz.func125,Tryz.ntmps125;go_wp2_with fail
             refine Z0.out.line.mono ?_;rintro e w1 ⟨y,rfl,hy,h1⟩;have S1:=hD h1;have HY:=hD hy;clear h1 hy;go_wp2_with fail
             refine (S1.out.has ⟨#[108,101,116]⟩ (b:=false) I0.out).mono ?_;rintro e w2 ⟨rfl,h2⟩;rw[if_neg (by decide)] at h2;have S2:=hD h2;clear h2;go_wp2_with fail
             refine (S2.out.has ⟨#[112,114,105,110,116]⟩ (b:=false) I1.out).mono ?_;rintro e w3 ⟨rfl,h3⟩;rw[if_neg (by decide)] at h3;have S3:=hD h3;clear h3;go_wp2_with fail
             refine (S3.out.has ⟨#[119,104,105,108,101]⟩ (b:=false) I2.out).mono ?_;rintro e w4 ⟨rfl,h4⟩;rw[if_neg (by decide)] at h4;have S4:=hD h4;clear h4;go_wp2_with fail
             refine (S4.out.has ⟨#[105,102]⟩ (b:=false) I3.out).mono ?_;rintro e w5 ⟨rfl,h5⟩;rw[if_neg (by decide)] at h5;have S5:=hD h5;clear h5;go_wp2_with fail
             refine (S5.out.has ⟨#[114,101,116,117,114,110]⟩ (b:=false) I4.out).mono ?_;rintro e w6 ⟨rfl,h6⟩;rw[if_neg (by decide)] at h6;have S6:=hD h6;clear h6;go_wp2_with fail
             have hy:=HY.out H0.out;rw[hy];refine (yV src tb tc ts g n S6.out H0.out _ HR.out HN.out).mono ?_;rintro e w7 ⟨x7,rfl,hx7,h7⟩;have S7:=hD h7;have HX7:=hD hx7;clear h7 hx7;go_wp2_with fail
             go_ret;exact⟨x7,rfl,HX7.out,S7.out.more (by show 10*n+2≤10*(n+1+1);omega)⟩
theorem aGj (src:ByteArray) (tb tc:Nat) (ts:List Tok) (g:Nat) (hsg:aJo ts):∀n,aCc src tb tc ts g n∧rH src tb tc ts g n:=by
 intro n;induction n using Nat.strongRecOn with
 | _ n ih=>
  cases n with
  | zero=>
   refine⟨?_,?_⟩
   · intro R w0 w s r N h h0 hr
     simp[run] at hr
   · intro R w0 w s r N h hr
     simp[run] at hr
  | succ n=>exact⟨aDd hsg (ih n (by omega)).2,zA (fun m hm=>(ih m (by omega)).1)⟩
structure QFn (src:ByteArray) (tb tc:Nat) (ts:List Tok) (g:Nat) (R:Nat→Prop) (w0:World) (b0 F:Nat) (w:World) (s:PS) (N:Lim) (name:ByteArray) (line:Nat) (pv:Value) (acc:List (List UInt8×Nat)) (ret body:Nat):Prop where
 q:QS src tb tc ts g R w0 w s N
 bb:Blk w b0 78 #[.pointer (some ⟨g,0,none⟩)]
 bf:Blk w F 48 #[.string name,.int .i64 line,pv,.int .i64 ret,.int .i64 body]
 hf:w0.heap.size≤F
 own:Own w 101 2 pv acc.length (aV acc)
 new:∀k,blk pv=some k→w0.heap.size≤k
section
variable {src:ByteArray}{tb tc:Nat}{ts:List Tok}{g:Nat}{N N':Lim}{R:Nat→Prop}{w0 w w':World}{s s':PS}{b0 F:Nat}{name:ByteArray}{line:Nat}{pv:Value}{acc:List (List UInt8×Nat)}{ret body:Nat}
theorem QFn.to (h:QFn src tb tc ts g R w0 b0 F w s N name line pv acc ret body) (h':QS src tb tc ts g R w w' s' N'):QFn src tb tc ts g R w0 b0 F w' s' N' name line pv acc ret body:=by
 obtain⟨cs,hb⟩:=h.q.rW;exact⟨h.q.back h',h'.fr.blk h.bb (h.bb.ne hb (by decide)) (by decide),h'.fr.blk h.bf (h.bf.ne hb (by decide)) (by decide),h.hf,h.own.frR hb (by decide) (by decide) h'.fr,h.new⟩
theorem QFn.alloc (h:QFn src tb tc ts g R w0 b0 F w s N name line pv acc ret body) (o:Obj):QFn src tb tc ts g R w0 b0 F (w.alloc o) s N name line pv acc ret body:=h.to (h.q.here.alloc o)
theorem QFn.mE (h:QFn src tb tc ts g R w0 b0 F w s N name line pv acc ret body) (j:Nat) (u:Value):QS src tb tc ts g R w0 (w.setCell ⟨F,j,none⟩ u) s N∧Blk (w.setCell ⟨F,j,none⟩ u) b0 78 #[.pointer (some ⟨g,0,none⟩)]∧Own (w.setCell ⟨F,j,none⟩ u) 101 2 pv acc.length (aV acc):=
 ⟨h.q.cell h.bf (by decide) (by decide) (by decide) (by decide) h.hf j u,h.bb.far (p:=⟨F,j,none⟩) (fun e=>h.bb.ne h.bf (by decide) e) u,h.own.far (p:=⟨F,j,none⟩) (h.own.aG h.bf (by decide)) u⟩
theorem QFn.setName (h:QFn src tb tc ts g R w0 b0 F w s N name line pv acc ret body) (x:ByteArray):QFn src tb tc ts g R w0 b0 F (w.setCell ⟨F,0,none⟩ (.string x)) s N x line pv acc ret body:=by
 obtain⟨a,b,c⟩:=h.mE 0 (.string x);exact⟨a,b,h.bf.setCell 0 _,h.hf,c,h.new⟩
theorem QFn.vZ (h:QFn src tb tc ts g R w0 b0 F w s N name line pv acc ret body) (x:Nat):QFn src tb tc ts g R w0 b0 F (w.setCell ⟨F,3,none⟩ (.int .i64 (x:Nat))) s N name line pv acc x body:=by
 obtain⟨a,b,c⟩:=h.mE 3 (.int .i64 (x:Nat));exact⟨a,b,h.bf.setCell 3 _,h.hf,c,h.new⟩
theorem QFn.setBody (h:QFn src tb tc ts g R w0 b0 F w s N name line pv acc ret body) (x:Nat):QFn src tb tc ts g R w0 b0 F (w.setCell ⟨F,4,none⟩ (.int .i64 (x:Nat))) s N name line pv acc ret x:=by
 obtain⟨a,b,c⟩:=h.mE 4 (.int .i64 (x:Nat));exact⟨a,b,h.bf.setCell 4 _,h.hf,c,h.new⟩
theorem QFn.cells (h:QFn src tb tc ts g R w0 b0 F w s N name line pv acc ret body) (j:Nat):w.cell? ⟨F,j,none⟩=(#[.string name,.int .i64 line,pv,.int .i64 ret,.int .i64 body]:Array Value)[j]?∧w.frozen? ⟨F,j,none⟩=false∧F<w.heap.size:=
 ⟨h.bf.cell j,h.bf.frozen j,h.bf.lt⟩
theorem QFn.box (h:QFn src tb tc ts g R w0 b0 F w s N name line pv acc ret body):w.cell? ⟨b0,0,none⟩=some (.pointer (some ⟨g,0,none⟩)):=by rw[h.bb.cell 0];rfl
theorem QFn.app (h:QFn src tb tc ts g R w0 b0 F w s N name line pv acc ret body){o:Obj}{v':Value}{x:List UInt8}{t:Nat}
   (ho:Own w' 101 2 v' (acc.length+1) (aV acc++[.string (bs x),.int .i64 (t:Nat)])) (hfr:Fr (obl (blk pv)) (w.alloc o) w') (hv:blk v'=blk pv∨blk v'=some (w.alloc o).heap.size):
   QFn src tb tc ts g R w0 b0 F (w'.setCell ⟨F,2,none⟩ v') s N name line v' (acc++[(x,t)]) ret body:=by
 have h1:=h.alloc o;have hown:=h1.own;have h2:QS src tb tc ts g R w0 w' s N:=h1.q.frM hfr (fun k hk=>h.new k hk) (fun k hk=>by
   obtain⟨cs,hc⟩:=hown.ty (k:=k) hk;exact⟨_,_,hc,by decide,by decide,by decide,fun e=>absurd e (by decide)⟩)
 have hbf2:=h1.bf.fr hfr (fun hm=>hown.aG h1.bf (by decide) hm);have hbb2:=h1.bb.fr hfr (fun hm=>hown.aG h1.bb (by decide) hm);have h3:Own w' 101 2 v' (acc++[(x,t)]).length (aV (acc++[(x,t)])):=by
   rw[List.length_append];unfold aV at ho ⊢;rw[List.flatMap_append];exact ho
 refine⟨h2.cell hbf2 (by decide) (by decide) (by decide) (by decide) h.hf 2 v',hbb2.far (p:=⟨F,2,none⟩) (fun e=>hbb2.ne hbf2 (by decide) e) _,hbf2.setCell 2 _,h.hf,h3.far (p:=⟨F,2,none⟩) (h3.aG hbf2 (by decide)) _,fun k hk=>?_⟩;rcases hv with e|e
 · rw[e] at hk;exact h.new k hk
 · rw[e] at hk;injection hk with hk
   have:=h1.q.fr.size;omega
end
theorem oQ:Enters Tryz.prog 81:=enters_of Tryz.func81 (by kernel_rfl) rfl
theorem vB {src:ByteArray}{tb tc:Nat}{ts:List Tok}{g:Nat}{N:Lim}{R:Nat→Prop}{w0 w:World}{s:PS}{b0 F:Nat}{name:ByteArray}{line:Nat}{pv:Value}{acc:List (List UInt8×Nat)}
  (h:QFn src tb tc ts g R w0 b0 F w s N name line pv acc 0 0) (hl:acc.length≤1000):
  Calls Tryz.prog 81 #[.pointer (some ⟨b0,0,none⟩),.pointer (some ⟨F,0,none⟩)] w fun e w'=>e = .returned (.tuple #[])∧∃pv',QFn src tb tc ts g R w0 b0 F w' (aR ts (aC ts s)) N name line pv' (acc++[(bK ts s,bQ ts (aC ts s))]) 0 0:=by
 have H:=hD h;have HL:=hD hl;obtain⟨X,hX⟩:∃X,bs (bK ts s)=X:=⟨_,rfl⟩;have HX:=hD hX;have x0:=h.box;obtain⟨PA,PC,hv,hc1,hc2⟩:=h.own.cap;obtain⟨m,hm⟩:∃m,acc.length=m:=⟨_,rfl⟩;rw[hm] at hv HL;subst hv;have HMM:=hD hm;obtain⟨t,ht⟩:∃t,bQ ts (aC ts s)=t:=⟨_,rfl⟩;have HT:=hD ht;rw[ht];clear h hl hX hc1 hc2 hm ht;go_enter Tryz.func81,Tryz.ntmps81;go_wp2_with fail
 refine (H.out.q.here.name HX.out).mono ?_;rintro e w1 ⟨rfl,h1⟩;have S1:=hD (H.out.to h1);clear h1 x0;have S2:=hD (S1.out.alloc (.cells #[.string X,.int .i64 0] 101));have P2:=hD (Blk.new w1 101 #[.string X,.int .i64 0]);have x2:=S2.out.box;have PL:=hD (show ∀k,blk (.slice PA m PC)=some k→k<w1.heap.size from fun k hk=>S1.out.own.cO hk);go_wp2_with fail
 refine (S2.out.q.here.typed HT.out).mono ?_;rintro e w3 ⟨rfl,h3⟩;have S3:=hD (S2.out.to h3);obtain⟨cg,hcg⟩:=S2.out.q.rW;have P3:=hD (h3.fr.blk P2.out (P2.out.ne hcg (by decide)) (by decide));clear h3 x2 hcg;have p0:w3.cell? ⟨w1.heap.size,0,none⟩=some (.string X):=by rw[P3.out.cell 0];rfl
 have p1:w3.cell? ⟨w1.heap.size,1,none⟩=some (.int .i64 0):=by rw[P3.out.cell 1];rfl
 have pf:=P3.out.frozen 1;obtain⟨c2,f2,hF⟩:=S3.out.cells 2;simp at c2
 have n1:¬F=w1.heap.size:=S3.out.bf.ne P3.out (by decide);have n2:¬w1.heap.size=F:=fun e=>n1 e.symm
 have S4:=hD (show QFn src tb tc ts g R w0 b0 F (w3.setCell ⟨w1.heap.size,1,none⟩ (.int .i64 t)) (aR ts (aC ts s)) N name line (.slice PA m PC) acc 0 0 from
  ⟨S3.out.q.cell P3.out (by decide) (by decide) (by decide) (by decide) S1.out.q.fr.size 1 _,S3.out.bb.far (p:=⟨w1.heap.size,1,none⟩) (fun e=>S3.out.bb.ne P3.out (by decide) e) _,S3.out.bf.far (p:=⟨w1.heap.size,1,none⟩) n1 _,S3.out.hf,S3.out.own.far (p:=⟨w1.heap.size,1,none⟩) (fun e=>by have:=PL.out _ e;exact absurd this (Nat.lt_irrefl _)) _,S3.out.new⟩)
 have NB:=hD (show Blk ((w3.setCell ⟨w1.heap.size,1,none⟩ (.int .i64 t)).alloc (.cells #[.string X,.int .i64 t] 101)) w3.heap.size 101 #[.string X,.int .i64 t] from by
  have h9:=Blk.new (w3.setCell ⟨w1.heap.size,1,none⟩ (.int .i64 t)) 101 #[.string X,.int .i64 t];rwa [show (w3.setCell ⟨w1.heap.size,1,none⟩ (.int .i64 t)).heap.size=w3.heap.size by simp] at h9)
 go_wp2_with (at_builtin;go_loud (refine aL (v:= .slice PA m PC) (n:=m) (m:=1) (xs:=aV acc) (news:=[.string X,.int .i64 (t:Nat)]) rfl _ _ rfl lZ rfl rfl (by have h9:=S4.out.own;rw[HMM.out] at h9;exact h9.alloc _) (Rd.fC (n:=1) (cs:=[.string X,.int .i64 (t:Nat)]) NB.out rfl (by decide)) (by simp[Value.oneCell']) (by have h9:=HL.out;omega) (by have h9:=HL.out;unfold maxLen;omega) ?_);intro A6 c6 w6 ho6 hf6 hv6;go_loud (have S6:=hD (S4.out.app (x:=bK ts s) (t:=t) (by rw[HX.out,HMM.out];exact ho6) hf6 hv6));go_loud (have g5:=hD ((S4.out.bf.alloc (.cells #[.string X,.int .i64 t] 101)).fr hf6 (fun hm=>(S4.out.own.alloc (.cells #[.string X,.int .i64 t] 101)).aG (S4.out.bf.alloc (.cells #[.string X,.int .i64 t] 101)) (by decide) hm)));have g2:=g5.out.frozen 2;have g3:=g5.out.cell 2;have g4:=g5.out.lt;simp at g3;clear ho6 hf6 hv6)
 refine bodyPost_end (results_none rfl _ _ _) rfl ⟨rfl,_,S6.out⟩
theorem QS.aRk {src:ByteArray}{tb tc:Nat}{ts:List Tok}{g:Nat}{N:Lim}{R:Nat→Prop}{w0 w w':World}{s:PS} (h:QS src tb tc ts g R w0 w s N){b:Nat}{cs:Array Value} (hb:Blk w b 48 cs) (hn:w0.heap.size≤b) (f:Fr (bZ b) w w'):QS src tb tc ts g R w0 w' s N:=
 h.frM f (fun k hk=>by have e:k=b:=hk;subst e;exact hn) (fun k hk=>by
  have e:k=b:=hk;subst e;exact⟨_,_,hb,by decide,by decide,by decide,fun e=>absurd e (by decide)⟩)
def kR (ts:List Tok) (k:Nat) (acc:List (List UInt8×Nat)) (s:PS):Option (List (List UInt8×Nat)×PS):=some (acc++[(bK ts s,bQ ts (aC ts s))],aR ts (aC ts s))
theorem qC (ts:List Tok):∀(k:Nat) (acc:List (List UInt8×Nat)) (s:PS),aGf ts (kR ts) k acc s=aH ts k acc s
 | 0,_,_=>rfl
 | k+1,acc,s=>by
  simp only[aGf,aH,kR,Option.bind_some];split
  · exact qC ts k _ _
  · rfl
theorem uR {ts:List Tok} (k:Nat) (a:List (List UInt8×Nat)) (s:PS) (r:List (List UInt8×Nat)×PS) (h:kR ts k a s=some r):s.nodes.length≤r.2.nodes.length∧s.i≤r.2.i∧r.1.length=a.length+1:=by
 unfold kR at h;simp only[Option.some.injEq] at h;subst h;have hx:=((Ext.refl s).named (ts:=ts)).typed (ts:=ts);exact⟨aU hx,hx.i,by simp⟩
def FnI (src:ByteArray) (tb tc:Nat) (ts:List Tok) (g:Nat) (R:Nat→Prop) (w0:World) (b0 F:Nat) (N:Lim) (name:ByteArray) (line:Nat) (w:World) (s:PS) (acc:List (List UInt8×Nat)):Prop:=
 ∃pv,QFn src tb tc ts g R w0 b0 F w s N name line pv acc 0 0
theorem aOj (src:ByteArray) (tb tc:Nat) (ts:List Tok) (g:Nat) (R:Nat→Prop) (w0:World) (b0 F:Nat) (N:Lim) (name:ByteArray) (line:Nat):aMu src tb tc ts g (FnI src tb tc ts g R w0 b0 F N name line):=by
 intro w s a h;obtain⟨pv,hq⟩:=h;exact⟨R,N,hq.q.here,fun w' s' he h'=>⟨pv,hq.to h'⟩⟩
theorem xA {src:ByteArray}{tb tc:Nat}{ts:List Tok}{g n:Nat}{N:Lim}{R:Nat→Prop}{w0 w:World}{s s2:PS}{b0 F:Nat}{name:ByteArray}{line:Nat}{p:List (List UInt8×Nat)×PS}
   (h:QFn src tb tc ts g R w0 b0 F w s N name line (.slice none 0 0) [] 0 0) (hs2:aA ts [40] s=s2) (hr:(if pIs ts [41] s2=false∧s2.e=0 then aH ts n [] s2 else some ([],s2))=some p):
   Calls Tryz.prog 80 #[.pointer (some ⟨g,0,none⟩),.func (.func 81) #[] #[.pointer (some ⟨b0,0,none⟩),.pointer (some ⟨F,0,none⟩)]] w fun e w'=>e = .returned (.tuple #[])∧FnI src tb tc ts g R w0 b0 F N name line w' (aA ts [41] p.2) p.1:=by
 refine aGe (one:=kR ts) (len:=List.length) (n:=n) (L:=p.2.nodes.length) (aOj src tb tc ts g R w0 b0 F N name line) oQ uR ?_ (a:=[]) (s:=s) (s2:=s2) ⟨_,h⟩ rfl hs2 ?_ (Nat.le_refl _)
 · intro k w s a u hk hI he hl hu hul
   obtain⟨pv,hq⟩:=hI;unfold kR at hu;simp only[Option.some.injEq] at hu;subst hu;refine (vB hq hl).mono ?_;rintro e w' ⟨rfl,pv',h3⟩;exact⟨rfl,pv',h3⟩
 · split
   · rename_i hh
     rw[qC,←hr,if_pos hh]
   · rename_i hh
     rw[←hr,if_neg hh]
theorem aGp {src:ByteArray}{tb tc:Nat}{ts:List Tok}{g n:Nat} (hsg:aJo ts){N:Lim}{R:Nat→Prop}{w0 w:World}{s:PS}{fs:aD×PS} (h:QS src tb tc ts g R w0 w s N) (h0:s.e=0) (hr:bJ src.data.toList ts n s=some fs) (hn:fs.2.nodes.length+20*n+40≤1000000):
   Calls Tryz.prog 51 #[.pointer (some ⟨g,0,none⟩)] w fun e w'=>∃(pv:Value) (x:Nat),e = .returned (.agg #[.string (bs fs.1.name),.int .i64 fs.1.line,pv,.int .i64 fs.1.ret,.int .i64 x])∧(fs.2.e=0→x=fs.1.body)∧QS src tb tc ts g R w0 w' fs.2 ⟨10*n+1,N.d⟩∧Own w' 101 2 pv fs.1.params.length (aV fs.1.params)∧(∀k,blk pv=some k→w0.heap.size≤k):=by
 have S0:=hD (h.zero h0 0);have HB:=hD (aGj src tb tc ts g hsg n).2;obtain⟨cg,hcg⟩:=h.rW;have hgl:g<w.heap.size:=hcg.lt;have NE:=hD (show ∀k,w.heap.size≤k→k≠g from fun k hk e=>by omega);obtain⟨W1,hW1⟩:∃W1,W1=((w.alloc (.cells #[.pointer (some ⟨g,0,none⟩)] 78)).alloc (.cells #[.string ⟨#[]⟩,.int .i64 0,.slice none 0 0,.int .i64 0,.int .i64 0] 48)):=⟨_,rfl⟩;have hsz1:(w.alloc (.cells #[.pointer (some ⟨g,0,none⟩)] 78)).heap.size=w.heap.size+1:=by simp
 have A0:=hD (show Fr nob w W1 from by rw[hW1];exact ((fR w).alloc _).alloc _);have B0:=hD (show Blk W1 w.heap.size 78 #[.pointer (some ⟨g,0,none⟩)] from by rw[hW1];exact (Blk.new w _ _).alloc _);have BT:=hD (show Blk W1 (w.heap.size+1) 48 #[.string ⟨#[]⟩,.int .i64 0,.slice none 0 0,.int .i64 0,.int .i64 0] from by
   rw[hW1];have h9:=Blk.new (w.alloc (.cells #[.pointer (some ⟨g,0,none⟩)] 78)) 48 #[.string ⟨#[]⟩,.int .i64 0,.slice none 0 0,.int .i64 0,.int .i64 0];rwa [hsz1] at h9)
 have S1:=hD (S0.out.no A0.out).here;have x0:W1.cell? ⟨w.heap.size,0,none⟩=some (.pointer (some ⟨g,0,none⟩)):=by rw[B0.out.cell 0];rfl
 have HW:=hD hW1;have HSW:=hD (show W1.heap.size=w.heap.size+2 from by rw[hW1];simp);have hmf:∀(fn:Fn) (first cap:Array Value) (w:World),(Instr.makeFunc fn first cap).run Tryz.prog w = .ok (.func fn first cap) w:=fun _ _ _ _=>rfl
 simp only[bJ,bS,mS] at hr;obtain⟨p,hp,b,hb,rfl⟩:=hr;obtain⟨NM,hNM⟩:∃NM,bs (bK ts (aA ts [102,110] s))=NM:=⟨_,rfl⟩;obtain⟨line,hline⟩:∃line,aS src.data.toList ts s=line:=⟨_,rfl⟩;obtain⟨RT,hRT⟩:∃RT,(if pIs ts [123] (aA ts [41] p.2)=true then 0 else bQ ts (aA ts [41] p.2))=RT:=⟨_,rfl⟩;rw[hline,hRT,hNM,show b.1.headD 0=oneOf b.1 from rfl];have HLN:=hD hline;have HNM:=hD hNM;have HPP:=hD hp;have HN:=hD (show b.2.nodes.length+20*n+40≤1000000 from hn);have H0:=hD h0;have LW:=hD h.fr.size;by_cases hop:pIs ts [123] (aA ts [41] p.2)=true
 · rw[if_pos hop] at hb hRT
   have HOP:=hD hop;have HBL:=hD hb;subst hRT;clear h hcg hgl hsz1 hp hb hn h0 hop hline hNM hW1;go_enter Tryz.func51,Tryz.ntmps51;go_wp2_with fail
   rw[←HW.out];refine S1.out.line.mono ?_;rintro e w1 ⟨y,rfl,hy,h1⟩;have S2:=hD h1;have HY:=hD ((hy H0.out).trans HLN.out);clear h1 hy x0;have S3:=hD (show QFn src tb tc ts g R W1 w.heap.size w1.heap.size (w1.alloc (.cells #[.string ⟨#[]⟩,.int .i64 y,.slice none 0 0,.int .i64 0,.int .i64 0] 48)) s ⟨0,N.d⟩ ⟨#[]⟩ y (.slice none 0 0) [] 0 0 from
    ⟨S2.out.alloc _,(S2.out.fr.blk B0.out (NE.out _ (Nat.le_refl _)) (by decide)).alloc _,Blk.new w1 _ _,S2.out.fr.size,Own.nil _ _ _,fun k hk=>by simp[blk] at hk⟩)
   have x1:w1.cell? ⟨w.heap.size,0,none⟩=some (.pointer (some ⟨g,0,none⟩)):=by rw[(S2.out.fr.blk B0.out (NE.out _ (Nat.le_refl _)) (by decide)).cell 0];rfl
   have x3:=S3.out.box;go_wp2_with fail
   refine (S3.out.q.here.must ⟨#[102,110]⟩).mono ?_;rintro e w4 ⟨rfl,h4⟩;have S4:=hD (S3.out.to h4);clear h4 x1 x3;have x4:=S4.out.box;go_wp2_with fail
   refine (S4.out.q.here.name HNM.out).mono ?_;rintro e w5 ⟨rfl,h5⟩;have S5:=hD (S4.out.to h5);clear h5 x4;obtain⟨a0,f0,hF⟩:=S5.out.cells 0;simp at a0
   have x5:(w5.setCell ⟨w1.heap.size,0,none⟩ (.string NM)).cell? ⟨w.heap.size,0,none⟩=some (.pointer (some ⟨g,0,none⟩)):=(S5.out.setName NM).box;have S6:=hD (S5.out.setName NM);have HR:=hD (xA S6.out rfl HPP.out);go_wp2_with fail
   refine HR.out.mono ?_;rintro e w7 ⟨rfl,pv,h7⟩;have S7:=hD h7;clear h7 x5 a0 f0 hF;obtain⟨PA,PC,hpv,hc1,hc2⟩:=S7.out.own.cap;generalize hpl:p.1.length=pl at *;subst hpv;clear hc1 hc2;have HPL:=hD hpl;clear hpl;have x7:=S7.out.box;have A8:=hD (show Fr nob w7 (w7.alloc (.cells #[.string ⟨#[123]⟩] 9)) from (fR w7).alloc _);have HI:=hD ((S7.out.q.no A8.out).is1 ⟨#[123]⟩ (Blk.new w7 _ _) (z:=true) HOP.out);go_wp2_with fail
   refine HI.out.mono ?_;rintro e w8 ⟨rfl,h8⟩;have S8:=hD (S7.out.to (S7.out.q.here.no (A8.out.tr h8)));clear h8 x7;have x8:=S8.out.box;have HBK:=hD (HB.out.at (N:=N) (m:=0) S8.out.q.here (Nat.zero_le _) HBL.out HN.out);go_wp2_with fail
   refine HBK.out.mono ?_;rintro e wb ⟨xb,rfl,hx,hb⟩;have SB:=hD (S8.out.to hb);have HXB:=hD hx;clear hx hb x8;skip
   obtain⟨a4,f4,hF⟩:=SB.out.cells 4;simp at a4
   have SC:=hD (SB.out.setBody xb);have BTC:=hD (show Blk (wb.setCell ⟨w1.heap.size,4,none⟩ (.int .i64 xb)) (w.heap.size+1) 48 #[.string ⟨#[]⟩,.int .i64 0,.slice none 0 0,.int .i64 0,.int .i64 0] from SC.out.q.fr.blk BT.out (NE.out _ (Nat.le_succ _)) (by decide));obtain⟨b0,_,hFl⟩:=SC.out.cells 0;obtain⟨b1,_,_⟩:=SC.out.cells 1;obtain⟨b2,_,_⟩:=SC.out.cells 2;obtain⟨b3,_,_⟩:=SC.out.cells 3;obtain⟨b4,_,_⟩:=SC.out.cells 4;have t0:=BTC.out.frozen 0;have t1:=BTC.out.frozen 1;have t2:=BTC.out.frozen 2;have t3:=BTC.out.frozen 3;have t4:=BTC.out.frozen 4;have u0:=BTC.out.cell 0;have u1:=BTC.out.cell 1;have u2:=BTC.out.cell 2;have u3:=BTC.out.cell 3;have u4:=BTC.out.cell 4;have hTl:=BTC.out.lt;simp only[List.size_toArray,List.length_cons,List.length_nil,Nat.reduceAdd,Nat.reduceLT,getElem?_pos,List.getElem_toArray,List.getElem_cons_zero,List.getElem_cons_succ] at b0 b1 b2 b3 b4 u0 u1 u2 u3 u4;go_wp2_with fail
   clear b0 b1 b2 b3 b4 t0 t1 t2 t3 t4 u0 u1 u2 u3 u4 hTl hF hFl a4 f4;have HB9:=hD (((((BTC.out.setCell 0 (.string NM)).setCell 1 (.int .i64 y)).setCell 2 (.slice PA pl PC)).setCell 3 (.int .i64 (0:Nat))).setCell 4 (.int .i64 xb));have HF9:=hD (Fr.five (wb.setCell ⟨w1.heap.size,4,none⟩ (.int .i64 xb)) (w.heap.size+1) (.string NM) (.int .i64 y) (.slice PA pl PC) (.int .i64 (0:Nat)) (.int .i64 xb));have QE:=hD (QS.aRk ((S0.out.no A0.out).back SC.out.q) BTC.out (by have:=LW.out;omega) HF9.out);have OE:=hD (SC.out.own.fr HF9.out (fun k hk hm=>SC.out.own.aG BTC.out (by decide) (by rw[hk,show k=w.heap.size+1 from hm])));rw[show ((0:Nat):Int)=0 from rfl] at HB9 HF9 QE OE;generalize (World.setCell (World.setCell (World.setCell (World.setCell (World.setCell (World.setCell wb _ _) _ _) _ _) _ _) _ _) _ _)=we at *;have z0:=HB9.out.cell 0;have z1:=HB9.out.cell 1;have z2:=HB9.out.cell 2;have z3:=HB9.out.cell 3;have z4:=HB9.out.cell 4;simp at z0 z1 z2 z3 z4
   have hyl:=HY.out;subst hyl;refine bodyPost_ret (v:= .agg #[.string NM,.int .i64 y,.slice PA pl PC,.int .i64 (0:Nat),.int .i64 xb]) (by simp[results,Tryz.results51,go_sem,z0,z1,z2,z3,z4]) rfl ⟨.slice PA pl PC,xb,rfl,HXB.out,QE.out,OE.out,fun k hk=>?_⟩;have h8:=SC.out.new k hk;have:=LW.out;have:=HSW.out;omega
 · rw[if_neg hop] at hb hRT
   have HOP:=hD (show pIs ts [123] (aA ts [41] p.2)=false by simpa using hop);have HRT:=hD hRT;have HBL:=hD hb;clear h hcg hgl hsz1 hp hb hn h0 hop hline hNM hRT hW1;go_enter Tryz.func51,Tryz.ntmps51;go_wp2_with fail
   rw[←HW.out];refine S1.out.line.mono ?_;rintro e w1 ⟨y,rfl,hy,h1⟩;have S2:=hD h1;have HY:=hD ((hy H0.out).trans HLN.out);clear h1 hy x0;have S3:=hD (show QFn src tb tc ts g R W1 w.heap.size w1.heap.size (w1.alloc (.cells #[.string ⟨#[]⟩,.int .i64 y,.slice none 0 0,.int .i64 0,.int .i64 0] 48)) s ⟨0,N.d⟩ ⟨#[]⟩ y (.slice none 0 0) [] 0 0 from
    ⟨S2.out.alloc _,(S2.out.fr.blk B0.out (NE.out _ (Nat.le_refl _)) (by decide)).alloc _,Blk.new w1 _ _,S2.out.fr.size,Own.nil _ _ _,fun k hk=>by simp[blk] at hk⟩)
   have x1:w1.cell? ⟨w.heap.size,0,none⟩=some (.pointer (some ⟨g,0,none⟩)):=by rw[(S2.out.fr.blk B0.out (NE.out _ (Nat.le_refl _)) (by decide)).cell 0];rfl
   have x3:=S3.out.box;go_wp2_with fail
   refine (S3.out.q.here.must ⟨#[102,110]⟩).mono ?_;rintro e w4 ⟨rfl,h4⟩;have S4:=hD (S3.out.to h4);clear h4 x1 x3;have x4:=S4.out.box;go_wp2_with fail
   refine (S4.out.q.here.name HNM.out).mono ?_;rintro e w5 ⟨rfl,h5⟩;have S5:=hD (S4.out.to h5);clear h5 x4;obtain⟨a0,f0,hF⟩:=S5.out.cells 0;simp at a0
   have x5:(w5.setCell ⟨w1.heap.size,0,none⟩ (.string NM)).cell? ⟨w.heap.size,0,none⟩=some (.pointer (some ⟨g,0,none⟩)):=(S5.out.setName NM).box;have S6:=hD (S5.out.setName NM);have HR:=hD (xA S6.out rfl HPP.out);go_wp2_with fail
   refine HR.out.mono ?_;rintro e w7 ⟨rfl,pv,h7⟩;have S7:=hD h7;clear h7 x5 a0 f0 hF;obtain⟨PA,PC,hpv,hc1,hc2⟩:=S7.out.own.cap;generalize hpl:p.1.length=pl at *;subst hpv;clear hc1 hc2;have HPL:=hD hpl;clear hpl;have x7:=S7.out.box;have A8:=hD (show Fr nob w7 (w7.alloc (.cells #[.string ⟨#[123]⟩] 9)) from (fR w7).alloc _);have HI:=hD ((S7.out.q.no A8.out).is1 ⟨#[123]⟩ (Blk.new w7 _ _) (z:=false) HOP.out);go_wp2_with fail
   refine HI.out.mono ?_;rintro e w8 ⟨rfl,h8⟩;have S8:=hD (S7.out.to (S7.out.q.here.no (A8.out.tr h8)));clear h8 x7;have x8:=S8.out.box;go_wp2_with fail
   refine (S8.out.q.here.typed HRT.out).mono ?_;rintro e w9 ⟨rfl,h9⟩;have S9:=hD (S8.out.to h9);clear h9 x8;obtain⟨a3,f3,hF⟩:=S9.out.cells 3;simp at a3
   have SA:=hD (S9.out.vZ RT);have xa:=SA.out.box;have HBK:=hD (HB.out.at (N:=N) (m:=0) SA.out.q.here (Nat.zero_le _) HBL.out HN.out);go_wp2_with fail
   refine HBK.out.mono ?_;rintro e wb ⟨xb,rfl,hx,hb⟩;have SB:=hD (SA.out.to hb);have HXB:=hD hx;clear hx hb xa a3 f3 hF;obtain⟨a4,f4,hF⟩:=SB.out.cells 4;simp at a4
   have SC:=hD (SB.out.setBody xb);have BTC:=hD (show Blk (wb.setCell ⟨w1.heap.size,4,none⟩ (.int .i64 xb)) (w.heap.size+1) 48 #[.string ⟨#[]⟩,.int .i64 0,.slice none 0 0,.int .i64 0,.int .i64 0] from SC.out.q.fr.blk BT.out (NE.out _ (Nat.le_succ _)) (by decide));obtain⟨b0,_,hFl⟩:=SC.out.cells 0;obtain⟨b1,_,_⟩:=SC.out.cells 1;obtain⟨b2,_,_⟩:=SC.out.cells 2;obtain⟨b3,_,_⟩:=SC.out.cells 3;obtain⟨b4,_,_⟩:=SC.out.cells 4;have t0:=BTC.out.frozen 0;have t1:=BTC.out.frozen 1;have t2:=BTC.out.frozen 2;have t3:=BTC.out.frozen 3;have t4:=BTC.out.frozen 4;have u0:=BTC.out.cell 0;have u1:=BTC.out.cell 1;have u2:=BTC.out.cell 2;have u3:=BTC.out.cell 3;have u4:=BTC.out.cell 4;have hTl:=BTC.out.lt;simp only[List.size_toArray,List.length_cons,List.length_nil,Nat.reduceAdd,Nat.reduceLT,getElem?_pos,List.getElem_toArray,List.getElem_cons_zero,List.getElem_cons_succ] at b0 b1 b2 b3 b4 u0 u1 u2 u3 u4;go_wp2_with fail
   clear b0 b1 b2 b3 b4 t0 t1 t2 t3 t4 u0 u1 u2 u3 u4 hTl hF hFl a4 f4;have HB9:=hD (((((BTC.out.setCell 0 (.string NM)).setCell 1 (.int .i64 y)).setCell 2 (.slice PA pl PC)).setCell 3 (.int .i64 RT)).setCell 4 (.int .i64 xb));have HF9:=hD (Fr.five (wb.setCell ⟨w1.heap.size,4,none⟩ (.int .i64 xb)) (w.heap.size+1) (.string NM) (.int .i64 y) (.slice PA pl PC) (.int .i64 RT) (.int .i64 xb));have QE:=hD (QS.aRk ((S0.out.no A0.out).back SC.out.q) BTC.out (by have:=LW.out;omega) HF9.out);have OE:=hD (SC.out.own.fr HF9.out (fun k hk hm=>SC.out.own.aG BTC.out (by decide) (by rw[hk,show k=w.heap.size+1 from hm])));generalize (World.setCell (World.setCell (World.setCell (World.setCell (World.setCell (World.setCell wb _ _) _ _) _ _) _ _) _ _) _ _)=we at *;have z0:=HB9.out.cell 0;have z1:=HB9.out.cell 1;have z2:=HB9.out.cell 2;have z3:=HB9.out.cell 3;have z4:=HB9.out.cell 4;simp at z0 z1 z2 z3 z4
   have hyl:=HY.out;subst hyl;refine bodyPost_ret (v:= .agg #[.string NM,.int .i64 y,.slice PA pl PC,.int .i64 RT,.int .i64 xb]) (by simp[results,Tryz.results51,go_sem,z0,z1,z2,z3,z4]) rfl ⟨.slice PA pl PC,xb,rfl,HXB.out,QE.out,OE.out,fun k hk=>?_⟩;have h8:=SC.out.new k hk;have:=LW.out;have:=HSW.out;omega
theorem fV:∀{fs:List aD}{vs:List Value}{j:Nat}{f:aD}{v:Value},fs[j]?=some f→vs[j]?=some v→∀k,k<5→(bY fs vs)[j*5+k]?=(jA f v)[k]?
 | [],_,_,_,_,h,_,_,_=>by simp at h
 | _ :: _,[],_,_,_,_,h,_,_=>by simp at h
 | a :: fs,b :: vs,0,f,v,h,h2,k,hk=>by
  simp at h h2;subst h;subst h2
  rw[bY,Nat.zero_mul,Nat.zero_add,List.getElem?_append_left (by simp[jA];omega)]
 | a :: fs,b :: vs,j+1,f,v,h,h2,k,hk=>by
  have:=fV (fs:=fs) (vs:=vs) (j:=j) (by simpa using h) (by simpa using h2) k hk;rw[bY,List.getElem?_append_right (by simp[jA];omega),show (jA a b).length=5 from rfl,show (j+1)*5+k - 5=j*5+k by omega];exact this
theorem aHr (a:ByteArray) (l:Nat) (A:Option Addr) (n c r b:Nat) (w:World):
   Calls Tryz.prog 53 #[.agg #[.string a,.int .i64 l,.slice A n c,.int .i64 r,.int .i64 b]] w fun e w'=>e = .returned (.bool (decide (3<n)))∧Fr nob w w':=by
 by_cases h:3<n
 · rw[decide_eq_true h]
   have h1:(3:Int)<(n:Int):=by omega
   clear h;go_enter Tryz.func53,Tryz.ntmps53;go_wp2_with fail
   go_ret;exact⟨rfl,(fR w).alloc _⟩
 · rw[decide_eq_false h]
   have h1:¬(3:Int)<(n:Int):=by omega
   have h2:(n:Int)≤3:=by omega
   clear h;go_enter Tryz.func53,Tryz.ntmps53;go_wp2_with fail
   go_ret;exact⟨rfl,(fR w).alloc _⟩
def wR (f:aD):Bool:=decide (3<f.params.length)
theorem aEh {w:World}{A:Option Addr}{c:Nat}{fs:List aD}{pvs:List Value} (ho:Own w 48 5 (.slice A fs.length c) fs.length (bY fs pvs)) (hp:cB w fs pvs) (hs:fs.length=pvs.length):
  Calls Tryz.prog 42 #[.slice A fs.length c,.func (.func 53) #[] #[]] w fun e w'=>∃z:Int,e = .returned (.int .i64 z)∧decide (0≤z)=fs.any wR∧Fr nob w w':=by
 have O:=hD ho;have HP:=hD hp;have HS:=hD hs;obtain⟨A2,c2,hv,hc1,hc2⟩:=ho.cap;simp only[Value.slice.injEq,true_and] at hv;obtain⟨hv1,hv2⟩:=hv;subst hv1;subst hv2;have hml:(fs.length:Int)≤9223372036854775807:=by unfold maxLen at hc2;omega
 generalize hm:fs.length=m at *;have HMM:=hD hm;clear ho hp hs hm hc1 hc2;go_enter Tryz.func42,Tryz.ntmps42;go_wp2_with fail
 go_loopw [8] (fun i wr=>∃j:Nat,j≤m∧i = .int .i64 j∧Hid ((fs.take j).any wR=false)∧Hid (Fr nob w wr)) (fun i _=>m - (intOf i).toNat)
 case atStart=>exact⟨0,Nat.zero_le _,rfl,hD (by simp),hD (Fr.refl _ _)⟩
 case round=>
  obtain⟨j,hj,rfl,HA,F⟩:=hrel;by_cases hlt:j<m
  · have hlt2:(j:Int)<(m:Int):=by omega
    have hlf:j<fs.length:=by rw[HMM.out];exact hlt
    obtain⟨f,hf⟩:∃f,fs[j]?=some f:=⟨_,gE hlf⟩;obtain⟨pv,hpv⟩:∃pv,pvs[j]?=some pv:=⟨_,gE (by have:=HS.out;have:=HMM.out;omega)⟩;obtain⟨PA,PC,rfl,_,_⟩:=(HP.out.get hf hpv).cap;have ho:=O.out.fr F.out (fun _ _ x=>x);rw[←HMM.out] at ho;obtain⟨fb,rfl,hcell⟩:=ho.some (by omega);have e0:=hcell (j*5+0) _ (fV hf hpv 0 (by decide));have e1:=hcell (j*5+1) _ (fV hf hpv 1 (by decide));have e2:=hcell (j*5+2) _ (fV hf hpv 2 (by decide));have e3:=hcell (j*5+3) _ (fV hf hpv 3 (by decide));have e4:=hcell (j*5+4) _ (fV hf hpv 4 (by decide));rw[Nat.add_zero] at e0;have HT:=hD (show (fs.take (j+1)).any wR=wR f by rw[List.take_add_one,hf,List.any_append,HA.out];simp);have HC:=hD (fun wx=>aHr (bs f.name) f.line PA f.params.length PC f.ret f.body wx);have HD:Hid (decide (3<f.params.length)=wR f):=rfl;obtain⟨z,hz⟩:∃z,wR f=z:=⟨_,rfl⟩;rw[HD.out,hz] at HC;rw[hz] at HT;clear hf hpv hcell ho hlf HD hz;cases z with
    | true=>
     go_wp2_with fail
     refine (HC.out _).mono ?_;rintro e w2 ⟨rfl,hf2⟩;have F2:=hD (F.out.tr hf2);clear hf2;go_wp2_with fail
     go_ret;refine⟨j,rfl,?_,F2.out⟩;rw[show decide ((0:Int)≤(j:Int))=true by simp,eq_comm,List.any_eq_true];have h9:=HT.out;rw[List.any_eq_true] at h9;obtain⟨x,hx,hxx⟩:=h9;exact⟨x,List.mem_of_mem_take hx,hxx⟩
    | false=>
     go_wp2_with fail
     refine (HC.out _).mono ?_;rintro e w2 ⟨rfl,hf2⟩;have F2:=hD (F.out.tr hf2);clear hf2;go_wp2_with fail
     go_roundw
     case rel=>exact⟨j+1,by omega,by go_num,HT,F2⟩
     case measure=>simp[intOf];omega
  · have hle:(m:Int)≤(j:Int):=by omega
    have hnl:¬(j:Int)<(m:Int):=by omega
    have HJ:=hD (show fs.length≤j by rw[HMM.out];omega);clear hlt;go_wp2_with fail
    go_ret;refine⟨-1,rfl,?_,F.out⟩;have h9:=HA.out;rw[List.take_of_length_le HJ.out] at h9;rw[h9];rfl
theorem aLq {w:World}{A:Option Addr}{c:Nat}{fs:List aD}{pvs:List Value} (ho:Own w 48 5 (.slice A fs.length c) fs.length (bY fs pvs)) (hp:cB w fs pvs) (hs:fs.length=pvs.length):
  Calls Tryz.prog 52 #[.slice A fs.length c,.func (.func 53) #[] #[]] w fun e w'=>e = .returned (.bool (fs.any wR))∧Fr nob w w':=by
 have H:=hD (aEh ho hp hs);generalize fs.length=m at *;clear ho hp hs;go_enter Tryz.func52,Tryz.ntmps52;go_wp2_with fail
 refine H.out.mono ?_;rintro e w2 ⟨z,rfl,hz,hf⟩;have HZ:=hD hz;clear hz;go_wp2_with fail
 go_ret;exact⟨by rw[←HZ.out];rfl,hf⟩
theorem aEf {l:List UInt8}{k o m n:Nat} (h0:0<l.length) (h:firstM l = .ok k o m n) (hk:k=5):∀c∈(l.drop o).take m,¬(97≤c∧c≤122):=by
 unfold firstM at h;split at h
 · unfold iB at h
   split at h
   · injection h with h1 h2 h3 h4
     omega
   · cases h
 · split at h
   · unfold oP at h
     split at h
     · injection h with h1 h2 h3 h4
       omega
     · split at h
       · cases h
       · injection h with h1 h2 h3 h4
         omega
   · rename_i hl
     split at h
     · unfold lC at h
       split at h
       · cases h
       · split at h
         · cases h
         · injection h with h1 h2 h3 h4
           omega
     · unfold iW at h
       split at h
       · rename_i h2
         injection h with h1 h3 h4 h5;subst h3;subst h4;rw[List.drop_zero];have hin:=h2.2;unfold aMx isIn iV at hin;simp only[decide_eq_true_eq,List.map_cons,List.map_nil,List.mem_cons,List.not_mem_nil,or_false] at hin;intro c hc;rcases hin with e|e|e|e|e<;>rw[e] at hc<;>simp at hc
         · subst hc;decide
         · subst hc;decide
         · rcases hc with rfl|rfl<;>decide
         · subst hc;decide
         · rcases hc with rfl|rfl<;>decide
       · split at h
         · injection h with h1 h3 h4 h5
           subst h3;subst h4;rw[List.drop_zero];intro c hc hcc;cases l with
           | nil=>cases h0
           | cons a t=>
            simp at hc
            subst hc;apply hl
            have h1:97≤c.toNat∧c.toNat≤122:=⟨UInt8.le_iff_toNat_le.1 hcc.1,UInt8.le_iff_toNat_le.1 hcc.2⟩;unfold fO aT;simp only[List.getD_cons_zero,Bool.or_eq_true,Bool.and_eq_true,decide_eq_true_eq];left
            omega
         · cases h
theorem aHu:∀(n:Nat) (l:List UInt8) (p:Nat) (ts:List Tok),l.length≤n→lexFrom l p = .good ts→∀t∈ts,t.kind=5→∀c∈t.text,¬(97≤c∧c≤122):=by
 intro n;induction n with
 | zero=>
  intro l p ts hl h;have:l=[]:=List.eq_nil_of_length_eq_zero (by omega);subst this;rw[lex_nil] at h;injection h with h;subst h;intro t ht hk;rw[List.mem_singleton.1 ht] at hk;cases hk
 | succ n ih=>
  intro l p ts hl h;refine kU (Mo:=fun l p=>l.length≤n+1→lexFrom l p = .good ts→∀t∈ts,t.kind=5→∀c∈t.text,¬(97≤c∧c≤122)) l p ?_ ?_ ?_ ?_ ?_ hl h
  · intro _ _ h
    rw[lex_nil] at h;injection h with h;subst h;intro t ht hk;rw[List.mem_singleton.1 ht] at hk;cases hk
  · intro h0 hb hl h
    rw[eZ h0 hb] at h;have hd:(l.drop 1).length=l.length - 1:=by rw[List.length_drop]
    exact ih (l.drop 1) (p+1) ts (by omega) h
  · intro h0 hb hr hp hl h
    rw[fE h0 hb hr] at h;have hd:(l.drop (runN bR l)).length=l.length - runN bR l:=by rw[List.length_drop]
    exact ih (l.drop (runN bR l)) (p+runN bR l) ts (by omega) h
  · intro e h0 hb hr hf hl h
    rw[jY h0 hb hr hf] at h;cases h
  · intro k o m n' h0 hb hr hf hl h
    obtain⟨g1,g2,g3⟩:=gI h0 hf;rw[mR h0 hb hr hf] at h;have hd:(l.drop n').length=l.length - n':=by rw[List.length_drop]
    cases hq:lexFrom (l.drop n') (p+n') with
    | bad i e=>rw[hq] at h;cases h
    | good us=>
     rw[hq] at h;injection h with h;subst h;intro t ht hk;rcases List.mem_append.1 ht with ht|ht
     · rw[List.mem_singleton.1 ht] at hk ⊢
       exact aEf h0 hf hk
     · exact ih (l.drop n') (p+n') us (by omega) hq t ht hk
theorem aDz {l:List UInt8}{ts:List Tok} (h:nG l = .good ts):∀t∈ts,t.kind=5→∀c∈t.text,¬(97≤c∧c≤122):=by
 unfold nG at h;split at h
 · cases h
 · exact aHu l.length l 0 ts (Nat.le_refl _) h
structure aAg (w:World):Prop where
 lex:Lx.Vars w
 most:∃m:Int,Blk w 0 3 #[.int .i64 m]
theorem aMj {src:List UInt8}{ts:List Tok} (ht:aQ ts){n:Nat}{r:List aD×PS} (h:bC src ts n [] ⟨0,[],0,0,0⟩=some r):r.2.nodes.length≤40000:=by
 have h0:bO ts ⟨0,[],0,0,0⟩:=⟨ht.pos,by decide,fun _=>by decide,by decide,by decide⟩;obtain⟨a,b⟩:=aIl ht _ _ _ _ h h0;have:=a.room;have:=ht.few;unfold pot at b;simp at b
 omega
structure QA (src:ByteArray) (tb tc:Nat) (ts:List Tok) (g:Nat) (w0:World) (TT T9:Nat) (w:World) (s:PS) (N:Lim) (fv:Value) (fns:List aD) (pvs:List Value):Prop where
 q:QS src tb tc ts g (fun _=>False) w0 w s N
 bt:Blk w TT 26 #[.slice none 0 0,.slice none 0 0]
 b9:Blk w T9 26 #[.slice none 0 0,fv]
 h9:w0.heap.size≤T9
 ne:TT≠T9
 own:Own w 48 5 fv fns.length (bY fns pvs)
 pars:cB w fns pvs
 same:fns.length=pvs.length
 newf:∀k,blk fv=some k→w0.heap.size≤k
section
variable {src:ByteArray}{tb tc:Nat}{ts:List Tok}{g:Nat}{w0 w w1 w':World}{s s':PS}{N N':Lim}{TT T9:Nat}{fv:Value}{fns:List aD}{pvs:List Value}
theorem QA.to (h:QA src tb tc ts g w0 TT T9 w s N fv fns pvs) (h':QS src tb tc ts g (fun _=>False) w w' s' N'):QA src tb tc ts g w0 TT T9 w' s' N' fv fns pvs:=by
 obtain⟨cs,hb⟩:=h.q.rW;exact⟨h.q.back h',h'.fr.blk h.bt (h.bt.ne hb (by decide)) (by decide),h'.fr.blk h.b9 (h.b9.ne hb (by decide)) (by decide),h.h9,h.ne,h.own.frR hb (by decide) (by decide) h'.fr,
  h.pars.to h'.fr (fun k cu hk=>h'.fr.far hb hk (by decide) (by decide)),h.same,h.newf⟩
theorem QA.app (h:QA src tb tc ts g w0 TT T9 w s N fv fns pvs){f:aD}{pv:Value} (hp:Own w 101 2 pv f.params.length (aV f.params)){o:Obj}{v':Value}
   (ho:Own w' 48 5 v' (fns.length+1) (bY fns pvs++jA f pv)) (hf:Fr (obl (blk fv)) (w.alloc o) w') (hv:blk v'=blk fv∨blk v'=some (w.alloc o).heap.size):
   QA src tb tc ts g w0 TT T9 (w'.setCell ⟨T9,1,none⟩ v') s N v' (fns++[f]) (pvs++[pv]):=by
 have hst:=h.q.alloc o;have hown:=h.own.alloc o;have hbt:=h.bt.alloc o;have hb9:=h.b9.alloc o;have hpp:=hp.alloc o;have hpars:cB (w.alloc o) fns pvs:=(h.pars.to (M:=nob) ((fR w).alloc o) (fun _ _ _ x=>x));have h2:QS src tb tc ts g (fun _=>False) w0 w' s N:=hst.frM (M:=obl (blk fv)) hf (fun k hk=>h.newf k hk) (fun k hk=>by
   obtain⟨cs,hc⟩:=hown.ty (k:=k) hk;exact⟨_,_,hc,by decide,by decide,by decide,fun e=>absurd e (by decide)⟩)
 have hb92:=hb9.fr hf (fun hm=>hown.aG hb9 (by decide) hm);have hbt2:=hbt.fr hf (fun hm=>hown.aG hbt (by decide) hm);have hpars2:cB w' fns pvs:=hpars.to hf (fun k cs hk hm=>by
   obtain⟨cs2,hc⟩:=hown.ty (k:=k) hm;exact hk.ne hc (by decide) rfl)
 have hpp2:=hpp.fr hf (fun k hk hm=>hown.jR hpp (by decide) hk hm);have fs:Fr (bZ T9) w' (w'.setCell ⟨T9,1,none⟩ v'):=(Fr.refl _ w').setCell _ _ (fun _=>rfl);have h3:Own w' 48 5 v' (fns++[f]).length (bY (fns++[f]) (pvs++[pv])):=by
   rw[List.length_append,kG _ _ _ _ h.same];exact ho
 refine⟨h2.cell hb92 (by decide) (by decide) (by decide) (by decide) h.h9 1 v',hbt2.far (p:=⟨T9,1,none⟩) h.ne _,hb92.setCell 1 _,h.h9,h.ne,h3.far (p:=⟨T9,1,none⟩) (h3.aG hb92 (by decide)) _,
   cB.to fs (fun k cs hk hm=>hk.ne hb92 (by decide) hm) (cB.snoc hpp2 hpars2),by simp[h.same],fun k hk=>?_⟩
 rcases hv with e|e
 · rw[e] at hk;exact h.newf k hk
 · rw[e] at hk;injection hk with hk
   have:=hst.fr.size;omega
theorem QS.aIx {R:Nat→Prop} (h:QS src tb tc ts g R w0 w s N):g<w.heap.size∧w.cell? ⟨g,3,none⟩=some (.int .i64 s.e)∧w.cell? ⟨g,4,none⟩=some (.int .i64 s.place):=by
 obtain⟨q,lvs,hq,hs⟩:=h.q;obtain⟨hg,_,_,_,c3,c4,_⟩:=hq.cells;rw[hs.e] at c3;rw[hs.place] at c4;exact⟨hg,c3,c4⟩
theorem QS.aPm {R:Nat→Prop} (h:QS src tb tc ts g R w0 w s N) (h0:s.e=0):∃nv lvs,w.cell? ⟨g,5,none⟩=some nv∧Own w 50 5 nv s.nodes.length (bX s.nodes lvs)∧bG w s.nodes lvs∧s.nodes.length=lvs.length∧∀k,blk nv=some k→g<k:=by
 obtain⟨q,lvs,hq,hs⟩:=h.q;obtain⟨_,_,_,_,_,_,c5⟩:=hq.cells;obtain⟨h1,h2,h3⟩:=hs.row h0;have ho:=hq.own;rw[h1,h2] at ho;exact⟨q.nv,lvs,c5,ho,hs.below h0,h3,hq.newer⟩
theorem aLb {b0:Nat} (ht:xQ b0 w0 (.slice (some ⟨tb,0,none⟩) ts.length tc) ts) (hk:aQ ts) (hs:src.size≤281474976710656) (hv:Most w0 w0):
   QS src tb tc ts w0.heap.size (fun _=>False) w0 (w0.alloc (.cells #[.string src,.slice (some ⟨tb,0,none⟩) ts.length tc,.int .i64 0,.int .i64 0,.int .i64 0,.slice none 0 0] 82)) ⟨0,[],0,0,0⟩ ⟨0,0⟩:=by
 have hf:Fr nob w0 (w0.alloc (.cells #[.string src,.slice (some ⟨tb,0,none⟩) ts.length tc,.int .i64 0,.int .i64 0,.int .i64 0,.slice none 0 0] 82)):=(fR w0).alloc _;have hb:=Blk.new w0 82 #[.string src,.slice (some ⟨tb,0,none⟩) ts.length tc,.int .i64 0,.int .i64 0,.int .i64 0,.slice none 0 0];refine⟨⟨⟨0,0,0,0,0,.slice none 0 0,[]⟩,[],⟨?_,Own.nil _ _ _,⟨_,ht.no hf⟩,hk.pos,fun k hk=>by simp[blk] at hk⟩,?_⟩,fun k hk=>hk.elim,⟨hk.pos,by decide,fun _=>by decide,by decide,by decide⟩,hk,hs,FrR.no hf,hv.no hf⟩
 · have e:qG src tb (ts.length - 0) (tc - 0) ⟨0,0,0,0,0,.slice none 0 0,[]⟩ = #[.string src,.slice (some ⟨tb,0,none⟩) ts.length tc,.int .i64 0,.int .i64 0,.int .i64 0,.slice none 0 0]:=by
    unfold qG;simp
   show Blk _ _ _ (qG src tb (ts.length - 0) (tc - 0) ⟨0,0,0,0,0,.slice none 0 0,[]⟩)
   rw[e];exact hb
 · exact⟨rfl,rfl,rfl,fun _=>⟨rfl,rfl⟩,fun _=>⟨rfl,rfl,rfl⟩,fun _=>trivial,fun _ v hv=>(by cases hv),fun h=>absurd rfl h⟩
end
end Go.Proofs.YtlbjicjinnnboaaGreatDoor
