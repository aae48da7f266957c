/- MrH: CkAft, Idx, KqF, KqG, KqH, KqI, KqJ, CkFn, KqK, StSkip, KqL, KqN, KqO, KqP. -/
import Derived.Test.YtlbjicjinnnboaaGreatDoorMrF
import Derived.Test.YtlbjicjinnnboaaGreatDoorMrG
import Derived.StillTailTactics
import Derived.Laws.EntriesVeiled
import Derived.WalkLawsBesides
import Derived.Test.YtlbjicjinnnboaaGreatDoorMrA
set_option maxHeartbeats 8000000
set_option maxRecDepth 100000
set_option linter.unusedVariables false
set_option linter.unusedSimpArgs false
/- Types told, held against what is asked for. -/
namespace Go.Proofs.YtlbjicjinnnboaaGreatDoor
open Go.RowKit Go.Proofs.Tryz
open Pw
variable {x T i:Nat}{q:CkR (List Nat×CkS)}{ps:List Nat}{fs:List aD}
theorem lW (ex:Nat->CkS->CkR (Nat×CkS)) (a:Nat):∀(l:List Nat) (s:CkS),bH ex (l++[a]) s=(bH ex l s).bind λr=>(ex a r.2).map λq=>(r.1++[q.1],q.2)
 | [],s=>by
  show (ex a s).bind _=_
  rw[show bH ex [] s = .good ([],s) from rfl];simp only[CkR.aC];cases ex a s<;>rfl
 | b :: l,s=>by
  rw[List.cons_append]
  show (ex b s).bind _=((ex b s).bind _).bind _
  cases ex b s with
  | bad e p=>rfl
  | good q=>
   simp only[CkR.aC];rw[lW ex a l q.2];cases bH ex l q.2 with
   | bad e p=>rfl
   | good u=>
    simp only[CkR.aC,CkR.cB];cases ex a u.2<;>rfl
theorem aJc {ex:Nat->CkS->CkR (Nat×CkS)}{e p:Nat}:∀(l m:List Nat) (s:CkS),bH ex l s = .bad e p->bH ex (l++m) s = .bad e p:=by
 intro l m;induction m generalizing l with
 | nil=>intro s h;rw[List.append_nil];exact h
 | cons a m ih=>
  intro s h;have:l++a :: m=(l++[a])++m:=by simp
  rw[this];exact ih (l++[a]) s (by rw[lW,h];rfl)
theorem xL {ex:Nat->CkS->CkR (Nat×CkS)}:∀(l:List Nat) (s:CkS){q:List Nat×CkS},bH ex l s = .good q->q.1.length=l.length
 | [],s,q,h=>by injection h with h;subst h;rfl
 | a :: l,s,q,h=>by
  obtain⟨u,h1,h⟩:=CkR.bind_eq h;obtain⟨v,h2,h⟩:=CkR.map_eq h;subst h;have:=xL l _ h2;simp[this]
def fH (q:CkR (List Nat×CkS)) (ps:List Nat) (x i:Nat):CkR CkS:=
 q.bind λr=>if r.1.length≠ps.length then .bad 43 x else if r.1.take i≠ps.take i then .bad 42 x else .good r.2
theorem sI (h:∀r,q = .good r->r.1.length=ps.length):q.map (·.2)=fH q ps x 0:=by
 cases q with
 | bad e p=>rfl
 | good r=>simp[fH,h r rfl]
theorem sH (h:∀r,q = .good r->r.1.length≠ps.length):((q.map (·.2)).bind λ_=>CkR.bad 43 x)=fH q ps x 0:=by
 cases q with
 | bad e p=>rfl
 | good r=>simp[fH,h r rfl]
theorem rQ {b:Bool} (h:∀r,q = .good r->i<r.1.length->i<ps.length->b=decide (r.1[i]?=ps[i]?)) (hi:∀r,q = .good r->i<r.1.length):
  ((fH q ps x i).bind λs=>if b=true then CkR.good s else .bad 42 x)=fH q ps x (i+1):=by
 cases q with
 | bad e p=>rfl
 | good r=>
  simp only[fH,CkR.aC];by_cases hl:r.1.length=ps.length
  . have hl1:¬(r.1.length≠ps.length):=by simpa using hl
    rw[if_neg hl1,if_neg hl1];have hir:=hi r rfl;have hb:=h r rfl hir (by omega);have e1:r.1.take (i+1)=r.1.take i++[r.1[i]]:=by rw[List.take_add_one,gE hir];rfl
    have e2:ps.take (i+1)=ps.take i++[ps[i]'(by omega)]:=by rw[List.take_add_one,gE (by omega:i<ps.length)];rfl
    rw[gE hir,gE (by omega:i<ps.length)] at hb;by_cases ht:r.1.take i=ps.take i
    . have ht1:¬(r.1.take i≠ps.take i):=by simpa using ht
      rw[if_neg ht1,CkR.aC,hb];by_cases hv:r.1[i]=ps[i]'(by omega)
      . have h1:¬(r.1.take (i+1)≠ps.take (i+1)):=by rw[e1,e2,ht,hv];simp
        rw[if_neg h1,decide_eq_true (by rw[hv])];simp
      . have h1:r.1.take (i+1)≠ps.take (i+1):=by
         intro h9;rw[e1,e2] at h9;exact hv (by simpa using List.append_inj_right' h9 rfl)
        rw[if_pos h1,decide_eq_false (by simpa using hv)];simp
    . have h1:r.1.take (i+1)≠ps.take (i+1):=by
        intro h9;rw[e1,e2] at h9;exact ht (List.append_inj_left' h9 rfl)
      rw[if_pos h1,if_pos ht,CkR.vO]
  . rw[if_pos hl,if_pos hl,CkR.vO]
theorem aEt {e p:Nat} (h:fH q ps x i = .bad e p){m:Nat} (hm:i≤m):fH q ps x m = .bad e p:=by
 cases q with
 | bad e p=>exact h
 | good r=>
  simp only[fH,CkR.aC] at h ⊢;split at h
  . rename_i h1;rw[if_pos h1];exact h
  . rename_i h1
    rw[if_neg h1];split at h
    . rename_i h2
      rw[if_pos]
      . exact h
      . intro h3
        apply h2
        have:=congrArg (List.take i) h3;rw[List.take_take,List.take_take,Nat.min_eq_left hm] at this;exact this
    . cases h
theorem aEs {ps:List (List UInt8×Nat)} (h:∀r,q = .good r->r.1.length≤i):
  fH q (ps.map (·.2)) x i=(q.bind λr=>if r.1.length≠ps.length then CkR.bad 43 x else if r.1≠ps.map (·.2) then .bad 42 x else .good (T,r.2)).map (·.2):=by
 cases q with
 | bad e p=>rfl
 | good r=>
  have hr:=h r rfl;simp only[fH,CkR.aC,List.length_map];by_cases hl:r.1.length=ps.length
  . have hl1:¬(r.1.length≠ps.length):=by simpa using hl
    rw[if_neg hl1,if_neg hl1,List.take_of_length_le hr,List.take_of_length_le (by rw[List.length_map];omega)];split<;>rfl
  . rw[if_pos hl,if_pos hl];rfl
theorem uL {ps:List (List UInt8×Nat)}{u:Nat×CkS} (h:(q.bind λr=>if r.1.length≠ps.length then CkR.bad 43 x else if r.1≠ps.map (·.2) then .bad 42 x else .good (T,r.2)) = .good u):u.1=T:=by
 obtain⟨r,_,h⟩:=CkR.bind_eq h;split at h
 . cases h
 . split at h
   . cases h
   . injection h with h;subst h;rfl
theorem aEr {b:Bool} (h:∀r,q = .good r->b=decide (r.1.length=ps.length)):((q.map (·.2)).bind λs=>if b=true then CkR.good s else .bad 43 x)=fH q ps x 0:=by
 cases q with
 | bad e p=>rfl
 | good r=>
  have:=h r rfl;simp only[fH,CkR.cB,CkR.aC,this,decide_eq_true_eq];by_cases hl:r.1.length=ps.length<;>simp[hl]
def aQc (o:Option Nat):Int:=match o with|some j=>(j:Int)|none=> -1
theorem aOs {q:aD->Bool}{j:Nat}{f:aD} (h:∀g∈fs.take j,q g=false) (hf:fs[j]?=some f) (hq:q f=true):fs.findIdx? q=some j:=by
 obtain⟨hlt,hfe⟩:=List.getElem?_eq_some_iff.1 hf;rw[List.findIdx?_eq_some_iff_getElem];refine⟨hlt,by rw[hfe];exact hq,λi hi=>?_⟩;have:=h fs[i] (by rw[List.mem_take_iff_getElem];exact⟨i,by omega,rfl⟩);simpa using this
theorem aLp {q:aD->Bool} (h:∀g∈fs,q g=false):fs.findIdx? q=none:=by
 rw[List.findIdx?_eq_none_iff];exact λg hg=>h g hg
theorem aHs {F:Nat}{caps:Array Value}{q:aD->Bool}{w:World}{A:Option Addr}{c:Nat}{pvs:List Value} (hen:Enters prog F)
  (hone:∀(f:aD) (PA:Option Addr) (PC:Nat) (w':World),f∈fs->Fr nob w w'->Calls prog F (#[.agg #[bs f.name,f.line,.slice PA f.params.length PC,f.ret,f.body]]++caps) w' λen w2=>en = .returned (q f)∧Fr nob w' w2)
  (ho:Own w 48 5 (.slice A fs.length c) fs.length (dK fs pvs)) (hp:dM w fs pvs) (hs:fs.length=pvs.length):
  Calls prog 42 #[.slice A fs.length c,.func (.func F) #[] caps] w λe w'=>e = .returned (aQc (fs.findIdx? q))∧Fr nob w w':=by
 have O:=hD ho;have HP:=hD hp;have HS:=hD hs;have HONE:=hD hone;obtain⟨A2,c2,hv,hc1,hc2⟩:=ho.cap;simp only[Value.slice.injEq,true_and] at hv;obtain⟨hv1,hv2⟩:=hv;subst hv1;subst hv2;have hml:(fs.length:Int)≤9223372036854775807:=by unfold maxLen at hc2;omega
 generalize hm:fs.length=m at *;have HMM:=hD hm;obtain⟨Z,hZ⟩:∃Z,aQc (fs.findIdx? q)=Z:=⟨_,rfl⟩;rw[hZ];have HZ:=hD hZ;clear ho hp hs hm hc1 hc2 hone hZ;go_enter func42,ntmps42;go_wp2
 go_loopw [8] (λi wr=>∃j:Nat,j≤m∧i = .int .i64 j∧Hd (∀g∈fs.take j,q g=false)∧Hd (Fr nob w wr)) (λi _=>m - (intOf i).toNat)
 case atStart=>exact⟨0,Nat.zero_le _,rfl,hD (by simp),hD (Fr.refl _ _)⟩
 case round=>
  obtain⟨j,hj,rfl,HA,F⟩:=hrel;by_cases hlt:j<m
  . have hlt2:(j:Int)<(m:Int):=by omega
    have hlf:j<fs.length:=by rw[HMM.o];exact hlt
    obtain⟨f,hf⟩:∃f,fs[j]?=some f:=⟨_,gE hlf⟩;obtain⟨pv,hpv⟩:∃pv,pvs[j]?=some pv:=⟨_,gE (by have:=HS.o;have:=HMM.o;omega)⟩;obtain⟨PA,PC,rfl,_,_⟩:=(HP.o.get hf hpv).cap;have ho:=O.o.fr F (λ_ _ x=>x);rw[<-HMM.o] at ho;obtain⟨fb,rfl,hcell⟩:=ho.some (by omega);have e0:=hcell (j*5+0) _ (dN hf hpv 0 _ rfl);have e1:=hcell (j*5+1) _ (dN hf hpv 1 _ rfl);have e2:=hcell (j*5+2) _ (dN hf hpv 2 _ rfl);have e3:=hcell (j*5+3) _ (dN hf hpv 3 _ rfl);have e4:=hcell (j*5+4) _ (dN hf hpv 4 _ rfl);rw[Nat.add_zero] at e0;have HC:=hD (HONE f PA PC wr (List.mem_of_getElem? hf) F);have HF:=hD hf;obtain⟨z,hz⟩:∃z,q f=z:=⟨_,rfl⟩;rw[hz] at HC;have HQ:=hD hz;clear hf hpv hcell ho hlf hz;cases z with
    | true=>
     go_wp2_with fail
     rw[hen];go_wp2_with fail
     refine HC.o.mono ?_;rintro e w2 ⟨rfl,hf2⟩;have F2:=hD (F.o.tr hf2);clear hf2;go_wp2
     go_ret;refine⟨?_,F2⟩;have h1:aQc (fs.findIdx? q)=(j:Int):=by rw[aOs HA.o HF.o HQ.o];rfl
     rw[<-HZ.o,h1];rfl
    | false=>
     have HA2:=hD (show ∀g∈fs.take (j+1),q g=false from λg hg=>by
      rw[List.take_add_one,HF.o] at hg;rcases List.mem_append.1 hg with hg|hg
      . exact HA g hg
      . simp at hg;subst hg;exact HQ)
     go_wp2_with fail
     rw[hen];go_wp2_with fail
     refine HC.o.mono ?_;rintro e w2 ⟨rfl,hf2⟩;have F2:=hD (F.o.tr hf2);clear hf2 e0 e1 e2 e3 e4 HC HA;go_wp2
     go_roundw
     case rel=>exact⟨j+1,by omega,by go_num,HA2,F2⟩
     case measure=>simp[intOf];omega
  . have hlt2:¬(j:Int)<(m:Int):=by omega
    have hj2:j=m:=by omega
    subst hj2;clear hj hlt;go_wp2
    go_ret;refine⟨?_,F⟩;have h1:aQc (fs.findIdx? q) = -1:=by
     rw[aLp (λg hg=>HA.o g (by rw[List.take_of_length_le (by have:=HMM.o;omega)];exact hg))];rfl
    rw[<-HZ.o,h1];rfl
section
variable {G:Geo}{w w':World}{s:CkS}{r:CkR CkS}{zs:List Nat}{k e p:Nat}
theorem vK:Enters prog 226:=enters_of func226 (by kernel_rfl) rfl
theorem aCz {w:World}{k line n:Nat}{nm:List UInt8}{kv:Value} (hb:Blk w T 50 #[k,line,n,bs nm,kv]) (f:aD) (PA:Option Addr) (PC:Nat):
  Calls prog 226 #[.agg #[bs f.name,f.line,.slice PA f.params.length PC,f.ret,f.body],(T,())] w λen w2=>en = .returned (.bool (decide (f.name=nm)))∧Fr nob w w2:=by
 have n3:w.cell? (T,3)=(bs nm):=(hb.cell 3).trans rfl;have tlt:=hb.lt;have tn:¬T=w.heap.size:=by omega
 obtain⟨z,hz⟩:∃z,decide (f.name=nm)=z:=⟨_,rfl⟩;have e1:((bs f.name).toList==(bs nm).toList)=z:=by rw[aIw,hz]
 rw[hz];clear hb hz;generalize f.params.length=pl;go_enter func226,ntmps226;go_wp2
 go_ret;exact⟨rfl,(fR w).alloc _⟩
theorem KqM.fns (h:KqM G w r zs k):∃fb fc,w.cell? ⟨G.g,3,none⟩=some (.slice (some ⟨fb,0,none⟩) G.fs.length fc)∧Own w 48 5 (.slice (some ⟨fb,0,none⟩) G.fs.length fc) G.fs.length (dK G.fs G.pvs)∧fb<G.B∧dM w G.fs G.pvs∧G.fs.length=G.pvs.length∧G.g<w.heap.size:=by
 obtain⟨s,e,p,h0,_⟩:=h.open_;obtain⟨zv,vv,-,c3,-⟩:=h0.cells;have hk:=h0.kk;have hT:=h0.tree;obtain⟨A,c,e1,hc,_⟩:=hT.tree.fns.cap;have hno:=hT.tree.fns;rw[e1] at hno;obtain⟨fb,e2,hcell⟩:=hno.some (by omega);subst e2;refine⟨fb,c,by rw[<-e1];exact c3,hno,?_,hT.tree.pars,hT.tree.samef,h0.jM⟩;have:=hT.hf fb (by rw[e1];simp[blk];omega);exact this
end
section
variable {G:Geo}{w w':World}{s:CkS}{r:CkR CkS}{zs:List Nat}{k e p:Nat}{ex:Nat->CkS->CkR (Nat×CkS)}
theorem aEn {nd:aH} (h:findF G.fs nd.name=none):r.bind (jP G.fs ex x nd)=r.bind λ_=> .bad 40 x:=by
 cases r with
 | bad e p=>rfl
 | good s=>unfold jP;simp only[CkR.aC];rw[h]
theorem aEm {q:Nat}{f:aD}{nd:aH} (h:findF G.fs nd.name=some q) (hf:G.fs[q]?=some f):r.bind (jP G.fs ex x nd)=(r.bind (bH ex nd.l)).bind λr=>if r.1.length≠(f.params.map (·.2)).length then .bad 43 x else if r.1≠f.params.map (·.2) then .bad 42 x else .good (f.ret,r.2):=by
 cases r with
 | bad e p=>rfl
 | good s=>
  unfold jP;simp only[CkR.aC];rw[h];simp only[hf,Option.map_some,Option.getD_some,List.length_map]
theorem aAa (h:∀r,q = .good r->r.1.length=ps.length->ps.length≤i):
  (q.bind λr=>if r.1.length≠ps.length then CkR.bad 43 x else if r.1≠ps then .bad 42 x else .good (T,r.2)).map (·.2)=fH q ps x i:=by
 cases q with
 | bad e p=>rfl
 | good r=>
  simp only[fH,CkR.aC];by_cases hl:r.1.length=ps.length
  . have hl1:¬(r.1.length≠ps.length):=by simpa using hl
    have:=h r rfl hl;rw[if_neg hl1,if_neg hl1,List.take_of_length_le (by omega),List.take_of_length_le (by omega)];split<;>rfl
  . rw[if_pos hl,if_pos hl];rfl
theorem zZ {u:Nat×CkS} (h:(q.bind λr=>if r.1.length≠ps.length then CkR.bad 43 x else if r.1≠ps then .bad 42 x else .good (T,r.2)) = .good u):u.1=T:=by
 obtain⟨r,_,h⟩:=CkR.bind_eq h;split at h
 . cases h
 . split at h
   . cases h
   . injection h with h;subst h;rfl
theorem aGk {line:Nat}{nm:List UInt8}{A:Option Addr}{c:Nat}{l:List Nat} (hex:∀a∈l,iN 170 G zs k a (ex a)) (h:KqM G w r zs k) (hl:Own w 3 1 (.slice A l.length c) l.length (ints l)) (hlow:∀b,blk (.slice A l.length c)=some b->b<G.B) (h300:l.length≤300) (hx:x≤300):
  Calls prog 207 #[(G.g,()),.agg #[(21:Int),line,U0,bs nm,.slice A l.length c],x] w λen w'=>∃t:Nat,en = .returned t∧KqT G w' (r.bind (jP G.fs ex x ⟨21,line,0,nm,l⟩)) zs k t∧FrK G w w':=by
 have hgeo:=h.geo;have FA:Hd (Fr nob w (w.alloc (.cells #[(21:Int),line,U0,bs nm,.slice A l.length c] 50))):=(fR w).alloc _;have B0:=hD (Blk.new w 50 #[(21:Int),line,U0,bs nm,.slice A l.length c]);have S0:=hD (h.no FA);have O0:=hD (hl.fr FA (λ_ _ x=>x));obtain⟨fb,fc,c3,ho,hfb,hpar,hsame,glt⟩:=S0.o.fns;have gn:¬G.g=w.heap.size:=by obtain⟨s,e,p,h0,_⟩:=h.open_;have:=h0.jM;omega
 have e2:=λ(f:aD) (PA:Option Addr) (PC:Nat) (w':World) (hf:Fr nob (w.alloc (.cells #[(21:Int),line,U0,bs nm,.slice A l.length c] 50)) w')=>aCz (B0.o.fr hf (λx=>x)) f PA PC
 have HI:=hD (aHs (caps:=#[(w.heap.size,())]) (q:=λf=>decide (f.name=nm)) vK (λf PA PC w' _ hf=>e2 f PA PC w' hf) ho hpar hsame);have HEX:=hD hex;have HLO:=hD hlow;have HG:=hD hgeo;have H3:=hD h300;have HZL:=hD (show G.Z≤w.heap.size from by obtain⟨s,e,p,h,_⟩:=h.open_;exact h.zle);obtain⟨Z,hZ⟩:∃Z,aQc (G.fs.findIdx? λf=>decide (f.name=nm))=Z:=⟨_,rfl⟩;rw[hZ] at HI;have HZ:=hD hZ;obtain⟨b,hb⟩:∃b,decide (0≤Z)=b:=⟨_,rfl⟩;clear h hl hlow hex h300 hgeo ho hpar hsame hZ e2;go_enter func207,ntmps207;go_wp2_with fail
 refine HI.o.mono ?_;rintro en w2 ⟨rfl,hf⟩;have S2:=hD (S0.o.no hf);have F2:Hd (FrK G w w2):=FrK.no (FA.o.tr hf);have B2:=hD (B0.o.fr hf (λx=>x));have O2:=hD (O0.o.fr hf (λ_ _ x=>x));clear hf HI S0 B0 O0 c3;cases hF:findF G.fs nm with
 | none=>
  have E:=hD (aEn (r:=r) (ex:=ex) (x:=x) (nd:=⟨21,line,0,nm,l⟩) hF);have hz:Z = -1:=by rw[<-HZ.o];unfold findF at hF;rw[hF];rfl
  subst hz;clear hF hb;go_wp2_with fail
  refine dY (S2.o.ask false 40 x (by decide) (by decide)) λw3 S3 f3=>?_;have F3:=hD (F2.o.trans (FrK.ofG f3));clear f3 S2 F2;go_wp2
  go_ret;refine⟨0,rfl,⟨?_,λt' s' hr=>?_⟩,F3⟩
  . rw[E.o]
    have:=S3.o;cases r<;>exact this
  . rw[E.o] at hr
    cases r<;>cases hr
 | some q=>
  have hq:q<G.fs.length:=by unfold findF at hF;exact (List.findIdx?_eq_some_iff_getElem.1 hF).1
  obtain⟨f,hf⟩:∃f,G.fs[q]?=some f:=⟨_,gE hq⟩;have E:=hD (aEm (r:=r) (ex:=ex) (x:=x) (nd:=⟨21,line,0,nm,l⟩) hF hf);have hz:Z=(q:Int):=by rw[<-HZ.o];unfold findF at hF;rw[hF];rfl
  subst hz;clear hF hb;have hq3:(q:Int)<(G.fs.length:Int):=by omega
  have hq0:¬(q:Int)<0:=by omega
  have hq6:(q:Int)≤6:=by have:=HG.o.fewf;omega
  have hpl:f.params.length≤3:=HG.o.fewp f (List.mem_of_getElem? hf);go_wp2_with fail
  refine (S2.o.ask true 40 x (by decide) (by decide)).mono ?_;rintro en w3 ⟨rfl,h3,f3⟩;have S3:=hD (show KqM G w3 r zs k from by cases r<;>exact h3);have F3:=hD (F2.o.trans (FrK.ofG f3));have hZle:G.Z≤w.heap.size:=HZL.o;have B3:=hD ((FrK.ofG f3).far B2 (by have:=HG.o.lg;omega) (by have:=HG.o.lt;omega) (by have:=HG.o.ls;omega) (by have:=HG.o.lf;omega) (by decide));have O3:=hD ((FrK.ofG f3).own O2 (by decide) (λb hb=>by have:=HLO.o b hb;have:=HG.o.hg;have:=HG.o.ht;have:=HG.o.hs;have:=HG.o.hf;omega));have hle:w.heap.size<w3.heap.size:=Nat.lt_of_lt_of_le B2.o.lt f3.size;clear h3 f3 S2 F2 B2 O2 hfb glt gn;clear FA HZL;generalize hT:w.heap.size=T at *;obtain⟨fb2,fc2,c3,ho,hfb,hpar,hsame,glt⟩:=S3.o.fns;obtain⟨pv,hpv⟩:∃pv,G.pvs[q]?=some pv:=⟨_,gE (by omega)⟩;have hpo:=hpar.get hf hpv;obtain⟨PA,PC,rfl,hPC,-⟩:=hpo.cap;obtain⟨fb',e9,hcell⟩:=ho.some (by omega);injection e9 with e9;injection e9 with e9;subst e9;have key:=dN hf hpv;have y0:=hcell _ _ (key 0 _ rfl);have y1:=hcell _ _ (key 1 _ rfl);have y2:=hcell _ _ (key 2 _ rfl);have y3:=hcell _ _ (key 3 _ rfl);have y4:=hcell _ _ (key 4 _ rfl);rw[Nat.add_zero] at y0;have d0:w3.cell? (T,0)=(21:Int):=(B3.o.cell 0).trans rfl;have d1:w3.cell? (T,1)=line:=(B3.o.cell 1).trans rfl;have d2:w3.cell? (T,2)=U0:=(B3.o.cell 2).trans rfl;have d3:w3.cell? (T,3)=(bs nm):=(B3.o.cell 3).trans rfl;have d4:w3.cell? (T,4)=some (.slice A l.length c):=(B3.o.cell 4).trans rfl;have FB:Hd (Fr nob w3 (w3.alloc (.cells #[bs f.name,f.line,.slice PA f.params.length PC,f.ret,f.body] 48))):=(fR w3).alloc _
  have BB:=hD (Blk.new w3 48 #[bs f.name,f.line,.slice PA f.params.length PC,f.ret,f.body]);have HF:=hD hf;have HPV:=hD hpv;have tn:¬T=w3.heap.size:=by omega
  clear hT hf hpv hpo key hcell ho hpar hsame hq;go_wp2_with fail
  refine (iL HEX (S3.o.no FB) (O3.o.fr FB (λ_ _ x=>x)) HLO H3).mono ?_;rintro en w5 ⟨A',c',ts,rfl,hq5,hf5⟩;have S5:=hD hq5;have F5:=hD (F3.o.trans ((FrK.no FB).trans hf5));have D5:=hD (hf5.far BB (by have:=HG.o.lg;omega) (by have:=HG.o.lt;omega) (by have:=HG.o.ls;omega) (by have:=HG.o.lf;omega) (by decide));have NW:=hD (show ∀b,blk (.slice A' l.length c')=some b->G.Z≤b from λb hb=>by
    have:=hq5.new b hb;have:w3.heap.size≤b:=Nat.le_trans (by simp) this;omega)
  have DZ:=hD (show G.Z≤w3.heap.size from by omega);clear hq5 hf5 S3 F3 B3 O3 FB BB  y0 y1 y2 y3 y4 d0 d1 d2 d3 d4 c3 hfb glt tn hle;generalize w3.heap.size=D at *;have p2:w5.cell? (D,2)=some (.slice PA f.params.length PC):=(D5.o.cell 2).trans rfl;have HL:=hD (show ts.length=l.length from by have:=S5.o.own.len;simpa[ints] using this);have K2:=hD p2;have GN:=hD (show D≠G.g∧D≠G.bt∧D≠G.bs∧D≠G.bf from by
    have:=DZ.o;have:=HG.o.lg;have:=HG.o.lt;have:=HG.o.ls;have:=HG.o.lf;exact⟨by omega,by omega,by omega,by omega⟩)
  have hl3:(l.length:Int)≤300:=by have:=H3.o;omega
  have hp3:(f.params.length:Int)≤3:=by omega
  go_wp2_with fail
  go_region_held3 (λwx=>wx.cell? (D,2)=some (.slice PA f.params.length PC)) (first|exact K2.o|exact K8) (first|(go_at_call 95;go_loud (refine ((S5.o.st.no ((fR w5).drew)).ask _ 43 x (by decide) (by decide)).mono ?_);go_loud (rintro en w8 ⟨rfl,h8,f8⟩);go_loud (have S8:=hD h8);go_loud (have F8:=hD ((FrK.no ((fR w5).drew)).trans (FrK.ofG f8)));go_loud (have K8:=hD (((F8.o.far D5 GN.o.1 GN.o.2.1 GN.o.2.2.1 GN.o.2.2.2 (by decide)).cell 2).trans (show _=some (.slice PA f.params.length PC) from rfl)));go_loud (clear h8 f8)))
  have A0:=hD (show KqM G w8 (fH (r.bind (bH ex l)) (f.params.map (·.2)) x 0) zs k from by
    rw[<-aEr (b:=((l.length:Int)==(f.params.length:Int))) (λu hu=>by
      have h1:=S5.o.val u.1 u.2 hu;have h2:=HL.o;rw[<-h1,h2,List.length_map,Bool.eq_iff_iff];simp only[beq_iff_eq,decide_eq_true_eq];omega)]
    exact S8)
  have O8:=hD (F8.o.own S5.o.own (by decide) (λb hb=>by
    have:=NW.o b hb;have:=HG.o.lg;have:=HG.o.lt;have:=HG.o.ls;have:=HG.o.lf;exact⟨by omega,by omega,by omega,by omega⟩))
  have D8:=hD (F8.o.far D5 GN.o.1 GN.o.2.1 GN.o.2.2.1 GN.o.2.2.2 (by decide));have VL:=hD S5.o.val;have F9:=hD (F5.o.trans F8);clear p2 K2 S5 S8 D5 F8 F5;have p2:=K8.o;obtain⟨m,hm1,hm2,hmP,hcase⟩:∃m:Nat,m≤f.params.length∧m≤l.length∧(m:Int)≤(PC:Int)∧(((f.params.length:Int)<(l.length:Int)∧f.params.length=m)∨(¬(f.params.length:Int)<(l.length:Int)∧l.length=m)):=by
    by_cases hlm:(f.params.length:Int)<(l.length:Int)
    . exact⟨f.params.length,by omega,by omega,by omega,.inl ⟨hlm,rfl⟩⟩
    . exact⟨l.length,by omega,by omega,by omega,.inr ⟨hlm,rfl⟩⟩
  have hmx:m=f.params.length∨m=l.length:=by omega
  have hPC3:(f.params.length:Int)≤(PC:Int):=by omega
  rcases hcase with ⟨hlm,hm⟩|⟨hlm,hm⟩
  all_goals
    rw[hm] at hlm;have hm3:(m:Int)≤300:=by omega
    try simp only[hm] at p2
    try simp only[hm]
    try rw[hm] at hPC3
    go_wp2
    go_loopw [62] (λi wr=>∃j:Nat,j≤m∧i = .int .i64 j∧Hd (KqM G wr (fH (r.bind (bH ex l)) (f.params.map (·.2)) x j) zs k)∧Hd (Own wr 3 1 (.slice A' l.length c') l.length (ints ts))∧Hd (FrK G w wr)∧Hd (Blk wr D 48 #[bs f.name,f.line,.slice PA f.params.length PC,f.ret,f.body])) (λi _=>m - (intOf i).toNat)
    case atStart=>exact⟨0,Nat.zero_le _,rfl,A0,O8,F9,D8⟩
    case round=>
      clear A0 O8 F9 D8 p2 K8;obtain⟨j,hj,rfl,S,O,F,DD⟩:=hrel;by_cases hlt:j<m
      . have hlt2:(j:Int)<(m:Int):=by omega
        have hlt3:(j:Int)<(l.length:Int):=by omega
        obtain⟨qq,hqq⟩:∃qq,f.params[j]?=some qq:=⟨_,gE (by omega)⟩;obtain⟨ti,hti⟩:∃ti,ts[j]?=some ti:=⟨_,gE (by have:=HL.o;omega)⟩;have hpo:Own wr 101 2 (.slice PA f.params.length PC) f.params.length (aP f.params):=S.o.tree.tree.pars.get HF HPV.o;obtain⟨pb,e8,hpc⟩:=hpo.some (by omega);have q0:=hpc _ _ (bZ hqq).1;have q1:=hpc _ _ (bZ hqq).2;obtain⟨tb,e9,htc⟩:=O.o.some (by omega);have t0:=htc j ti (by simp[ints,hti]);subst e8;subst e9;have FB:Hd (Fr nob wr (wr.alloc (.cells #[bs qq.1,qq.2] 101))):=(fR wr).alloc _;have BE:=hD (Blk.new wr 101 #[bs qq.1,qq.2]);have EZ:=hD (show G.Z≤wr.heap.size from by have:=DD.o.lt;have:=DZ.o;omega);have HTI:=hD hti;have HQQ:=hD hqq;have HI:=hD hlt;clear hpo hpc htc hti hqq;go_wp2_with fail
        clear q0 q1 t0;generalize hw9:wr.alloc (.cells #[bs qq.1,qq.2] 101)=w9 at *;have S9:=hD (S.o.no FB);have O9:=hD (O.o.fr FB (λ_ _ x=>x));have D9:=hD (DD.o.fr FB (λx=>x));have F9:=hD (F.o.trans (FrK.no FB));have EL:=hD (show G.Z≤wr.heap.size∧wr.heap.size<w9.heap.size from ⟨EZ,BE.o.lt⟩);clear S O F DD FB EZ hw9;generalize wr.heap.size=E9 at *;obtain⟨tb',et,htc⟩:=O9.o.some (by have:=HI.o;omega);injection et with et;injection et with et;subst et;have t0:=htc j ti (by simp[ints,HTI.o]);have KT:=hD t0;have KE:Hd (w9.cell? (E9,1)=qq.2):=(BE.o.cell 1).trans rfl;have EN:=hD (show E9≠G.g from by have:=EL.o.1;have:=HG.o.lg;omega);have TN:=hD (show tb≠G.g from by have:=NW.o tb (aZ (by omega) O9.o.oU.1);have:=HG.o.lg;omega);have TL:Hd (tb<w9.heap.size):=O9.o.bD (aZ (by omega) O9.o.oU.1);clear htc t0;go_region_held3 (λwx=>wx.cell? (tb,j)=ti∧wx.cell? (E9,1)=qq.2) (first|exact⟨KT,KE⟩|exact K8) (first|(go_at_call 95;go_loud (refine ((S9.o.no ((fR w9).drew)).ask _ 42 x (by decide) (by decide)).mono ?_);go_loud (rintro en w8 ⟨rfl,h8,f8⟩);go_loud (have S8:=hD h8);go_loud (have F8:Hd (Fr (dG G.g) w9 w8):=Fr.trans ((fR w9).drew) f8 (λ_ _ x=>x.elim) (λ_ _ x=>x));go_loud (have K8:=hD (And.intro ((F8.o.cell (p:=(tb,j)) TL TN).trans KT) ((F8.o.cell (p:=(E9,U1)) EL.o.2 EN).trans KE)));go_loud (clear h8 f8)))
        have A8:=hD (show KqM G w8 (fH (r.bind (bH ex l)) (f.params.map (·.2)) x (j+1)) zs k from by
          rw[<-rQ (b:=((ti:Int)==(qq.2:Int))) (λu hu _ _=>by
           have h1:=VL.o u.1 u.2 hu;rw[<-h1,HTI.o,List.getElem?_map,HQQ.o,Bool.eq_iff_iff];simp only[Option.map_some,Option.some.injEq,beq_iff_eq,decide_eq_true_eq];omega) (λu hu=>by
           have h1:=VL.o u.1 u.2 hu;have:=HL.o;have:=HI.o;rw[<-h1];omega)]
          exact S8)
        have O8:=hD (O9.o.fr F8 (λb hb e=>by have:=NW.o b hb;have:=HG.o.lg;unfold dG at e;omega));have D8:=hD (D9.o.fr F8 GN.o.1);have F8k:=hD (F9.o.trans (FrK.ofG F8));clear S9 O9 D9 F9 S8 F8 K8 KT KE;go_wp2
        go_roundw
        case rel=>exact⟨j+1,by have:=HI.o;omega,by go_num,A8,O8,F8k,D8⟩
        case measure=>simp[intOf];have:=HI.o;omega
      . have hlt2:¬(j:Int)<(m:Int):=by omega
        have hjm:j=m:=by omega
        subst hjm;have d3:wr.cell? (D,3)=f.ret:=(DD.o.cell 3).trans rfl;have HX:=hD hmx;clear hlt hj;go_wp2
        go_ret;refine⟨f.ret,rfl,⟨?_,λt' s' hr=>?_⟩,F⟩
        . rw[E.o,aAa (i:=j) (λu hu hl=>by
           have h1:=VL.o u.1 u.2 hu;have:=HL.o;rw[<-h1] at hl;rw[List.length_map] at hl ⊢;have:=HX.o;omega)]
          exact S.o
        . rw[E.o] at hr
          exact (zZ hr).symm
end
end Go.Proofs.YtlbjicjinnnboaaGreatDoor
/- The program's own checker: rules. Printed by wip/tools/mkrules.py. -/
namespace Go.Proofs.YtlbjicjinnnboaaGreatDoor
open Go.RowKit Go.Proofs.Tryz Go.MapKept
open Pw
theorem rV:prog.underlying (183:TypeId)=some (.map 3 (182:TypeId)):=by kernel_rfl
theorem mD:prog.underlying 3=some (.int .i64):=by kernel_rfl
def rule (t:Int) (a n:Nat):Value:= .agg #[t,(a,n,n)]
theorem kZ {P:Program}{w:World}{mty kt et:TypeId}{d:TypeDesc}{r clock:Nat}{es:Array MapEntry}{key:Value} (hm:P.underlying mty=some (.map kt et)) (hd:P.underlying kt=some d) (hb:w.heap[r]?=some (.map es clock)) (hk:IsKey d key) (hf:Instr.findNow d key es.toList 0=some none) (value:Value):
  ∃w',(Instr.mapUpdate mty (.map (some r)) key value).run P w = .ok () w'∧w'.heap[r]?=some (.map (es.push ⟨key,value,clock⟩) (clock+1))∧Fr (dG r) w w'∧w'.heap.size=w.heap.size:=
 ⟨_,mE hm hd hb hk hf,oD hb _ _,vC _ _ _ _,by simp[vD]⟩
def aFv (h:Nat):Array MapEntry:=#[⟨U6,rule 1 (h+1) 2,0⟩,⟨U7,rule 1 (h+2) 1,1⟩,⟨U8,rule 2 (h+3) 1,2⟩,⟨(20:Int),rule 4 (h+4) 1,3⟩,⟨U5,rule 1 (h+5) 1,4⟩]
theorem aCq (w:World):Calls prog 209 #[] w λen w'=>en = .returned (.map (some w.heap.size))∧Fr nob w w'∧w'.heap[w.heap.size]?=some (.map (aFv w.heap.size) 5)∧Blk w' (w.heap.size+1) 3 #[U3,U4]∧Blk w' (w.heap.size+2) 3 #[U1]∧Blk w' (w.heap.size+3) 3 #[U2]∧Blk w' (w.heap.size+4) 3 #[U1]∧Blk w' (w.heap.size+5) 3 #[U1]:=by
 have hmm:= @run_makeMap prog;obtain⟨h,hh⟩:∃h,w.heap.size=h:=⟨_,rfl⟩;have b0:(w.alloc (.map #[] 0)).heap[h]?=some (.map #[] 0):=by rw[<-hh];exact (heap_alloc w _).1
 have s0:(w.alloc (.map #[] 0)).heap.size=h+1:=by simp[hh]
 have c1:((w.alloc (.map #[] 0)).alloc (.cells #[U3,U4] 3)).heap[h]?=_:=((heap_alloc (w.alloc (.map #[] 0)) _).2 h (by omega)).trans b0;obtain⟨x1,i1,b1,f1,z1⟩:=kZ rV mD c1 (key:= .int .i64 6) rfl rfl (rule 1 (h+1) 2);have k1:Blk x1 (h+1) 3 #[U3,U4]:=by have:=Blk.new (w.alloc (.map #[] 0)) 3 #[U3,U4];rw[s0] at this;exact this.fr f1 (by unfold dG;omega)
 have s1:x1.heap.size=h+2:=by rw[z1];simp[s0]
 have c2:(x1.alloc (.cells #[U1] 3)).heap[h]?=_:=((heap_alloc x1 _).2 h (by omega)).trans b1;obtain⟨x2,i2,b2,f2,z2⟩:=kZ rV mD c2 (key:= .int .i64 7) rfl rfl (rule 1 (h+2) 1);have k2:Blk x2 (h+2) 3 #[U1]:=by have:=Blk.new x1 3 #[U1];rw[s1] at this;exact this.fr f2 (by unfold dG;omega)
 have s2:x2.heap.size=h+3:=by rw[z2];simp[s1]
 have c3:(x2.alloc (.cells #[U2] 3)).heap[h]?=_:=((heap_alloc x2 _).2 h (by omega)).trans b2;obtain⟨x3,i3,b3,f3,z3⟩:=kZ rV mD c3 (key:= .int .i64 8) rfl rfl (rule 2 (h+3) 1);have k3:Blk x3 (h+3) 3 #[U2]:=by have:=Blk.new x2 3 #[U2];rw[s2] at this;exact this.fr f3 (by unfold dG;omega)
 have s3:x3.heap.size=h+4:=by rw[z3];simp[s2]
 have c4:(x3.alloc (.cells #[U1] 3)).heap[h]?=_:=((heap_alloc x3 _).2 h (by omega)).trans b3;obtain⟨x4,i4,b4,f4,z4⟩:=kZ rV mD c4 (key:= .int .i64 20) rfl rfl (rule 4 (h+4) 1);have k4:Blk x4 (h+4) 3 #[U1]:=by have:=Blk.new x3 3 #[U1];rw[s3] at this;exact this.fr f4 (by unfold dG;omega)
 have s4:x4.heap.size=h+5:=by rw[z4];simp[s3]
 have c5:(x4.alloc (.cells #[U1] 3)).heap[h]?=_:=((heap_alloc x4 _).2 h (by omega)).trans b4;obtain⟨x5,i5,b5,f5,z5⟩:=kZ rV mD c5 (key:= .int .i64 5) rfl rfl (rule 1 (h+5) 1);have k5:Blk x5 (h+5) 3 #[U1]:=by have:=Blk.new x4 3 #[U1];rw[s4] at this;exact this.fr f5 (by unfold dG;omega)
 have s5:x5.heap.size=h+6:=by rw[z5];simp[s4]
 have e0:Fr (dG h) (w.alloc (.map #[] 0)) (w.alloc (.map #[] 0)):=Fr.refl _ _;have e1:=(e0.alloc (.cells #[U3,U4] 3)).tr f1;have e2:=(e1.alloc (.cells #[U1] 3)).tr f2;have e3:=(e2.alloc (.cells #[U2] 3)).tr f3;have e4:=(e3.alloc (.cells #[U1] 3)).tr f4;have e5:=(e4.alloc (.cells #[U1] 3)).tr f5;have K1:Hd (Blk x5 (h+1) 3 #[U3,U4]):=((((((((k1.alloc _).fr f2 (by unfold dG;omega)).alloc _).fr f3 (by unfold dG;omega)).alloc _).fr f4 (by unfold dG;omega)).alloc _).fr f5 (by unfold dG;omega));have K2:Hd (Blk x5 (h+2) 3 #[U1]):=((((((k2.alloc _).fr f3 (by unfold dG;omega)).alloc _).fr f4 (by unfold dG;omega)).alloc _).fr f5 (by unfold dG;omega));have K3:Hd (Blk x5 (h+3) 3 #[U2]):=((((k3.alloc _).fr f4 (by unfold dG;omega)).alloc _).fr f5 (by unfold dG;omega));have K4:Hd (Blk x5 (h+4) 3 #[U1]):=((k4.alloc _).fr f5 (by unfold dG;omega));have K5:Hd (Blk x5 (h+5) 3 #[U1]):=k5;have FE:Hd (Fr nob w x5):=Fr.trans ((fR w).alloc (.map #[] 0)) e5 (λ_ _ x=>x) (λb hb e=>by unfold dG at e;omega);have BE:Hd (x5.heap[h]?=some (.map (aFv h) 5)):=b5;rw[hh];clear e0 e1 e2 e3 e4 e5 k1 k2 k3 k4 k5 f1 f2 f3 f4 f5 b0 b1 b2 b3 b4 b5 c1 c2 c3 c4 c5 z1 z2 z3 z4 z5;unfold rule at i1 i2 i3 i4 i5;go_enter func209,ntmps209;go_wp2
 go_ret
 first|exact⟨rfl,FE,BE,K1,K2,K3,K4,K5⟩|trace_state
end Go.Proofs.YtlbjicjinnnboaaGreatDoor
/- The program's own checker: tells, of the leaves. -/
namespace Go.Proofs.YtlbjicjinnnboaaGreatDoor
open Go.RowKit Go.Proofs.Tryz
open Pw
variable {x line n:Nat}{nm:List UInt8}{l:List Nat}
section
variable {G:Geo}{w w':World}{s:CkS}{r:CkR CkS}{zs:List Nat}{k e p:Nat}{ex:Nat->CkS->CkR (Nat×CkS)}
def aPi (G:Geo) (ex:Nat->CkS->CkR (Nat×CkS)) (zs:List Nat) (k x:Nat) (nd:aH):Prop:=∀(w:World) (r:CkR CkS) (A:Option Addr) (c:Nat),KqM G w r zs k->Own w 3 1 (.slice A nd.l.length c) nd.l.length (ints nd.l)->(∀b,blk (.slice A nd.l.length c)=some b->b<G.B) ->
 Calls prog 193 #[(G.g,()),.agg #[nd.kind,nd.line,nd.n,bs nd.name,.slice A nd.l.length c],x] w λen w'=>∃t:Nat,en = .returned t∧KqT G w' (r.bind (bM G.fs ex x nd)) zs k t∧FrK G w w'
theorem KqT.leaf (h:KqM G w r zs k){t:Nat}{f:CkS->CkR (Nat×CkS)} (hf:∀s,f s = .good (t,s)):KqT G w (r.bind f) zs k t:=by
 cases r with
 | bad e p=>exact⟨h,λ_ _ hr=>by cases hr⟩
 | good s=>exact⟨by simp only[CkR.aC];rw[hf];exact h,λt' s' hr=>by simp only[CkR.aC] at hr;rw[hf] at hr;injection hr with hr;injection hr⟩
theorem kL (k0:Nat) (h0:k0=1∨k0=2∨k0=3∨k0=19):aPi G ex zs k x ⟨k0,line,n,nm,l⟩:=λw r A c h ho hlow=>by
 have FA:Hd (Fr nob w (w.alloc (.cells #[k0,line,n,bs nm,.slice A l.length c] 50))):=(fR w).alloc _;have S0:=hD (h.no FA);clear ho hlow h;dsimp only;rcases h0 with rfl|rfl|rfl|rfl
 all_goals
  go_enter func193,ntmps193;go_wp2
  go_ret;exact⟨_,rfl,KqT.leaf S0 (λs=>by simp[bM]),FrK.no FA⟩
end
section
variable {G:Geo}{w w':World}{s:CkS}{r:CkR CkS}{zs:List Nat}{k e p:Nat}{ex:Nat->CkS->CkR (Nat×CkS)}
theorem yK (hx:G.ns[x]?=some ⟨4,line,n,nm,l⟩):aPi G ex zs k x ⟨4,line,n,nm,l⟩:=λw r A c h ho hlow=>by
 have FA:Hd (Fr nob w (w.alloc (.cells #[U4,line,n,bs nm,.slice A l.length c] 50))):=(fR w).alloc _;have HN:=hD (KqM.named (zs:=zs) (k:=k) hx _ _ (h.no FA));have E:=hD (show r.bind (bM G.fs ex x ⟨4,line,n,nm,l⟩)=r.bind (aV x nm) from by congr 1);clear ho hlow h hx;dsimp only;go_enter func193,ntmps193;go_wp2_with fail
 refine HN.o.mono ?_;rintro en w2 ⟨t,rfl,h2,hf⟩;have S2:=hD h2;have F2:=hD ((FrK.no FA).trans hf);clear h2 hf HN;go_wp2
 go_ret;exact⟨t,rfl,by rw[E.o];exact S2,F2⟩
theorem yL (hex:∀a∈l,iN 170 G zs k a (ex a)) (h300:l.length≤300) (hx3:x≤300):aPi G ex zs k x ⟨21,line,0,nm,l⟩:=λw r A c h ho hlow=>by
 have FA:Hd (Fr nob w (w.alloc (.cells #[(21:Int),line,U0,bs nm,.slice A l.length c] 50))):=(fR w).alloc _;have HN:=hD (aGk (nm:=nm) (line:=line) hex (h.no FA) (ho.fr FA (λ_ _ x=>x)) hlow h300 hx3);have E:=hD (show r.bind (bM G.fs ex x ⟨21,line,0,nm,l⟩)=r.bind (jP G.fs ex x ⟨21,line,0,nm,l⟩) from by congr 1);clear ho hlow h hex;dsimp only;go_enter func193,ntmps193;go_wp2_with fail
 refine HN.o.mono ?_;rintro en w2 ⟨t,rfl,h2,hf⟩;have S2:=hD h2;have F2:=hD ((FrK.no FA).trans hf);clear h2 hf HN;go_wp2
 go_ret;exact⟨t,rfl,by rw[E.o];exact S2,F2⟩
end
section
variable {ns:List aH}{fs:List aD}{k:Nat}
def bX (k y:Nat) (s:CkS):CkS:={ s with fn:=s.fn.set y k }
def Cm (k:Nat) (ex:Nat->CkS->CkR (Nat×CkS)):Prop:=∀a y s,ex a (bX k y s)=(ex a s).map λr=>(r.1,bX k y r.2)
theorem CkR.bind_map {α β γ:Type} (r:CkR α) (f:α->β) (g:β->CkR γ):(r.map f).bind g=r.bind λa=>g (f a):=by cases r<;>rfl
theorem CkR.map_bind {α β γ:Type} (r:CkR α) (f:α->CkR β) (g:β->γ):(r.bind f).map g=r.bind λa=>(f a).map g:=by cases r<;>rfl
theorem CkR.map_map {α β γ:Type} (r:CkR α) (f:α->β) (g:β->γ):(r.map f).map g=r.map λa=>g (f a):=by cases r<;>rfl
theorem CkR.xJ {α β γ:Type} (r:CkR α) (f:α->CkR β) (g:β->CkR γ):(r.bind f).bind g=r.bind λa=>(f a).bind g:=by cases r<;>rfl
theorem uK {ex:Nat->CkS->CkR (Nat×CkS)} (hc:Cm k ex) (y:Nat):∀(l:List Nat) (s:CkS),bH ex l (bX k y s)=(bH ex l s).map λr=>(r.1,bX k y r.2)
 | [],s=>rfl
 | a :: l,s=>by
  unfold bH;rw[hc,CkR.bind_map,CkR.map_bind];congr 1
  funext r
  rw[uK hc y l,CkR.map_map,CkR.map_map]
theorem qX (x:Nat) (nm:List UInt8) (y:Nat) (s:CkS):aV x nm (bX k y s)=(aV x nm s).map λr=>(r.1,bX k y r.2):=by
 unfold aV bX;dsimp only;cases eT s.vars nm<;>rfl
theorem qW (p:Prop) [Decidable p] (t e x:Nat) (y:Nat) (s:CkS):(if p then CkR.good (t,bX k y s) else .bad e x)=(if p then CkR.good (t,s) else .bad e x:CkR (Nat×CkS)).map λr=>(r.1,bX k y r.2):=by
 by_cases h:p
 . rw[if_pos h,if_pos h];rfl
 . rw[if_neg h,if_neg h];rfl
theorem qD {ex:Nat->CkS->CkR (Nat×CkS)} (hc:Cm k ex) (x:Nat) (nd:aH) (y:Nat) (s:CkS):bM fs ex x nd (bX k y s)=(bM fs ex x nd s).map λr=>(r.1,bX k y r.2):=by
 unfold bM;by_cases h1:nd.kind=1∨nd.kind=19
 . rw[if_pos h1,if_pos h1];rfl
 rw[if_neg h1,if_neg h1];by_cases h2:nd.kind=2
 . rw[if_pos h2,if_pos h2];rfl
 rw[if_neg h2,if_neg h2];by_cases h3:nd.kind=3
 . rw[if_pos h3,if_pos h3];rfl
 rw[if_neg h3,if_neg h3];by_cases h4:nd.kind=4
 . rw[if_pos h4,if_pos h4];exact qX x nd.name y s
 rw[if_neg h4,if_neg h4];by_cases h5:nd.kind=21
 . rw[if_pos h5,if_pos h5]
   unfold jP;cases findF fs nd.name with
   | none=>rfl
   | some j=>
     dsimp only;rw[uK hc,CkR.bind_map,CkR.map_bind];congr 1
     funext r
     dsimp only;by_cases q1:r.1.length≠((fs[j]?.map (·.params)).getD []).length
     . rw[if_pos q1,if_pos q1];rfl
     rw[if_neg q1,if_neg q1];by_cases q2:r.1≠((fs[j]?.map (·.params)).getD []).map (·.2)
     . rw[if_pos q2,if_pos q2];rfl
     rw[if_neg q2,if_neg q2];rfl
 rw[if_neg h5,if_neg h5];by_cases h6:nd.kind=5
 . rw[if_pos h6,if_pos h6,qX,CkR.bind_map,CkR.map_bind]
   congr 1
   funext t
   rw[hc,CkR.bind_map,CkR.map_bind];congr 1
   funext r
   exact qW _ _ _ _ _ _
 rw[if_neg h6,if_neg h6];by_cases h7:nd.kind=9
 . rw[if_pos h7,if_pos h7,hc,CkR.bind_map,CkR.map_bind]
   congr 1
   funext t
   rw[hc,CkR.bind_map,CkR.map_bind];congr 1
   funext r
   dsimp only;by_cases q:dA nd.name t.1 r.1=0
   . rw[if_pos q,if_pos q];rfl
   . rw[if_neg q,if_neg q];rfl
 rw[if_neg h7,if_neg h7,hc,CkR.bind_map,CkR.map_bind];congr 1
 funext r
 dsimp only;by_cases h8:nd.kind=6
 . rw[if_pos h8,if_pos h8];exact qW _ _ _ _ _ _
 rw[if_neg h8,if_neg h8];by_cases h9:nd.kind=7
 . rw[if_pos h9,if_pos h9];exact qW _ _ _ _ _ _
 rw[if_neg h9,if_neg h9];by_cases h10:nd.kind=8
 . rw[if_pos h10,if_pos h10];exact qW _ _ _ _ _ _
 rw[if_neg h10,if_neg h10];exact qW _ _ _ _ _ _
theorem uF:∀f:Nat,Cm k (dR ns fs k f)
 | 0=>λa y s=>rfl
 | f+1=>λa y s=>by
  unfold dR;cases ns[a]? with
  | none=>rfl
  | some nd=>
   dsimp only;rw[qD (uF f),CkR.map_map,CkR.map_map];congr 1
   funext r
   unfold bX;dsimp only;by_cases e:y=a
   . subst e;rfl
   . rw[List.set_comm _ _ e]
theorem zQ {f:Nat}{nd:aH} (hx:ns[x]?=some nd) (s:CkS):dR ns fs k (f+1) x s=(bM fs (dR ns fs k f) x nd (bX k x s)).map λr=>(r.1,{ r.2 with types:=r.2.types.set x r.1 }):=by
 rw[qD (uF f),CkR.map_map];unfold dR;rw[hx];rfl
end
section
variable {G:Geo}{w w':World}{s:CkS}{r:CkR CkS}{zs:List Nat}{k e p:Nat}{ex:Nat->CkS->CkR (Nat×CkS)}
theorem KqT.args {fn:CkS->CkR (Nat×CkS)}{ts:List Nat}{P:List Nat->Bool}{T:List Nat->Nat}{b:Bool}{t:Nat}
  (heq:∀s,fn s=(bH ex l s).bind λq=>if P q.1=true then .good (T q.1,q.2) else .bad 42 x)
  (hv:∀t' s',r.bind (bH ex l) = .good (t',s')->ts=t') (hb:b=P ts) (ht:b=true->t=T ts)
  (h:KqM G w (((r.bind (bH ex l)).map (·.2)).bind λs=>if b=true then .good s else .bad 42 x) zs k):KqT G w (r.bind fn) zs k t:=by
 have e1:r.bind fn=(r.bind (bH ex l)).bind λq=>if P q.1=true then .good (T q.1,q.2) else .bad 42 x:=by
  cases r with
  | bad e p=>rfl
  | good s=>exact heq s
 rw[e1];cases hq:r.bind (bH ex l) with
 | bad e p=>
  rw[hq] at h;exact⟨h,λt' s' hr=>by cases hr⟩
 | good q=>
  rw[hq] at h hv;have:=hv q.1 q.2 rfl;subst this;simp only[CkR.cB,CkR.aC] at h ⊢;rw[<-hb];cases b with
  | true=>exact⟨h,λt' s' hr=>by injection hr with hr;injection hr with hr _;rw[<-hr];exact ht rfl⟩
  | false=>exact⟨h,λt' s' hr=>by cases hr⟩
theorem args2 (a b:Nat) (s:CkS):bH ex [a,b] s=(ex a s).bind λu=>(ex b u.2).map λv=>([u.1,v.1],v.2):=by
 show (ex a s).bind _=_
 cases ex a s with
 | bad e p=>rfl
 | good u=>
  simp only[CkR.aC]
  show ((ex b u.2).bind _).map _=_
  cases ex b u.2<;>rfl
theorem args1 (a:Nat) (s:CkS):bH ex [a] s=(ex a s).map λu=>([u.1],u.2):=by
 show (ex a s).bind _=_
 cases ex a s<;>rfl
theorem oM {fs:List aD}{a b:Nat} (s:CkS):bM fs ex x ⟨9,line,n,nm,[a,b]⟩ s=(bH ex [a,b] s).bind λq=>if (λts:List Nat=>decide (dA nm (ts.getD 0 0) (ts.getD 1 0)≠0)) q.1=true then .good ((λts:List Nat=>dA nm (ts.getD 0 0) (ts.getD 1 0)) q.1,q.2) else .bad 42 x:=by
 rw[args2,CkR.xJ]
 show ((ex a s).bind λu=>(ex b u.2).bind λv=>if dA nm u.1 v.1=0 then .bad 42 x else .good (dA nm u.1 v.1,v.2))=_
 congr 1
 funext u
 rw[CkR.bind_map];congr 1
 funext v
 show _=if decide (dA nm u.1 v.1≠0)=true then CkR.good (dA nm u.1 v.1,v.2) else .bad 42 x
 by_cases h:dA nm u.1 v.1=0
 . simp[h]
 . simp[h]
theorem aCm {a b:Nat} (hex:∀i∈[a,b],iN 170 G zs k i (ex i)):aPi G ex zs k x ⟨9,line,n,nm,[a,b]⟩:=λw r A c h ho hlow=>by
 have FA:Hd (Fr nob w (w.alloc (.cells #[U9,line,n,bs nm,.slice A 2 c] 50))):=(fR w).alloc _;have BA:=hD (Blk.new w 50 #[U9,line,n,bs nm,.slice A 2 c]);have HN:=hD (iL (kind:=9) (line:=line) (n:=n) (nm:=nm) hex (h.no FA) (ho.fr FA (λ_ _ x=>x)) hlow (by simp));have HG:=hD h.geo;have HZ:=hD (show G.Z≤w.heap.size from by obtain⟨s,e,p,h,_⟩:=h.open_;exact h.zle);clear ho hlow h hex;dsimp only;go_enter func193,ntmps193;go_wp2_with fail
 refine HN.o.mono ?_;rintro en w2 ⟨A2,c2,ts,rfl,h2,hf⟩;have S2:=hD h2;have F2:=hD ((FrK.no FA).trans hf);have GN:=hD (show w.heap.size≠G.g∧w.heap.size≠G.bt∧w.heap.size≠G.bs∧w.heap.size≠G.bf from by have:=HG.o.lg;have:=HG.o.lt;have:=HG.o.ls;have:=HG.o.lf;have:=HZ.o;exact⟨by omega,by omega,by omega,by omega⟩);have B2:=hD (hf.far BA GN.o.1 GN.o.2.1 GN.o.2.2.1 GN.o.2.2.2 (by decide))
 clear h2 hf HN FA BA;generalize hT:w.heap.size=T at *;have d0:w2.cell? (T,0)=U9:=(B2.o.cell 0).trans rfl;have d3:w2.cell? (T,3)=(bs nm):=(B2.o.cell 3).trans rfl;have hts:ts.length=2:=by have:=S2.o.own.len;simpa[ints] using this
 obtain⟨t0,t1,rfl⟩:∃t0 t1,ts=[t0,t1]:=by
   match ts,hts with
   | [u,v],_=>exact⟨u,v,rfl⟩
 have O2:=S2.o.own;obtain⟨tb,e9,htc⟩:=O2.some (by simp);subst e9;have g0:=htc 0 t0 rfl;have g1:=htc 1 t1 rfl;clear htc O2 hts;by_cases ht:t0=t1
 . subst ht
   have heb:((t0:Int)==(t0:Int))=true:=by simp
   go_wp2_with fail
   go_quiet (fail)
   have f3:Fr nob w2 (w2.drewN nq):=(fR w2).drewN nq;have B3:=hD (B2.o.fr f3 (λx=>x));have O3:=hD (S2.o.own.fr f3 (λ_ _ x=>x));have S3:=hD (S2.o.st.no f3);have F3:=hD (F2.o.trans (FrK.no f3));have VL:=hD S2.o.val;clear d0 d3 g0 g1 f3 S2 F2 B2;generalize w2.drewN nq=w3 at *;have d3:w3.cell? (T,3)=(bs nm):=(B3.o.cell 3).trans rfl;have g0:w3.cell? (tb,0)=t0:=by
    obtain⟨b',e1,hc⟩:=O3.o.some (by simp);injection e1 with e1;injection e1 with e1;subst e1;exact hc 0 t0 rfl
   go_wp2_with fail
   go_still_tail 5,(by kernel_rfl)
   change wpList _ _ _ _ _ w3.drew;have S4:=hD (S3.o.no (fR w3).drew);have F4:=hD (F3.o.trans (FrK.no (fR w3).drew));clear d3 g0 S3 F3 B3 O3;generalize w3.drew=w4 at *;go_wp2_with fail
   refine stepM (aKu w4 nm t0) λw5 hf=>?_;have S5:=hD (S4.o.no hf);have F5:=hD (F4.o.trans (FrK.no hf));clear hf S4 F4;obtain⟨R,hR⟩:∃R,dA nm t0 t0=R:=⟨_,rfl⟩;have HR:=hD hR;rw[hR];clear hR;go_wp2_with fail
   refine dY (S5.o.ask _ 42 x (by decide) (by decide)) λw6 S6 f6=>?_;have F6:=hD (F5.o.trans (FrK.ofG f6));clear f6 S5 F5;go_wp2
   go_ret;exact⟨R,rfl,KqT.args (P:=λts=>decide (dA nm (ts.getD 0 0) (ts.getD 1 0)≠0)) (T:=λts=>dA nm (ts.getD 0 0) (ts.getD 1 0)) (b:=((R:Int) != 0)) oM VL (by show _=decide (dA nm t0 t0≠0);rw[HR.o,Bool.eq_iff_iff];simp) (λ_=>HR.o.symm) S6,F6⟩
 . have heb:((t0:Int)==(t1:Int))=false:=bN.2 (by omega)
   go_wp2_with fail
   go_quiet (fail)
   have f3:Fr nob w2 (w2.drewN nq):=(fR w2).drewN nq;have S3:=hD (S2.o.st.no f3);have F3:=hD (F2.o.trans (FrK.no f3));have VL:=hD S2.o.val;have HT:=hD ht;clear d0 d3 g0 g1 f3 S2 F2 B2 ht;generalize w2.drewN nq=w3 at *;go_wp2_with fail
   refine dY (S3.o.ask false 42 x (by decide) (by decide)) λw6 S6 f6=>?_;have F6:=hD (F3.o.trans (FrK.ofG f6));clear f6 S3 F3;go_wp2
   go_ret;exact⟨0,rfl,KqT.args (P:=λts=>decide (dA nm (ts.getD 0 0) (ts.getD 1 0)≠0)) (T:=λts=>dA nm (ts.getD 0 0) (ts.getD 1 0)) (b:=false) oM VL (by show _=decide (dA nm t0 t1≠0);rw[show dA nm t0 t1=0 from by unfold dA;rw[if_pos HT.o]];rfl) (λh=>by cases h) S6,F6⟩
end
end Go.Proofs.YtlbjicjinnnboaaGreatDoor
/- A still walk passes over an operation whose guard is false. -/
namespace Go.Proofs.YtlbjicjinnnboaaGreatDoor
open Go.RowKit Go.Proofs.Tryz
variable {x line a n:Nat}{nm:List UInt8}{w:World}{fs:List aD}
theorem iR {P:Program}{ops:Array Oper}{Q:Act->Prop}{a:Act}{o:Oper}{rest:List Oper} (hw:Region.wanted o (yielded ops a.tmps)=false) (h:wpStill P ops w Q rest (a.put o.dst undef)):wpStill P ops w Q (o :: rest) a:=
 wpStill_step λK hK=>by rw[if_neg (by rw[hw];exact Bool.false_ne_true)];exact hK _ h
theorem kU {P:Program}{ops:Array Oper}{Q:Act->Prop}{a:Act}{o:Oper}{rest:List Oper} (hw:Region.wanted o (yielded ops a.tmps)=true) (h:∀K:Act->Prop,(∀a,wpStill P ops w Q rest a->K a)->o.still P a w K):wpStill P ops w Q (o :: rest) a:=
 wpStill_step λK hK=>by rw[if_pos hw];exact h K hK
open Pw
def rT (kd:Nat):Nat:=if kd=8 then 2 else if kd=20 then 4 else 1
def rO (kd:Nat):Nat:=if kd=6 then 1 else if kd=7 then 2 else if kd=8 then 3 else if kd=20 then 4 else 5
def rZ (kd:Nat):List Int:=if kd=6 then [3,4] else if kd=8 then [2] else [1]
theorem wI (w:World) (kd:Nat) (h0:kd=6∨kd=7∨kd=8∨kd=20∨kd=5):Calls prog 209 #[] w λen w'=>∃h,w.heap.size≤h∧en = .returned (.map (some h))∧Fr nob w w' ∧
   (∀wx,Fr nob w' wx->(Instr.lookup 183 (.map (some h)) kd false).run prog wx = .ok (.agg #[rT kd,(h+rO kd,(rZ kd).length,(rZ kd).length)]) wx)∧Blk w' (h+rO kd) 3 (fM (rZ kd)).toArray:=by
 refine (aCq w).mono ?_;rintro en w' ⟨rfl,hf,hm,b1,b2,b3,b4,b5⟩;have hm':∀wx,Fr nob w' wx->wx.heap[w.heap.size]?=some (.map (aFv w.heap.size) 5):=λwx f=>(f.block _ (Array.getElem?_eq_some_iff.1 hm).1 (λx=>x)).trans hm
 rcases h0 with rfl|rfl|rfl|rfl|rfl
 . exact⟨_,Nat.le_refl _,rfl,hf,λwx f=>fI rV mD (hm' wx f) (key:= .int .i64 6) rfl rfl,b1⟩
 . exact⟨_,Nat.le_refl _,rfl,hf,λwx f=>fI rV mD (hm' wx f) (key:= .int .i64 7) rfl rfl,b2⟩
 . exact⟨_,Nat.le_refl _,rfl,hf,λwx f=>fI rV mD (hm' wx f) (key:= .int .i64 8) rfl rfl,b3⟩
 . exact⟨_,Nat.le_refl _,rfl,hf,λwx f=>fI rV mD (hm' wx f) (key:= .int .i64 20) rfl rfl,b4⟩
 . exact⟨_,Nat.le_refl _,rfl,hf,λwx f=>fI rV mD (hm' wx f) (key:= .int .i64 5) rfl rfl,b5⟩
theorem aAx {b:Nat}{zs:List Int} (t:Nat) (hz:Blk w b 3 (fM zs).toArray) (hn:zs.length≤10):Calls prog 210 #[(b,zs.length,zs.length),t] w λen w'=>en = .returned (zs.contains (t:Int))∧w'=w:=by
 have HC:=slices_Contains_int b 0 zs.length zs.length zs (t:Int) w (Nat.le_refl _) (by omega) (λj hj=>by
  rw[Nat.zero_add,hz.cell j];unfold fM;rw[<-Array.getElem?_toList,List.getElem?_map,gE hj,List.getD,gE hj];rfl)
 rw[List.take_length] at HC;exact HC.mono λen w' h=>h
section
variable {G:Geo}{w w':World}{s:CkS}{r:CkR CkS}{zs:List Nat}{k e p:Nat}{ex:Nat->CkS->CkR (Nat×CkS)}
theorem xY {kd:Nat} (h0:kd=6∨kd=7∨kd=8∨kd=20) (s:CkS):bM fs ex x ⟨kd,line,n,nm,[a]⟩ s=(bH ex [a] s).bind λq=>if (λts:List Nat=>(rZ kd).contains ((ts.getD 0 0:Nat):Int)) q.1=true then .good ((λ_:List Nat=>rT kd) q.1,q.2) else .bad 42 x:=by
 rw[args1,CkR.bind_map];unfold bM;rcases h0 with rfl|rfl|rfl|rfl
 all_goals
  simp[rZ,rT]
  congr 1
  funext u
  try (by_cases h:u.1=1<;>simp[h]<;>omega)
  try (by_cases h:u.1=2<;>simp[h]<;>omega)
  try (by_cases h:u.1=3<;>by_cases h4:u.1=4<;>simp[h,h4]<;>omega)
theorem mZ (kd:Nat) (h0:kd=6∨kd=7∨kd=8∨kd=20) (hex:∀i∈[a],iN 170 G zs k i (ex i)):aPi G ex zs k x ⟨kd,line,n,nm,[a]⟩:=λw r A c h ho hlow=>by
 have FA:Hd (Fr nob w (w.alloc (.cells #[kd,line,n,bs nm,.slice A 1 c] 50))):=(fR w).alloc _;have BA:=hD (Blk.new w 50 #[kd,line,n,bs nm,.slice A 1 c]);have HN:=hD (iL (kind:=kd) (line:=line) (n:=n) (nm:=nm) hex (h.no FA) (ho.fr FA (λ_ _ x=>x)) hlow (by simp));have HG:=hD h.geo;have HZ:=hD (show G.Z≤w.heap.size from by obtain⟨s,e,p,h,_⟩:=h.open_;exact h.zle);have EQ:=hD (xY (ex:=ex) (fs:=G.fs) (x:=x) (line:=line) (n:=n) (a:=a) (nm:=nm) h0);have HRU:=hD (λw=>wI w kd (by omega));clear ho hlow h hex;dsimp only;have e1:((kd:Int)==1)=false:=by rcases h0 with rfl|rfl|rfl|rfl<;>rfl
 have e19:((kd:Int)==19)=false:=by rcases h0 with rfl|rfl|rfl|rfl<;>rfl
 have e2:((kd:Int)==2)=false:=by rcases h0 with rfl|rfl|rfl|rfl<;>rfl
 have e3:((kd:Int)==3)=false:=by rcases h0 with rfl|rfl|rfl|rfl<;>rfl
 have e4:((kd:Int)==4)=false:=by rcases h0 with rfl|rfl|rfl|rfl<;>rfl
 have e21:((kd:Int)==21)=false:=by rcases h0 with rfl|rfl|rfl|rfl<;>rfl
 have e5:((kd:Int)==5)=false:=by rcases h0 with rfl|rfl|rfl|rfl<;>rfl
 have e9:((kd:Int)==9)=false:=by rcases h0 with rfl|rfl|rfl|rfl<;>rfl
 obtain⟨RT,hRT⟩:∃RT,rT kd=RT:=⟨_,rfl⟩;obtain⟨RO,hRO⟩:∃RO,rO kd=RO:=⟨_,rfl⟩;obtain⟨RZ,hRZ⟩:∃RZ,rZ kd=RZ:=⟨_,rfl⟩;have HRZ:=hD (show RZ.length≤10 from by subst hRZ;rcases h0 with rfl|rfl|rfl|rfl<;>decide);rw[hRT,hRO,hRZ] at HRU;rw[hRZ] at EQ;clear h0 hRO;go_enter func193,ntmps193;go_wp2_with fail
 refine HN.o.mono ?_;rintro en w2 ⟨A2,c2,ts,rfl,h2,hf⟩;have S2:=hD h2;have F2:=hD ((FrK.no FA).trans hf);have GN:=hD (show w.heap.size≠G.g∧w.heap.size≠G.bt∧w.heap.size≠G.bs∧w.heap.size≠G.bf from by have:=HG.o.lg;have:=HG.o.lt;have:=HG.o.ls;have:=HG.o.lf;have:=HZ.o;exact⟨by omega,by omega,by omega,by omega⟩);have B2:=hD (hf.far BA GN.o.1 GN.o.2.1 GN.o.2.2.1 GN.o.2.2.2 (by decide));clear h2 hf HN FA BA;generalize hT:w.heap.size=T at *;have hts:ts.length=1:=by have:=S2.o.own.len;simpa[ints] using this
 obtain⟨t0,rfl⟩:∃t0,ts=[t0]:=by
  match ts,hts with
  | [u],_=>exact⟨u,rfl⟩
 have d0:w2.cell? (T,0)=kd:=(B2.o.cell 0).trans rfl;have K:=hD d0;have tn2:¬T=w2.heap.size:=by have:=B2.o.lt;omega
 clear hts;go_wp2_with fail
 go_region_held3 (λwx=>wx.cell? (T,0)=kd) (first|exact K.o|exact K8.o|exact KS _ _|go_keep) (first
  | (go_at_call 209;refine (HRU _).mono ?_;rintro en w8 ⟨h,hh,rfl,f8,LF,hb⟩;have F8:Hd (Fr nob w2 w8):=(fR w2).drew.tr f8;go_loud (have K8:Hd (w8.cell? (T,0)=kd):=((B2.o.fr F8 (λx=>x)).cell 0).trans rfl);go_loud (have R8:=hD hb);go_loud (have LK:=LF w8 (fR w8));go_loud (have LK2:=LF (w8.alloc (.cells #[U0,Un] 182)) ((fR w8).alloc _));go_loud (have x8:=K8.o);go_loud (have tn8:¬T=w8.heap.size:=(by have:=B2.o.lt;have:=F8.o.size;omega));go_loud (clear LF f8 hb))
  | (go_at_call 209;refine (HRU _).mono ?_;rintro en w8 ⟨h,hh,rfl,f8,LF,hb⟩;have F8:Hd (Fr nob w2 w8):=((fR w2).drew.alloc (.cells #[U0,Un] 182)).tr f8;go_loud (have K8:Hd (w8.cell? (T,0)=kd):=((B2.o.fr F8 (λx=>x)).cell 0).trans rfl);go_loud (have R8:=hD hb);go_loud (have LK:=LF w8 (fR w8));go_loud (have x8:=K8.o);go_loud (have BZ:Hd (Blk w8 w2.heap.size 182 #[U0,Un]):=(Blk.new w2.drew 182 #[U0,Un]).fr f8 (λx=>x));go_loud (have KS:=hD (λ(a b:Value)=>((((B2.o.fr F8 (λx=>x)).far (p:=(w2.heap.size,())) tn2 a).far (p:=(w2.heap.size,U1)) tn2 b).cell 0).trans (show _=some (Value.int .i64 kd) from rfl)));go_loud (have z0:=(BZ.o.cell 0).trans (show _=some (Value.int .i64 0) from rfl));go_loud (have z1:=(BZ.o.cell 1).trans (show _=some (Value.slice none 0 0) from rfl));go_loud (have zf0:=BZ.o.frozen 0);go_loud (have zf1:=BZ.o.frozen 1);go_loud (have zl:=BZ.o.lt);go_loud (clear LF f8 hb)))
 all_goals
  first
  | (clear LK2
     have Z:=hD (show Blk (w8.alloc (.cells #[RT,(h+RO,RZ.length,RZ.length)] 182)) w8.heap.size 182 #[RT,(h+RO,RZ.length,RZ.length)]∧Fr nob w2 (w8.alloc (.cells #[RT,(h+RO,RZ.length,RZ.length)] 182))∧Blk (w8.alloc (.cells #[RT,(h+RO,RZ.length,RZ.length)] 182)) (h+RO) 3 (fM RZ).toArray from ⟨Blk.new _ _ _,F8.o.alloc _,R8.o.alloc _⟩);clear LK x8 tn8 K8 R8 F8;generalize w8.alloc (.cells #[RT,(h+RO,RZ.length,RZ.length)] 182)=w9 at *;generalize w8.heap.size=D at *)
  | (have Z:=hD (show Blk ((w8.setCell (w2.heap.size,()) RT).setCell (w2.heap.size,U1) (h+RO,RZ.length,RZ.length)) w2.heap.size 182 #[RT,(h+RO,RZ.length,RZ.length)]∧Fr nob w2 ((w8.setCell (w2.heap.size,()) RT).setCell (w2.heap.size,U1) (h+RO,RZ.length,RZ.length))∧Blk ((w8.setCell (w2.heap.size,()) RT).setCell (w2.heap.size,U1) (h+RO,RZ.length,RZ.length)) (h+RO) 3 (fM RZ).toArray from
       ⟨(BZ.o.setCell 0 _).setCell 1 _,(F8.o.setCell (w2.heap.size,()) _ (λh=>by have h:w2.heap.size<w2.heap.size:=h;omega)).setCell (w2.heap.size,U1) _ (λh=>by have h:w2.heap.size<w2.heap.size:=h;omega),(R8.o.far (p:=(w2.heap.size,())) (R8.o.ne BZ (by decide)) _).far (p:=(w2.heap.size,U1)) (R8.o.ne BZ (by decide)) _⟩)
     clear LK x8 K8 R8 F8 KS z0 z1 zf0 zf1 zl BZ;generalize (w8.setCell (w2.heap.size,()) RT).setCell (w2.heap.size,U1) (h+RO,RZ.length,RZ.length)=w9 at *;generalize w2.heap.size=D at *)
  have S9:=hD (S2.o.st.no Z.o.2.1);have F9:=hD (F2.o.trans (FrK.no Z.o.2.1));have O9:=hD (S2.o.own.fr Z.o.2.1 (λ_ _ x=>x));have VL:=hD S2.o.val;have D9:=hD Z.o.1;have R9:=hD Z.o.2.2;clear S2 F2 B2 d0 Z K tn2 HRU;obtain⟨tb,e0,htc⟩:=O9.o.some (by simp);subst e0;have g0:=htc 0 t0 rfl;have hc2:1≤c2:=by have:=O9.o.oU.1;simpa using this
  have d1:=(D9.o.cell 1).trans (show _=some (Value.slice (some (h+RO,())) RZ.length RZ.length) from rfl);obtain⟨z,hz⟩:∃z,RZ.contains (t0:Int)=z:=⟨_,rfl⟩;have HZZ:=hD hz;have HCT:=hD (aAx t0 (R9.o.fr (fR w9).drew (λx=>x)) HRZ);rw[hz] at HCT;have K9:=hD (And.intro g0 d1);have E9:=hD (show ∀w',Fr (dG G.g) w9 w'->(w'.cell? (tb,0)=t0∧w'.cell? (D,1)=some (Value.slice (some (h+RO,())) RZ.length RZ.length))∧w'.cell? (D,0)=RT from λw' f=>by
    obtain⟨s',e',p',hk,-⟩:=S9.o.open_;obtain⟨zv,vv,hb,-⟩:=hk.ex;have nD:D≠G.g:=D9.o.ne hb (by decide);have nT:tb≠G.g:=λe=>O9.o.aG hb (by decide) (by rw[<-e];exact aZ (by simp) hc2)
    exact⟨⟨(f.cell (p:=(tb,())) (show tb<_ from World.block_lt_of_cell? _ _ g0) nT).trans g0,(f.cell (p:=(D,U1)) D9.o.lt nD).trans d1⟩,(f.cell (p:=(D,())) D9.o.lt nD).trans ((D9.o.cell 0).trans (show _=some (Value.int .i64 (RT:Nat)) from rfl))⟩)
  clear htc hz;go_wp2_with fail
  go_region_held3 (λwx=>wx.cell? (tb,0)=t0∧wx.cell? (D,1)=some (Value.slice (some (h+RO,())) RZ.length RZ.length)) (first|exact K9.o|exact K8) (first
    | (go_at_call 210;go_loud (refine HCT.o.mono ?_);go_loud (rintro en w7 ⟨rfl,hw⟩);go_loud (subst hw))
    | (go_at_call 95;go_loud (refine ((S9.o.no (fR w9).drew).ask _ 42 x (by decide) (by decide)).mono ?_);go_loud (rintro en w6 ⟨rfl,h6,f6⟩);go_loud (have S6:=hD h6);go_loud (have F6:Hd (Fr (dG G.g) w9 w6):=Fr.trans ((fR w9).drew) f6 (λ_ _ x=>x.elim) (λ_ _ x=>x));go_loud (have K8:=hD (E9 _ F6).1);go_loud (clear h6 f6)))
  all_goals
    have d0:=(E9 _ F6).2;have FF:=hD (F9.o.trans (FrK.ofG F6));clear E9 F6 K8 K9 F9 D9 R9 O9 S9;go_wp2
    go_ret;refine⟨RT,rfl,KqT.args (P:=λts=>RZ.contains ((ts.getD 0 0:Nat):Int)) (T:=λ_=>rT kd) (b:=z) EQ VL HZZ.o.symm (λ_=>hRT.symm) S6,FF⟩
theorem xZ {kd t7:Nat} (h0:kd=5) (hv:∀t' s',r.bind (aV x nm) = .good (t',s')->t7=t'):r.bind (bM fs ex x ⟨kd,line,n,nm,[a]⟩)=((r.bind (aV x nm)).map (·.2)).bind λs=>(bH ex [a] s).bind λq=>if (decide (t7=4) && (rZ kd).contains ((q.1.getD 0 0:Nat):Int))=true then .good (rT kd,q.2) else .bad 42 x:=by
 subst h0;have e:bM fs ex x ⟨5,line,n,nm,[a]⟩=λs=>(aV x nm s).bind λt=>(ex a t.2).bind λr=>if t.1=4∧r.1=1 then .good (1,r.2) else .bad 42 x:=rfl
 rw[e,<-CkR.xJ];cases hq:r.bind (aV x nm) with
 | bad e p=>rfl
 | good v=>
  have:=hv v.1 v.2 hq;subst this;simp only[CkR.cB,CkR.aC];rw[args1,CkR.bind_map];congr 1
  funext u
  show _=if (decide (v.1=4) && [(1:Int)].contains ((u.1:Nat):Int))=true then CkR.good (1,u.2) else .bad 42 x
  by_cases h4:v.1=4
  . by_cases h1:u.1=1
    . simp[h4,h1]
    . simp[h4,h1];omega
  . simp[h4]
theorem aGc (kd:Nat) (h0:kd=5) (hx:G.ns[x]?=some ⟨kd,line,n,nm,[a]⟩) (hex:∀i∈[a],iN 170 G zs k i (ex i)):aPi G ex zs k x ⟨kd,line,n,nm,[a]⟩:=λw r A c h ho hlow=>by
 have FA:Hd (Fr nob w (w.alloc (.cells #[kd,line,n,bs nm,.slice A 1 c] 50))):=(fR w).alloc _;have BA:=hD (Blk.new w 50 #[kd,line,n,bs nm,.slice A 1 c]);have HNA:=hD (KqM.named (zs:=zs) (k:=k) hx _ _ (h.no FA));have HO:=hD (And.intro (ho.fr FA (λ_ _ x=>x)) (And.intro hlow hex));have HG:=hD h.geo;have HZ:=hD (show G.Z≤w.heap.size from by obtain⟨s,e,p,h,_⟩:=h.open_;exact h.zle);have EQ:=hD (λt7=>xZ (r:=r) (t7:=t7) (ex:=ex) (fs:=G.fs) (x:=x) (line:=line) (n:=n) (a:=a) (nm:=nm) h0);have HRU:=hD (λw=>wI w kd (by omega));clear ho hlow h hex hx;dsimp only;have e1:((kd:Int)==1)=false:=by subst h0;rfl
 have e19:((kd:Int)==19)=false:=by subst h0;rfl
 have e2:((kd:Int)==2)=false:=by subst h0;rfl
 have e3:((kd:Int)==3)=false:=by subst h0;rfl
 have e4:((kd:Int)==4)=false:=by subst h0;rfl
 have e21:((kd:Int)==21)=false:=by subst h0;rfl
 have e5:((kd:Int)==5)=true:=by subst h0;rfl
 have e9:((kd:Int)==9)=false:=by subst h0;rfl
 obtain⟨RT,hRT⟩:∃RT,rT kd=RT:=⟨_,rfl⟩;obtain⟨RO,hRO⟩:∃RO,rO kd=RO:=⟨_,rfl⟩;obtain⟨RZ,hRZ⟩:∃RZ,rZ kd=RZ:=⟨_,rfl⟩;have HRZ:=hD (show RZ.length≤10 from by subst hRZ;subst h0;decide);rw[hRT,hRO,hRZ] at HRU;rw[hRZ] at EQ;clear h0 hRO;go_enter func193,ntmps193;go_wp2_with fail
 refine HNA.o.mono ?_;rintro en w1 ⟨t7,rfl,h1,f1⟩;have N1:=hD h1;have GN:=hD (show w.heap.size≠G.g∧w.heap.size≠G.bt∧w.heap.size≠G.bs∧w.heap.size≠G.bf from by have:=HG.o.lg;have:=HG.o.lt;have:=HG.o.ls;have:=HG.o.lf;have:=HZ.o;exact⟨by omega,by omega,by omega,by omega⟩);have F1:=hD ((FrK.no FA).trans f1);have LOW:=hD (show ∀b,blk (.slice A 1 c)=some b->b≠G.g∧b≠G.bt∧b≠G.bs∧b≠G.bf from λb hb=>by have:=HO.o.2.1 b hb;have:=HG.o.hg;have:=HG.o.ht;have:=HG.o.hs;have:=HG.o.hf;exact⟨by omega,by omega,by omega,by omega⟩);have HN:=hD (iL (kind:=kd) (line:=line) (n:=n) (nm:=nm) HO.o.2.2 N1.o.st (f1.own HO.o.1 (by decide) LOW) HO.o.2.1 (by simp));have B1:=hD (f1.far BA GN.o.1 GN.o.2.1 GN.o.2.2.1 GN.o.2.2.2 (by decide));clear h1 f1 HNA BA FA  LOW;generalize hT:w.heap.size=T at *;have b0:w1.cell? (T,0)=kd:=(B1.o.cell 0).trans rfl;have b1:w1.cell? (T,1)=line:=(B1.o.cell 1).trans rfl;have b2:w1.cell? (T,2)=n:=(B1.o.cell 2).trans rfl;have b3:w1.cell? (T,3)=(bs nm):=(B1.o.cell 3).trans rfl;have b4:w1.cell? (T,4)=some (.slice A 1 c):=(B1.o.cell 4).trans rfl;go_wp2_with fail
 refine HN.o.mono ?_;rintro en w2 ⟨A2,c2,ts,rfl,h2,hf⟩;have S2:=hD h2;have F2:=hD (F1.o.trans hf);have B2:=hD (hf.far B1 GN.o.1 GN.o.2.1 GN.o.2.2.1 GN.o.2.2.2 (by decide));clear h2 hf HN b0 b1 b2 b3 b4 B1 HO F1;have hts:ts.length=1:=by have:=S2.o.own.len;simpa[ints] using this
 obtain⟨t0,rfl⟩:∃t0,ts=[t0]:=by
  match ts,hts with
  | [u],_=>exact⟨u,rfl⟩
 have d0:w2.cell? (T,0)=kd:=(B2.o.cell 0).trans rfl;have K:=hD d0;have tn2:¬T=w2.heap.size:=by have:=B2.o.lt;omega
 clear hts;go_wp2_with fail
 go_region_held3 (λwx=>wx.cell? (T,0)=kd) (first|exact K.o|exact K8.o|exact KS _ _|go_keep) (first
  | (go_at_call 209;refine (HRU _).mono ?_;rintro en w8 ⟨h,hh,rfl,f8,LF,hb⟩;have F8:Hd (Fr nob w2 w8):=(fR w2).drew.tr f8;go_loud (have K8:Hd (w8.cell? (T,0)=kd):=((B2.o.fr F8 (λx=>x)).cell 0).trans rfl);go_loud (have R8:=hD hb);go_loud (have LK:=LF w8 (fR w8));go_loud (have LK2:=LF (w8.alloc (.cells #[U0,Un] 182)) ((fR w8).alloc _));go_loud (have x8:=K8.o);go_loud (have tn8:¬T=w8.heap.size:=(by have:=B2.o.lt;have:=F8.o.size;omega));go_loud (clear LF f8 hb))
  | (go_at_call 209;refine (HRU _).mono ?_;rintro en w8 ⟨h,hh,rfl,f8,LF,hb⟩;have F8:Hd (Fr nob w2 w8):=((fR w2).drew.alloc (.cells #[U0,Un] 182)).tr f8;go_loud (have K8:Hd (w8.cell? (T,0)=kd):=((B2.o.fr F8 (λx=>x)).cell 0).trans rfl);go_loud (have R8:=hD hb);go_loud (have LK:=LF w8 (fR w8));go_loud (have x8:=K8.o);go_loud (have BZ:Hd (Blk w8 w2.heap.size 182 #[U0,Un]):=(Blk.new w2.drew 182 #[U0,Un]).fr f8 (λx=>x));go_loud (have KS:=hD (λ(a b:Value)=>((((B2.o.fr F8 (λx=>x)).far (p:=(w2.heap.size,())) tn2 a).far (p:=(w2.heap.size,U1)) tn2 b).cell 0).trans (show _=some (Value.int .i64 kd) from rfl)));go_loud (have z0:=(BZ.o.cell 0).trans (show _=some (Value.int .i64 0) from rfl));go_loud (have z1:=(BZ.o.cell 1).trans (show _=some (Value.slice none 0 0) from rfl));go_loud (have zf0:=BZ.o.frozen 0);go_loud (have zf1:=BZ.o.frozen 1);go_loud (have zl:=BZ.o.lt);go_loud (clear LF f8 hb)))
 all_goals
  first
  | (clear LK2
     have Z:=hD (show Blk (w8.alloc (.cells #[RT,(h+RO,RZ.length,RZ.length)] 182)) w8.heap.size 182 #[RT,(h+RO,RZ.length,RZ.length)]∧Fr nob w2 (w8.alloc (.cells #[RT,(h+RO,RZ.length,RZ.length)] 182))∧Blk (w8.alloc (.cells #[RT,(h+RO,RZ.length,RZ.length)] 182)) (h+RO) 3 (fM RZ).toArray from ⟨Blk.new _ _ _,F8.o.alloc _,R8.o.alloc _⟩);clear LK x8 tn8 K8 R8 F8;generalize w8.alloc (.cells #[RT,(h+RO,RZ.length,RZ.length)] 182)=w9 at *;generalize w8.heap.size=D at *)
  | (have Z:=hD (show Blk ((w8.setCell (w2.heap.size,()) RT).setCell (w2.heap.size,U1) (h+RO,RZ.length,RZ.length)) w2.heap.size 182 #[RT,(h+RO,RZ.length,RZ.length)]∧Fr nob w2 ((w8.setCell (w2.heap.size,()) RT).setCell (w2.heap.size,U1) (h+RO,RZ.length,RZ.length))∧Blk ((w8.setCell (w2.heap.size,()) RT).setCell (w2.heap.size,U1) (h+RO,RZ.length,RZ.length)) (h+RO) 3 (fM RZ).toArray from
       ⟨(BZ.o.setCell 0 _).setCell 1 _,(F8.o.setCell (w2.heap.size,()) _ (λh=>by have h:w2.heap.size<w2.heap.size:=h;omega)).setCell (w2.heap.size,U1) _ (λh=>by have h:w2.heap.size<w2.heap.size:=h;omega),(R8.o.far (p:=(w2.heap.size,())) (R8.o.ne BZ (by decide)) _).far (p:=(w2.heap.size,U1)) (R8.o.ne BZ (by decide)) _⟩)
     clear LK x8 K8 R8 F8 KS z0 z1 zf0 zf1 zl BZ;generalize (w8.setCell (w2.heap.size,()) RT).setCell (w2.heap.size,U1) (h+RO,RZ.length,RZ.length)=w9 at *;generalize w2.heap.size=D at *)
  have S9:=hD (S2.o.st.no Z.o.2.1);have F9:=hD (F2.o.trans (FrK.no Z.o.2.1));have O9:=hD (S2.o.own.fr Z.o.2.1 (λ_ _ x=>x));have VL:=hD S2.o.val;have D9:=hD Z.o.1;have R9:=hD Z.o.2.2;clear S2 F2 B2 d0 Z K tn2 HRU;obtain⟨tb,e0,htc⟩:=O9.o.some (by simp);subst e0;have g0:=htc 0 t0 rfl;have hc2:1≤c2:=by have:=O9.o.oU.1;simpa using this
  have d1:=(D9.o.cell 1).trans (show _=some (Value.slice (some (h+RO,())) RZ.length RZ.length) from rfl);obtain⟨z,hz⟩:∃z,RZ.contains (t0:Int)=z:=⟨_,rfl⟩;have HZZ:=hD hz;have HCT:=hD (aAx t0 (R9.o.fr (fR w9).drew (λx=>x)) HRZ);rw[hz] at HCT;have K9:=hD (And.intro g0 d1);have E9:=hD (show ∀w',Fr (dG G.g) w9 w'->(w'.cell? (tb,0)=t0∧w'.cell? (D,1)=some (Value.slice (some (h+RO,())) RZ.length RZ.length))∧w'.cell? (D,0)=RT from λw' f=>by
    obtain⟨s',e',p',hk,-⟩:=S9.o.open_;obtain⟨zv,vv,hb,-⟩:=hk.ex;have nD:D≠G.g:=D9.o.ne hb (by decide);have nT:tb≠G.g:=λe=>O9.o.aG hb (by decide) (by rw[<-e];exact aZ (by simp) hc2)
    exact⟨⟨(f.cell (p:=(tb,())) (show tb<_ from World.block_lt_of_cell? _ _ g0) nT).trans g0,(f.cell (p:=(D,U1)) D9.o.lt nD).trans d1⟩,(f.cell (p:=(D,())) D9.o.lt nD).trans ((D9.o.cell 0).trans (show _=some (Value.int .i64 (RT:Nat)) from rfl))⟩)
  clear htc hz;obtain⟨b7,hb7⟩:∃b,((t7:Int)==4)=b:=⟨_,rfl⟩;have H7:=hD (show decide (t7=4)=b7 from by rw[<-hb7,Bool.eq_iff_iff];simp;omega);cases b7 with
  | true=>
    go_wp2_with fail
    go_region_held3 (λwx=>wx.cell? (tb,0)=t0∧wx.cell? (D,1)=some (Value.slice (some (h+RO,())) RZ.length RZ.length)) (first|exact K9.o|exact K8) (first
      | (go_at_call 210;go_loud (refine HCT.o.mono ?_);go_loud (rintro en w7 ⟨rfl,hw⟩);go_loud (subst hw))
      | (go_at_call 95;go_loud (refine ((S9.o.no (fR w9).drew).ask _ 42 x (by decide) (by decide)).mono ?_);go_loud (rintro en w6 ⟨rfl,h6,f6⟩);go_loud (have S6:=hD h6);go_loud (have F6:Hd (Fr (dG G.g) w9 w6):=Fr.trans ((fR w9).drew) f6 (λ_ _ x=>x.elim) (λ_ _ x=>x));go_loud (have K8:=hD (E9 _ F6).1);go_loud (clear h6 f6)))
    all_goals
      have d0:=(E9 _ F6).2;have FF:=hD (F9.o.trans (FrK.ofG F6));clear E9 F6 K8 K9 F9 D9 R9 O9 S9;go_wp2
      go_ret;refine⟨RT,rfl,by rw[EQ.o t7 N1.o.val];exact KqT.args (P:=λts=>decide (t7=4) && RZ.contains ((ts.getD 0 0:Nat):Int)) (T:=λ_=>rT kd) (b:=z) (λ_=>rfl) VL (by rw[H7.o,<-HZZ.o];rfl) (λ_=>hRT.symm) S6,FF⟩
  | false=>
    go_wp2_with fail
    refine wp_region_still_tail 14 (by kernel_rfl) (by kernel_rfl) ?_;simp only[List.take_succ_cons,List.take_zero,List.drop_succ_cons,List.drop_zero];iterate 6 still_step
    with_reducible refine iR (by kernel_rfl) ?_
    simp only[Act.put,List.setIfInBounds_toArray,List.set_cons_zero,List.set_cons_succ];iterate 5 (with_reducible refine iR (by kernel_rfl) ?_;simp only[Act.put,List.setIfInBounds_toArray,List.set_cons_zero,List.set_cons_succ])
    iterate 2 still_step
    refine wpStill_nil ?_;change wpList _ _ _ _ _ w9.drew;have S8:=hD (S9.o.no (fR w9).drew);have E8:=hD (λw' (f:Fr (dG G.g) w9.drew w')=>(E9 w' (show Fr (dG G.g) w9 w' from Fr.trans ((fR w9).drew) f (λ_ _ x=>x.elim) (λ_ _ x=>x))).2);have F8:=hD (F9.o.trans (FrK.no (fR w9).drew));clear E9 K9 F9 D9 R9 O9 S9 g0 d1;generalize w9.drew=w8' at *;go_wp2_with fail
    refine (S8.o.ask false 42 x (by decide) (by decide)).mono ?_;rintro en w6 ⟨rfl,h6,f6⟩;have S6:=hD h6;have d0:=E8.o w6 f6;have FF:=hD (F8.o.trans (FrK.ofG f6));clear h6 f6 E8 S8 F8;go_wp2
    go_ret;refine⟨RT,rfl,by rw[EQ.o t7 N1.o.val];exact KqT.args (P:=λts=>decide (t7=4) && RZ.contains ((ts.getD 0 0:Nat):Int)) (T:=λ_=>rT kd) (λ_=>rfl) VL (by show false=(decide (t7=4) && _);rw[H7.o];rfl) (λ_=>hRT.symm) S6,FF⟩
end
section
variable {G:Geo}{w w':World}{s:CkS}{r:CkR CkS}{zs:List Nat}{k e p:Nat}
theorem aCv {f:Nat}{nd:aH} (hx:G.ns[x]?=some nd) (hT:aPi G (dR G.ns G.fs k f) zs k x nd):iN 170 G zs k x (dR G.ns G.fs k (f+1) x):=by
 intro w r h;have hx3:(x:Int)<(G.ns.length:Int):=by have:=(gK hx);omega
 have hx4:(G.ns.length:Int)≤300:=by have:=h.geo.few;omega
 cases r with
 | bad e p=>
  have M0:=hD h;obtain⟨he,h99,s,hck⟩:=h;obtain⟨_,_,-,-,-,-,-,-,-,-,-,c0,-⟩:=hck.cells;have heb:((e:Int) != 0)=true:=by rw[bne,bN.2 (by omega)];rfl
  clear hck he hx hT;go_enter func170,ntmps170;go_wp2
  go_ret;exact⟨0,rfl,⟨M0,λ_ _ hr=>by cases hr⟩,FrK.refl _ _⟩
 | good s=>
  have hck:Kq G w s zs k 0 0:=h;obtain⟨_,_,-,-,-,-,c6,-,c8,-,-,c0,-⟩:=hck.cells;have S1:=hD (hck.no (fR w).drew);have F1:Hd (FrK G w w.drew):=FrK.no (fR w).drew;have HX:=hD hx;have HT:=hD hT;clear h hck hx hT;go_enter func170,ntmps170;go_wp2_with fail
  go_still_tail 11,(by kernel_rfl)
  change wpList _ _ _ _ _ w.drew;clear c0 c6 c8;generalize w.drew=w1 at *;obtain⟨⟨u2,bf⟩,zf⟩:=S1.o.fn.iH (j:=x) (by omega);have S3:Hd (Kq G _ (bX k x s) zs k 0 0):=(S1.o.kH x k).1;have F3:=hD (F1.o.trans (S1.o.kH x k).2);go_upto_region 4 with fail;clear bf zf S1 F1;generalize w1.setCell (G.bf,x) k=w2 at *;go_wp2_with fail
  refine (nC S3 HX).mono ?_;rintro en w3 ⟨⟨A,c,rfl,ho,hlow⟩,hf⟩;have S4:Hd (KqM G w3 (.good (bX k x s)) zs k):=S3.o.no hf;have F4:=hD (F3.o.trans (FrK.no hf));have HC:=hD (HT w3 (.good (bX k x s)) A c S4 ho hlow);clear ho hlow hf S3 F3 S4 HT;go_wp2_with fail
  refine HC.o.mono ?_;rintro en w4 ⟨t,rfl,ht,hf⟩;have T4:=hD ht;have F5:=hD (F4.o.trans hf);obtain⟨s',e,p,hck,hm⟩:=ht.st.open_;obtain⟨_,_,-,-,c4,-⟩:=hck.cells;obtain⟨⟨u3,bt⟩,zt⟩:=hck.types.iH (j:=x) (by omega);have S5:=hD (hck.aRc x t);have HM:=hD hm;clear hck hm ht hf F4 HC;go_wp2
  go_ret;refine⟨t,rfl,?_,F5.o.trans S5.o.2⟩;have hm:=HM.o;have hv:=T4.o.val
  show KqT G _ (dR G.ns G.fs k (f+1) x s) zs k t
  rw[zQ HX.o];simp only[CkR.aC] at hm hv;cases hq:bM G.fs (dR G.ns G.fs k f) x nd (bX k x s) with
  | bad e' p'=>
   rw[hq] at hm;rcases hm with ⟨_,_,h9⟩|⟨h0,h9,h8⟩
   . cases h9
   . injection h8 with h8 h7
     subst h8;subst h7;exact⟨⟨h0,h9,_,S5.o.1⟩,λ_ _ hr=>by cases hr⟩
  | good v=>
   rw[hq] at hm hv;rcases hm with ⟨h0,h8,h9⟩|⟨_,_,h8⟩
   . injection h9 with h9
     subst h0;subst h8;subst h9;have:=hv v.1 v.2 rfl;subst this;exact⟨S5.o.1,λt' s' hr=>by injection hr with hr;injection hr⟩
   . cases h8
theorem wK:∀(f x:Nat) (nd:aH) (G:Geo),gZ G->x<f->G.ns[x]?=some nd->oQ nd.kind=true->iN 170 G zs k x (dR G.ns G.fs k f x)
 | 0,x,nd,_,_,h,_,_=>absurd h (Nat.not_lt_zero _)
 | f+1,x,nd,G,hg,h,hx,hR=>by
  have hok:=hg.ok.nodes x nd hx;have hE:∀n,lU n=true->oQ n=true:=λn h=>by unfold oQ;rw[h];rfl
  have key:∀{cls:Nat->Bool} {a:Nat},(∀n,cls n=true->oQ n=true)->Kid (G.ns.take x) cls a->iN 170 G zs k a (dR G.ns G.fs k f a):=λ{cls a} hc hk=>by
   obtain⟨hlt,c,hc1,hc2⟩:=hk.take;exact wK f a c G hg (by omega) hc1 (hc _ hc2)
  have k1:∀{b:Nat},Kid (G.ns.take x) lU b->∀a∈[b],iN 170 G zs k a (dR G.ns G.fs k f a):=λ{b} hb a ha=>by rw[List.mem_singleton.1 ha];exact key hE hb
  have k2:∀{b c:Nat},Kid (G.ns.take x) lU b->Kid (G.ns.take x) lU c->∀a∈[b,c],iN 170 G zs k a (dR G.ns G.fs k f a):=λ{b c} hb hc a ha=>by
   rcases List.mem_cons.1 ha with e|ha
   . rw[e];exact key hE hb
   . rw[List.mem_singleton.1 ha];exact key hE hc
  have hx3:x≤300:=by have:=(gK hx);have:=hg.few;omega
  refine aCv hx ?_;cases hok with
  | int line n hn=>exact kL 1 (by decide)
  | bool line n hn=>exact kL 2 (by decide)
  | text line nm=>exact kL 3 (by decide)
  | input line=>exact kL 19 (by decide)
  | var line nm=>exact yK hx
  | index line nm b hb=>exact aGc 5 rfl hx (k1 hb)
  | len line b hb=>exact mZ 6 (by decide) (k1 hb)
  | neg line b hb=>exact mZ 7 (by decide) (k1 hb)
  | not line b hb=>exact mZ 8 (by decide) (k1 hb)
  | new line b hb=>exact mZ 20 (by decide) (k1 hb)
  | bin line nm b c hs hb hc=>exact aCm (k2 hb hc)
  | call line nm l hk=>exact yL (λa ha=>key hE (hk a ha)) (hg.fewk _ (List.mem_of_getElem? hx)) hx3
  | _=>simp[oQ,lU] at hR
end
def Geo.atL (G:Geo) (m:Nat):Geo:={ G with L:=m }
theorem gZ.atL {G:Geo} (h:gZ G) (m:Nat):gZ (G.atL m):=⟨h.hM,h.hg,h.ht,h.hs,h.hf,h.lg,h.lt,h.ls,h.lf,h.ts,h.tf,h.sf,h.pos,h.few,h.fewf,h.fewp,h.fewk,h.ok⟩
def KqN (G:Geo) (w:World) (r:CkR CkS) (zs:List Nat) (k:Nat):Prop:=match r with
 | .good s=>Kq G w s zs k 0 0
 | .bad e p=>e≠0∧e≤99∧∃s,Kq G.more w s zs k e p
def aEu (G:Geo) (zs:List Nat) (k:Nat) (r:CkR CkS) (w:World) (en:Ending) (w':World):Prop:=
 en = .returned (.tuple #[])∧KqN G w' r zs k∧FrK G w w'
section
variable {G:Geo}{w w':World}{s:CkS}{r:CkR CkS}{zs:List Nat}{k e p:Nat}{ex:Nat->CkS->CkR (Nat×CkS)}
theorem KqM.toN (h:KqM G w r zs k) (hM:G.M=24):KqN G w r zs k:=by
 cases r with
 | good s=>exact h
 | bad e p=>obtain⟨h1,h2,s,h3⟩:=h;exact⟨h1,h2,s,h3.more (by omega)⟩
theorem KqN.no (h:KqN G w r zs k) (f:Fr nob w w'):KqN G w' r zs k:=by
 cases r with
 | good s=>exact Kq.no h f
 | bad e p=>obtain⟨h1,h2,s,h3⟩:=h;exact⟨h1,h2,s,h3.no f⟩
theorem Kq.less (h:Kq G.more w s zs k 0 0) (hg:gZ G) (hM:G.M=24):Kq G w s zs k 0 0:=
 ⟨hg,h.tree,h.ex,h.types,h.slots,h.fn,h.kk,by have:=h.fine rfl;omega,h.fine,h.vars,h.zs,h.zle,h.low⟩
theorem gY.toQ {R:CkR CkS} (h:gY R s e p) (hck:Kq G.more w s zs k e p) (hg:gZ G) (hM:G.M=24):KqN G w R zs k:=by
 rcases h with ⟨rfl,rfl,rfl⟩|⟨h1,h2,rfl⟩
 . exact hck.less hg hM
 . exact⟨h1,h2,s,hck⟩
theorem aSa {b:Bool}{e':Nat} (h:(if b=false∧e=0 then e' else e)=0) (he:e'≠0):b=true∧e=0:=by
 by_cases hc:b=false∧e=0
 . rw[if_pos hc] at h;exact absurd h he
 . rw[if_neg hc] at h
   cases b with
   | true=>exact⟨rfl,h⟩
   | false=>exact absurd ⟨rfl,h⟩ hc
theorem aLi {q:CkR (Nat×CkS)}{s1 s2:CkS}{e1 p1 t:Nat}{b1 b2 b3:Bool} (hm:gY (q.map (·.2)) s1 e1 p1) (hv:∀t' s',q = .good (t',s')->t=t')
   (h1:b1=decide (t≠0)) (h2:b2 = !(eT s1.vars nm).isSome) (h3:b3=decide (s1.size<24)) (hs:s2={ s1 with slots:=s1.slots.set x s1.size,vars:=s1.vars++[⟨nm,t,s1.size⟩],size:=s1.size+1 })
   {e2 p2 e3 p3 e4 p4:Nat} (he2:(if b1=false∧e1=0 then 42 else e1)=e2) (hp2:(if b1=false∧e1=0 then x else p1)=p2) (he3:(if b2=false∧e2=0 then 41 else e2)=e3) (hp3:(if b2=false∧e2=0 then x else p2)=p3) (he4:(if b3=false∧e3=0 then 4 else e3)=e4) (hp4:(if b3=false∧e3=0 then x else p3)=p4):
   gY (q.bind λr=>if r.1=0 then .bad 42 x else if (eT r.2.vars nm).isSome then .bad 41 x else if 24≤r.2.size then .bad 4 x else .good { r.2 with slots:=r.2.slots.set x r.2.size,vars:=r.2.vars++[⟨nm,r.1,r.2.size⟩],size:=r.2.size+1 }) s2 e4 p4:=by
 rcases hm with ⟨rfl,rfl,hq⟩|⟨h0,h9,hq⟩
 . obtain⟨v,rfl,rfl⟩:=CkR.map_eq hq
   have:=hv v.1 v.2 rfl;subst this;simp only[CkR.aC];by_cases ht:v.1=0
   . have:b1=false:=by rw[h1];simp[ht]
     subst this;simp only[and_self,if_true] at he2 hp2;subst he2;subst hp2;simp at he3 hp3
     subst he3;subst hp3;simp at he4 hp4
     subst he4;subst hp4;rw[if_pos ht];exact .inr ⟨by decide,by decide,rfl⟩
   . have:b1=true:=by rw[h1];simp[ht]
     subst this;simp at he2 hp2
     subst he2;subst hp2;rw[if_neg ht];cases hf:(eT v.2.vars nm).isSome with
     | true=>
      have:b2=false:=by rw[h2,hf];rfl
      subst this;simp at he3 hp3
      subst he3;subst hp3;simp at he4 hp4
      subst he4;subst hp4;exact .inr ⟨by decide,by decide,rfl⟩
     | false=>
      have:b2=true:=by rw[h2,hf];rfl
      subst this;simp at he3 hp3
      subst he3;subst hp3;by_cases hz:v.2.size<24
      . have:b3=true:=by rw[h3];simp[hz]
        subst this;simp at he4 hp4
        subst he4;subst hp4;rw[if_neg (by simp),if_neg (by omega),hs];exact .inl ⟨rfl,rfl,rfl⟩
      . have:b3=false:=by rw[h3];simp[hz]
        subst this;simp at he4 hp4
        subst he4;subst hp4;rw[if_neg (by simp),if_pos (by omega)];exact .inr ⟨by decide,by decide,rfl⟩
 . have hq':q = .bad e1 p1:=by
     cases q with
     | bad e p=>injection hq with a b;rw[a,b]
     | good v=>cases hq
   subst hq';rw[if_neg (λh=>h0 h.2)] at he2 hp2;subst he2;subst hp2;rw[if_neg (λh=>h0 h.2)] at he3 hp3;subst he3;subst hp3;rw[if_neg (λh=>h0 h.2)] at he4 hp4;subst he4;subst hp4;exact .inr ⟨h0,h9,rfl⟩
theorem aKt (hM:G.M=24){A:Option Addr}{c:Nat} (h:Kq G w s zs k 0 0) (hx:x<G.ns.length) (ho:Own w 3 1 (.slice A 1 c) 1 (ints [a])) (ha:iN 170 G zs k a (ex a)):
   Calls prog 168 #[(G.g,()),.agg #[(10:Int),line,U0,bs nm,.slice A 1 c],x] w (aEu G zs k (aAv ex x ⟨10,line,0,nm,[a]⟩ s) w):=by
 have FA:Hd (Fr nob w (w.alloc (.cells #[(10:Int),line,U0,bs nm,.slice A 1 c] 50))):=(fR w).alloc _;have BA:=hD (Blk.new w 50 #[(10:Int),line,U0,bs nm,.slice A 1 c]);have HC:=hD (ha _ (.good s) (show KqM G _ (.good s) zs k from h.no FA));have HG:=hD h.geo;have HM:=hD hM;have hx3:(x:Int)<(G.ns.length:Int):=by omega
 have hx4:(G.ns.length:Int)≤300:=by have:=h.geo.few;omega
 have GN:=hD (show w.heap.size≠G.g∧w.heap.size≠G.bt∧w.heap.size≠G.bs∧w.heap.size≠G.bf from by have:=h.geo.lg;have:=h.geo.lt;have:=h.geo.ls;have:=h.geo.lf;have:=h.zle;exact⟨by omega,by omega,by omega,by omega⟩);obtain⟨kb,e9,kc⟩:=ho.some (by simp);subst e9;have k0:=kc 0 a rfl;have klt:=World.block_lt_of_cell? _ _ k0;have kn:¬kb=w.heap.size:=by
   have:kb<w.heap.size:=klt;omega
 have hc1:1≤c:=by have:=ho.oU;simp at this;omega
 clear h ho kc ha hM
 show Calls _ _ _ _ (aEu G zs k ((ex a s).bind λr=>if r.1=0 then .bad 42 x else if (eT r.2.vars nm).isSome then .bad 41 x else if 24≤r.2.size then .bad 4 x else .good { r.2 with slots:=r.2.slots.set x r.2.size,vars:=r.2.vars++[⟨nm,r.1,r.2.size⟩],size:=r.2.size+1 }) w)
 obtain⟨q,hq⟩:∃q,ex a s=q:=⟨_,rfl⟩;have HQ:=hD hq;rw[hq];clear hq;go_enter func168,ntmps168;go_wp2_with fail
 refine HC.o.mono ?_;rintro en w2 ⟨t,rfl,ht,hf⟩;have F2:=hD ((FrK.no FA).trans hf);have B2:=hD (hf.far BA GN.o.1 GN.o.2.1 GN.o.2.2.1 GN.o.2.2.2 (by decide));obtain⟨s1,e1,p1,hck,hm⟩:=ht.st.open_;have MM:=hD (show gY (q.map (·.2)) s1 e1 p1 from by rw[<-HQ.o];exact hm);have HV:=hD (show ∀t' s',q = .good (t',s')->t=t' from by rw[<-HQ.o];exact ht.val);have S2:=hD hck;clear ht hf hck hm HC FA BA k0 klt kn HQ;generalize w.heap.size=T at *;have d3:w2.cell? (T,3)=(bs nm):=(B2.o.cell 3).trans rfl;obtain⟨nm2,hR⟩:=vJ (eT s1.vars nm);obtain⟨tb,htb⟩:∃tb,(eT s1.vars nm).isSome=tb:=⟨_,rfl⟩;rw[htb] at hR;have HR:=hD hR;have HTB:=hD htb;generalize aHj (eT s1.vars nm)=nt at *;generalize aHk (eT s1.vars nm)=nsl at *;clear hR htb;go_wp2_with fail
 refine (qK S2 nm).mono ?_;rintro en w3 ⟨rfl,hf⟩;rw[HR.o];have fa:=hf.alloc (.cells #[bs nm2,nt,nsl] 62);have S3:=hD (S2.o.no fa);have F3:=hD (F2.o.trans (FrK.no fa));have B3:=hD (B2.o.fr fa (λx=>x));clear hf fa S2 F2 B2 d3;go_upto_region 3 with fail;generalize w3.alloc (.cells #[bs nm2,nt,nsl] 62)=w3 at *;go_wp2_with fail
 refine (lI S3 _ 42 x (by decide)).mono ?_;rintro en w4 ⟨rfl,h4,f4⟩;obtain⟨e2,he2⟩:∃e2,(if ((t:Int) != 0)=false∧e1=0 then 42 else e1)=e2:=⟨_,rfl⟩;obtain⟨p2,hp2⟩:∃p2,(if ((t:Int) != 0)=false∧e1=0 then x else p1)=p2:=⟨_,rfl⟩;rw[he2,hp2] at h4;have HE2:=hD he2;have HP2:=hD hp2;have S4:=hD h4;have F4:=hD (F3.o.trans (FrK.ofG f4));have B4:=hD (B3.o.fr f4 GN.o.1);clear h4 f4 S3 F3 B3 he2 hp2;go_wp2_with fail
 refine (lI S4 (!tb) 41 x (by decide)).mono ?_;rintro en w5 ⟨rfl,h5,f5⟩;obtain⟨e3,he3⟩:∃e3,(if (!tb)=false∧e2=0 then 41 else e2)=e3:=⟨_,rfl⟩;obtain⟨p3,hp3⟩:∃p3,(if (!tb)=false∧e2=0 then x else p2)=p3:=⟨_,rfl⟩;rw[he3,hp3] at h5;have HE3:=hD he3;have HP3:=hD hp3;have S5:=hD h5;have F5:=hD (F4.o.trans (FrK.ofG f5));have B5:=hD (B4.o.fr f5 GN.o.1);clear h5 f5 S4 F4 B4 he3 hp3;obtain⟨_,_,-,-,-,-,-,-,-,-,c10,-⟩:=S5.o.cells;go_wp2_with fail
 go_still_tail 9,(by kernel_rfl)
 change wpList _ _ _ _ _ w5.drew;clear c10;have S6:=hD (S5.o.no (fR w5).drew);have F6:=hD (F5.o.trans (FrK.no (fR w5).drew));have B6:=hD (B5.o.fr (fR w5).drew (λx=>x));clear S5 F5 B5;generalize w5.drew=w6 at *;go_wp2_with fail
 refine (lI S6 (decide ((s1.size:Int)<24)) 4 x (by decide)).mono ?_;rintro en w7 ⟨rfl,h7,f7⟩;obtain⟨e4,he4⟩:∃e4,(if decide ((s1.size:Int)<24)=false∧e3=0 then 4 else e3)=e4:=⟨_,rfl⟩;obtain⟨p4,hp4⟩:∃p4,(if decide ((s1.size:Int)<24)=false∧e3=0 then x else p3)=p4:=⟨_,rfl⟩;rw[he4,hp4] at h7;have HE4:=hD he4;have HP4:=hD hp4;have S7:=hD h7;have F7:=hD (F6.o.trans (FrK.ofG f7));have B7:=hD (B6.o.fr f7 GN.o.1);clear h7 f7 S6 F6 B6 he4 hp4;obtain⟨_,_,-,-,-,c5,-,-,-,-,c10,-⟩:=S7.o.cells;go_wp2_with fail
 go_still_tail 11,(by kernel_rfl)
 change wpList _ _ _ _ _ w7.drew;clear c5 c10;have S8:=hD (S7.o.no (fR w7).drew);have F8:=hD (F7.o.trans (FrK.no (fR w7).drew));have B8:=hD (B7.o.fr (fR w7).drew (λx=>x));clear S7 F7 B7;generalize w7.drew=w8 at *;obtain⟨⟨u2,bf⟩,zf⟩:=S8.o.slots.iH (j:=x) (by omega);have S9:=hD (S8.o.aNv x (s1.size:Int));have B9:=hD (B8.o.far (p:=(G.bs,x)) (λe=>GN.o.2.2.1 e) s1.size);go_upto_region 7 with fail;clear bf zf S8 B8;generalize w8.setCell (G.bs,x) s1.size=w9 at *;have d3:w9.cell? (T,3)=(bs nm):=(B9.o.cell 3).trans rfl;go_wp2_with fail
 have hfine:e4=0->s1.size≤23:=λh0=>by
   have:=(aSa (HE4.o.trans h0) (by decide)).1;simp only[decide_eq_true_eq] at this;omega
 refine dY (aAw S9.o.1 (by have:=HM.o;omega) hfine nm t) λw10 S10 f10=>?_;have F10:=hD ((F8.o.trans S9.o.2).trans f10);clear f10 S9 F8 B9 d3;go_wp2
 refine gF rfl rfl ⟨rfl,?_,F10⟩;refine (aLi MM HV (b1:=((t:Int) != 0)) (b2:= !tb) (b3:=decide ((s1.size:Int)<24)) ?_ ?_ ?_ rfl HE2 HP2 HE3 HP3 HE4 HP4).toQ S10 HG HM.o
 . rw[Bool.eq_iff_iff];simp
 . rw[HTB.o]
 . rw[Bool.eq_iff_iff];simp;omega
end
section
variable {G:Geo}{w w':World}{s:CkS}{r:CkR CkS}{zs:List Nat}{k e p:Nat}{ex:Nat->CkS->CkR (Nat×CkS)}
def aPl (ex:Nat->CkS->CkR (Nat×CkS)) (x ret:Nat) (l ts:List Nat) (r1:CkR CkS) (j:Nat):CkR CkS:=
 if j=0 then (r1.bind (bH ex l)).map (·.2) else ((r1.bind (bH ex l)).map (·.2)).bind λs=>if ((ts.headD 0:Nat):Int)==(ret:Int) then .good s else .bad 42 x
theorem aOa {ret:Nat}{l ts:List Nat}{b:Bool}{r1:CkR CkS} (hl:l.length≤1) (hr:(fs[k]?.map (·.ret)).getD 0=ret) (hb:b=decide (l.length=1↔ret≠0)) (h1:r1=if b=true then .good s else .bad 43 x) (hv:∀t' s',r1.bind (bH ex l) = .good (t',s')->ts=t'):
   vR fs k ex x ⟨17,line,0,[],l⟩ s=aPl ex x ret l ts r1 l.length:=by
 subst h1;unfold vR aPl;rw[hr];dsimp only;by_cases hc:l.length=1↔ret≠0
 . have:b=true:=by rw[hb];exact decide_eq_true hc
   subst this;rw[if_pos hc]
   match l,hl with
   | [],_=>simp[bH]
   | [a],_=>
    simp only[if_true,List.length_cons,List.length_nil,Nat.zero_add,Nat.one_ne_zero,if_false,CkR.aC] at hv ⊢
    show ((ex a s).bind λr=>if r.1=ret then CkR.good r.2 else .bad 42 x)=_
    have e1:bH ex [a] s=(ex a s).map λu=>([u.1],u.2):=args1 a s
    rw[e1] at hv ⊢;cases hq:ex a s with
    | bad e p=>rfl
    | good u=>
     rw[hq] at hv;have:=hv [u.1] u.2 rfl;subst this;simp only[CkR.cB,CkR.aC]
     show _=if (((u.1:Nat):Int)==(ret:Int))=true then CkR.good u.2 else .bad 42 x
     by_cases hu:u.1=ret
     . rw[if_pos hu,if_pos (by rw[hu];simp)]
     . rw[if_neg hu,if_neg (by simp;omega)]
 . have:b=false:=by rw[hb];exact decide_eq_false hc
   subst this;rw[if_neg hc];simp only[Bool.false_eq_true,if_false,CkR.vO,CkR.aOl];split<;>rfl
theorem aAm (hM:G.M=24){l:List Nat} (h1:l.length≤1){A:Option Addr}{c:Nat} (h:Kq G w s zs k 0 0) (hx:x≤300) (ho:Own w 3 1 (.slice A l.length c) l.length (ints l)) (hlow:∀b,blk (.slice A l.length c)=some b->b<G.B) (hl:∀a∈l,iN 170 G zs k a (ex a)):
  Calls prog 172 #[(G.g,()),.agg #[(17:Int),line,U0,bs [],.slice A l.length c],x] w (aEu G zs k (vR G.fs k ex x ⟨17,line,0,[],l⟩ s) w):=by
 have FA:Hd (Fr nob w (w.alloc (.cells #[(17:Int),line,U0,bs [],.slice A l.length c] 50))):=(fR w).alloc _;have BA:=hD (Blk.new w 50 #[(17:Int),line,U0,bs [],.slice A l.length c]);have S1:Hd (Kq G _ s zs k 0 0):=h.no FA;have O1:=hD (ho.fr FA (λ_ _ x=>x));have HG:=hD h.geo;have HM:=hD hM;have HLO:=hD hlow;have HL:=hD hl;have GN:=hD (show w.heap.size≠G.g∧w.heap.size≠G.bt∧w.heap.size≠G.bs∧w.heap.size≠G.bf from by have:=h.geo.lg;have:=h.geo.lt;have:=h.geo.ls;have:=h.geo.lf;have:=h.zle;exact⟨by omega,by omega,by omega,by omega⟩);obtain⟨fk,hfk⟩:∃f,G.fs[k]?=some f:=⟨_,gE h.kk⟩;have hk3:(k:Int)<(G.fs.length:Int):=by have:=h.kk;omega
 have hk4:(G.fs.length:Int)≤6:=by have:=h.geo.fewf;omega
 obtain⟨n,hn⟩:∃n,l.length=n:=⟨_,rfl⟩;have hn3:(n:Int)≤1:=by omega
 have hn4:n≤1:=by omega
 rw[hn] at O1 BA FA S1 HLO ⊢;have HN:=hD hn;have HR:=hD (show (G.fs[k]?.map (·.ret)).getD 0=fk.ret from by rw[hfk];rfl);obtain⟨fb,fc,c3,hof,hfb,hpar,hsame,glt⟩:=(show KqM G _ (.good s) zs k from S1).fns;obtain⟨pv,hpv⟩:∃pv,G.pvs[k]?=some pv:=⟨_,gE (by have:=h.kk;omega)⟩;obtain⟨fb',e9,hcell⟩:=hof.some (by have:=h.kk;omega);injection e9 with e9;injection e9 with e9;subst e9;have y3:=hcell _ _ (dN hfk hpv 3 _ rfl);obtain⟨_,_,-,-,-,-,-,-,c8,-⟩:=S1.o.cells;have d4:=(BA.o.cell 4).trans rfl;clear h ho hlow hl hM hx hof hcell hfk hpv hn hpar hsame;generalize fk.ret=ret at *;go_enter func172,ntmps172;go_upto_region 1 with fail;generalize w.alloc (.cells #[(17:Int),line,U0,bs [],.slice A n c] 50)=w1 at *;generalize hT:w.heap.size=T at *;go_wp2_with fail
 go_quiet (fail)
 have f2:Fr nob w1 (w1.drewN nq).drew:=((fR w1).drewN nq).drew;have d4':(w1.drewN nq).cell? (T,4)=some (.slice A n c):=((BA.o.fr ((fR w1).drewN nq) (λx=>x)).cell 4).trans rfl;have S2:Hd (KqM G _ (.good s) zs k):=S1.o.no f2;have B2:=hD (BA.o.fr f2 (λx=>x));have O2:=hD (O1.o.fr f2 (λ_ _ x=>x));have F2:Hd (FrK G w _):=FrK.no (FA.o.tr f2);clear f2 S1 BA O1 FA c3 c8 y3 d4 glt;generalize w1.drewN nq=w2 at *;go_wp2_with fail
 go_still_tail 11,(by kernel_rfl)
 change wpList _ _ _ _ _ w2.drew;clear d4';generalize w2.drew=w3 at *;go_wp2_with fail
 refine (S2.o.ask _ 43 x (by decide) (by decide)).mono ?_;rintro en w4 ⟨rfl,h4,f4⟩;obtain⟨b,hb⟩:∃b,(decide (0<n)==((ret:Int) != 0))=b:=⟨_,rfl⟩;rw[hb] at h4;have HB:=hD (show b=decide (l.length=1↔ret≠0) from by
  rw[<-hb,HN.o,Bool.eq_iff_iff];by_cases h9:ret=0
  . subst h9;simp;omega
  . have:((ret:Int) != 0)=true:=by simp;omega
    rw[this];simp[h9];omega)
 obtain⟨r1,hr1⟩:∃r1,(if b=true then CkR.good s else .bad 43 x)=r1:=⟨_,rfl⟩;have HR1:=hD hr1;have S4:=hD (show KqM G w4 r1 zs k from by rw[<-hr1];exact h4);have F4:=hD (F2.o.trans (FrK.ofG f4));have B4:=hD (B2.o.fr f4 GN.o.1);have O4:=hD (O2.o.fr f4 (λb hb e=>by have:=HLO.o b hb;have:=HG.o.hg;have e:b=G.g:=e;omega));have HBE:=iL (kind:=17) (line:=line) (n:=0) (nm:=[]) (A:=A) (c:=c) (l:=l) HL S4 (by rw[HN.o];exact O4) (by rw[HN.o];exact HLO) (by rw[HN.o];omega);rw[HN.o] at HBE;have HBE:=hD HBE;have HV:=hD (show G.Z≤w4.heap.size from by obtain⟨s',e',p',h,-⟩:=S4.o.open_;exact h.zle);have d0:=(B4.o.cell 0).trans (show _=some (Value.int .i64 17) from rfl);have d1:=(B4.o.cell 1).trans (show _=some (Value.int .i64 line) from rfl);have d2:=(B4.o.cell 2).trans (show _=some (Value.int .i64 0) from rfl);have d3:=(B4.o.cell 3).trans (show _=some (Value.string (bs [])) from rfl);have d4:=(B4.o.cell 4).trans (show _=some (Value.slice A n c) from rfl);clear h4 f4 hb hr1 S2 F2 B2 O2 S4;go_wp2_with fail
 refine HBE.o.mono ?_;rintro en w5 ⟨A5,c5,ts,rfl,h5,f5⟩;have Q5:Hd (KqM G w5 (aPl ex x ret l ts r1 0) zs k):=h5.st;have O5:=hD h5.own;have VL:=hD h5.val;have NW:=hD (show ∀b,blk (.slice A5 n c5)=some b->b≠G.g from λb hb=>by have:=h5.new b hb;have:=HV.o;have:=HG.o.lg;omega);have F5:=hD (F4.o.trans f5);have LT:=hD (show ts.length=n from by have:=h5.own.len;simpa[ints] using this);clear h5 f5 HBE d0 d1 d2 d3 d4 F4 B4 O4;go_wp2
 go_loopw [38] (λi wr=>∃j:Nat,j≤n∧i = .int .i64 j∧Hd (KqM G wr (aPl ex x ret l ts r1 j) zs k)∧Hd (Own wr 3 1 (.slice A5 n c5) n (ints ts))∧Hd (FrK G w wr)) (λi _=>n - (intOf i).toNat)
 case atStart=>exact⟨0,Nat.zero_le _,rfl,Q5,O5,F5⟩
 case round=>
  clear Q5 O5 F5;obtain⟨j,hj,rfl,S,O,F⟩:=hrel;by_cases hlt:j<n
  . have hlt2:(j:Int)<(n:Int):=by omega
    have HJ0:=hD (show j=0 from by omega);obtain⟨t0,ht⟩:∃t0,ts[j]?=some t0:=⟨_,gE (by have:=LT.o;omega)⟩;obtain⟨tb,e9,htc⟩:=O.o.some (by omega);subst e9;have g0:=htc j t0 (by simp[ints,ht]);have HH:=hD (show ts.headD 0=t0 from by
     rw[HJ0.o] at ht;cases ts with
     | nil=>simp at ht
     | cons a l=>simp at ht;simp[ht])
    have HJ:=hD hlt;clear htc ht hlt;go_wp2_with fail
    refine dY (S.o.ask ((t0:Int)==(ret:Int)) 42 x (by decide) (by decide)) λw6 h6 f6=>?_;have S6:=hD (show KqM G w6 (aPl ex x ret l ts r1 (j+1)) zs k from by
     unfold aPl at h6 ⊢;rw[if_pos HJ0.o] at h6;rw[if_neg (by omega),HH.o];exact h6);have O6:=hD (O.o.fr f6 (λb hb e=>NW.o b hb e));have F6:=hD (F.o.trans (FrK.ofG f6));clear h6 f6 S O F g0;go_wp2
    go_roundw
    case rel=>exact⟨j+1,by have:=HJ.o;omega,by go_num,S6,O6,F6⟩
    case measure=>simp[intOf];have:=HJ.o;omega
  . have hjn:j=n:=by omega
    subst hjn;have hlt2:¬(j:Int)<(j:Int):=by omega
    clear hlt hj;go_wp2
    refine gF rfl rfl ⟨rfl,?_,F⟩;rw[aOa (b:=b) (by rw[HN.o];exact hn4) HR.o HB.o HR1.o.symm VL.o,HN.o];exact S.o.toN HM.o
end
end Go.Proofs.YtlbjicjinnnboaaGreatDoor
