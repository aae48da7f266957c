/- MvF: laws and walks for CheckVisible. -/
import Derived.Test.YtlbjicjinnnboaaGreatDoorMvE
import Derived.Test.YtlbjicjinnnboaaGreatDoorMvB
set_option maxHeartbeats 8000000
set_option maxRecDepth 100000
set_option linter.unusedVariables false
set_option linter.unusedSimpArgs false
namespace Go.Proofs.YtlbjicjinnnboaaGreatDoor
open Go.RowKit Go.Proofs.Tryz
variable {n k:Nat}{s s':PS}{fs:aG×PS}{l:List UInt8}
theorem aBj:wY prog 46 101 2 24 (.agg #[.string ⟨#[]⟩,U0]):=wY.mk' (by kernel_rfl) (by kernel_rfl) rfl (by decide)
def aN (l:List (List UInt8×Nat)):List Value:=l.flatMap λp=>[bs p.1,p.2]
def aPx (t:TypeId):Bool:=t != 88 && t != 50 && t != 3 && t != 115
section
variable {src:ByteArray}{tb tc:Nat}{ts:List Tok}{g:Nat}{R:Nat->Prop}{w0 w w1 w':World}{s:PS}
theorem aSg {w:World}{t t':TypeId}{cs cs':Array Value} (h:Blk w k t cs) (h':Blk w k t' cs') (hne:t≠t'):False:=h.ne h' hne rfl
theorem St.other (h:St src tb tc ts g R w0 w s){M:Nat->Prop} (f:Fr M w w') (hM:∀k,M k->w0.heap.size<=k∧∃t cs,Blk w k t cs∧aPx t=true):St src tb tc ts g R w0 w' s:=by
 obtain⟨lvs,hr,hnr⟩:=h.rdr;obtain⟨nv,hb,hon⟩:=hr.cells;obtain⟨b0,ht⟩:=hr.toks;have far:∀(k:Nat) (t:TypeId) (cs:Array Value),Blk w k t cs->aPx t=false->¬M k:=λk t cs hk hf hm=>by
  obtain⟨_,t',cs',hb',hf'⟩:=hM _ hm;by_cases e:t=t'
  . rw[e,hf'] at hf;cases hf
  . exact aSg hk hb' e
 have farO:∀{e size n:Nat} {v:Value} {xs:List Value},Own w e size v n xs->aPx e=false->∀k,blk v=some k->¬M k:=λho hf k hk=>by
  obtain⟨cs,hc⟩:=ho.ty hk;exact far _ _ _ hc hf
 have hbel:∀{ns:List aF} {vs:List Value},bD w ns vs->bD w' ns vs:=by
  intro ns;induction ns with
  | nil=>intro vs hb;cases vs with
    | nil=>trivial
    | cons _ _=>exact hb.elim
  | cons n ns ih=>intro vs hb;cases vs with
    | nil=>exact hb.elim
    | cons u vs=>exact⟨hb.1.fr f (farO hb.1 (by decide)),ih hb.2⟩
 refine⟨⟨lvs,⟨⟨nv,hb.fr f (far _ _ _ hb (by decide)),hon.fr f (farO hon (by decide))⟩,hbel hr.below,hr.same,⟨b0,ht.own.fr f (farO ht.own (by decide)),ht.new⟩,λnv2 h1=>hr.newer nv2 (by rw[<-f.cell (p:=(g,U3)) hb.lt (far _ _ _ hb (by decide))];exact h1)⟩,hnr⟩,λk hk=>Nat.lt_of_lt_of_le (h.res k hk) f.size,h.ok,h.toks,h.long,?_⟩;refine Fr.trans h.fr f (λ_ _ x=>x) (λk hk hm=>?_);have:=(hM k hm).1;omega
end
theorem Fr.five (w:World) (T:Nat) (a b c d e:Value):Fr (bY T) w (((((w.setCell (T,()) a).setCell (T,U1) b).setCell (T,U2) c).setCell (T,U3) d).setCell (T,U4) e):=by
 have h1:Fr (bY T) w (w.setCell (T,()) a):=(Fr.refl _ _).setCell _ _ (λ_=>rfl);have h2:=h1.setCell (T,U1) b (λ_=>rfl);have h3:=h2.setCell (T,U2) c (λ_=>rfl);have h4:=h3.setCell (T,U3) d (λ_=>rfl);exact h4.setCell (T,U4) e (λ_=>rfl)
structure FSt (src:ByteArray) (tb tc:Nat) (ts:List Tok) (g:Nat) (R:Nat->Prop) (w0:World) (T F:Nat) (w:World) (s:PS) (name:ByteArray) (line:Nat) (pv:Value) (acc:List (List UInt8×Nat)) (ret body:Nat):Prop where
 st:St src tb tc ts g R w0 w s
 bt:Blk w T 48 #[.string ⟨#[]⟩,U0,Un,U0,U0]
 bf:Blk w F 48 #[name,line,pv,ret,body]
 ht:w0.heap.size<=T
 hf:w0.heap.size<=F
 ne:T≠F
 own:Own w 101 2 pv acc.length (aN acc)
 new:∀k,blk pv=some k->w0.heap.size<=k
section
variable {src:ByteArray}{tb tc:Nat}{ts:List Tok}{g:Nat}{R:Nat->Prop}{w0 w w1 w':World}{s:PS}{T F:Nat}{name:ByteArray}{line:Nat}{pv:Value}{acc:List (List UInt8×Nat)}{ret body:Nat}
theorem St.aPs (h:St src tb tc ts g R w0 w s):∃cs,Blk w g 88 cs:=by
 obtain⟨lvs,hr,_⟩:=h.rdr;obtain⟨nv,hb⟩:=hr.blk;exact⟨_,hb⟩
theorem FSt.to (h:FSt src tb tc ts g R w0 T F w s name line pv acc ret body) (h':St src tb tc ts g R w w' s'):FSt src tb tc ts g R w0 T F w' s' name line pv acc ret body:=by
 obtain⟨cs,hb⟩:=h.st.aPs;exact⟨h.st.back h',h'.fr.blk h.bt (h.bt.ne hb (by decide)) (by decide),h'.fr.blk h.bf (h.bf.ne hb (by decide)) (by decide),h.ht,h.hf,h.ne,h.own.frR hb (by decide) (by decide) h'.fr,h.new⟩
theorem FSt.step (h:FSt src tb tc ts g R w0 T F w s name line pv acc ret body){f:FuncId}{args:Array Value}{E:Ending->Prop} (c:Calls prog f args w λe w'=>E e∧St src tb tc ts g R w w' s'):
  Calls prog f args w λe w'=>E e∧FSt src tb tc ts g R w0 T F w' s' name line pv acc ret body:=
 c.mono λe w' ⟨he,h'⟩=>⟨he,h.to h'⟩
theorem FSt.here (h:FSt src tb tc ts g R w0 T F w s name line pv acc ret body):St src tb tc ts g R w w s:=h.st.here
theorem FSt.stF (h:FSt src tb tc ts g R w0 T F w s name line pv acc ret body) (j:Nat) (u:Value):St src tb tc ts g R w0 (w.setCell (F,j) u) s:=
 h.st.other (M:=bY F) ((Fr.refl _ w).setCell _ _ (λ_=>rfl)) (λk hk=>by rw[show k=F from hk];exact⟨h.hf,_,_,h.bf,by decide⟩)
theorem FSt.aSl (h:FSt src tb tc ts g R w0 T F w s name line pv acc ret body) (j:Nat) (u:Value):Own (w.setCell (F,j) u) 101 2 pv acc.length (aN acc):=
 h.own.far (p:=(F,j)) (h.own.aD h.bf (by decide)) u
theorem FSt.setName (h:FSt src tb tc ts g R w0 T F w s name line pv acc ret body) (x:ByteArray):FSt src tb tc ts g R w0 T F (w.setCell (F,()) x) s x line pv acc ret body:=
 ⟨h.stF _ _,h.bt.far (p:=(F,())) h.ne _,h.bf.setCell 0 _,h.ht,h.hf,h.ne,h.aSl _ _,h.new⟩
theorem FSt.aGz (h:FSt src tb tc ts g R w0 T F w s name line pv acc ret body) (x:Nat):FSt src tb tc ts g R w0 T F (w.setCell (F,U3) x) s name line pv acc x body:=
 ⟨h.stF _ _,h.bt.far (p:=(F,U3)) h.ne _,h.bf.setCell 3 _,h.ht,h.hf,h.ne,h.aSl _ _,h.new⟩
theorem FSt.setBody (h:FSt src tb tc ts g R w0 T F w s name line pv acc ret body) (x:Nat):FSt src tb tc ts g R w0 T F (w.setCell (F,U4) x) s name line pv acc ret x:=
 ⟨h.stF _ _,h.bt.far (p:=(F,U4)) h.ne _,h.bf.setCell 4 _,h.ht,h.hf,h.ne,h.aSl _ _,h.new⟩
theorem FSt.app (h:FSt src tb tc ts g R w0 T F w s name line pv acc ret body){o:Obj}{v':Value}{x:List UInt8}{t:Nat}
   (ho:Own w' 101 2 v' (acc.length+1) (aN acc++[.string (bs x),.int .i64 (t:Nat)])) (hfr:Fr (obl (blk pv)) (w.alloc o) w') (hv:blk v'=blk pv∨blk v'=some (w.alloc o).heap.size):
   FSt src tb tc ts g R w0 T F (w'.setCell (F,U2) v') s name line v' (acc++[(x,t)]) ret body:=by
 have h1:=h.st.alloc o;have hown:=h.own.alloc o;have hbf:=h.bf.alloc o;have hbt:=h.bt.alloc o;have h2:St src tb tc ts g R w0 w' s:=h1.other (M:=obl (blk pv)) hfr (λk hk=>by
   obtain⟨cs,hc⟩:=hown.ty (k:=k) hk;exact⟨h.new k hk,_,_,hc,by decide⟩)
 have hbf2:=hbf.fr hfr (λhm=>hown.aD hbf (by decide) hm);have hbt2:=hbt.fr hfr (λhm=>hown.aD hbt (by decide) hm);have h3:Own w' 101 2 v' (acc++[(x,t)]).length (aN (acc++[(x,t)])):=by
   rw[aA3];unfold aN at ho ⊢;rw[List.flatMap_append];exact ho
 refine⟨h2.other (M:=bY F) ((Fr.refl _ w').setCell _ _ (λ_=>rfl)) (λk hk=>by rw[show k=F from hk];exact⟨h.hf,_,_,hbf2,by decide⟩),hbt2.far (p:=(F,U2)) h.ne _,hbf2.setCell 2 _,h.ht,h.hf,h.ne,h3.far (p:=(F,U2)) (h3.aD hbf2 (by decide)) _,λk hk=>?_⟩;rcases hv with e|e
 . rw[e] at hk;exact h.new k hk
 . rw[e] at hk;injection hk with hk
   have:=h1.fr.size;omega
theorem FSt.cells (h:FSt src tb tc ts g R w0 T F w s name line pv acc ret body) (j:Nat):w.cell? (F,j)=(#[name,line,pv,ret,body]:Array Value)[j]?∧w.frozen? (F,j)=false∧F<w.heap.size:=
 ⟨h.bf.cell j,h.bf.frozen j,h.bf.lt⟩
theorem FSt.start (h:St src tb tc ts g R w0 w s) (hT:Blk w T 48 #[.string ⟨#[]⟩,U0,Un,U0,U0]) (hw:w0.heap.size<=T):
  FSt src tb tc ts g R w0 T w.heap.size (w.alloc (.cells #[.string ⟨#[]⟩,line,Un,U0,U0] 48)) s ⟨#[]⟩ line Un [] 0 0:=
 ⟨h.alloc _,hT.alloc _,Blk.new w _ _,hw,h.fr.size,Nat.ne_of_lt hT.lt,Own.nil _ _ _,λk hk=>by simp[blk] at hk⟩
def aSu (w0:World) (f:aG) (e:Ending) (w':World):Prop:=∃pv,e = .returned (.agg #[bs f.name,f.line,pv,f.ret,f.body])∧Own w' 101 2 pv f.params.length (aN f.params)∧∀k,blk pv=some k->w0.heap.size<=k
def qW (ts:List Tok) (k:Nat) (acc:List (List UInt8×Nat)) (s:PS) (p:List (List UInt8×Nat)×PS):Bool->Prop
 | true=>aT ts k acc s=some p
 | false=>p=(acc,s)
end
section
variable {src:ByteArray}{tb tc:Nat}{ts:List Tok}{g:Nat}{n:Nat}
theorem mF:∀(n:Nat) (acc:List (List UInt8×Nat)) (s:PS) (p:List (List UInt8×Nat)×PS),aT ts n acc s=some p->Ext s p.2
 | 0,_,_,_,h=>by simp[aT] at h
 | n+1,acc,s,p,h=>by
  simp only[aT] at h;split at h
  . exact (((Ext.refl s).named (ts:=ts)).typed (ts:=ts)).go.trans (mF n _ _ _ h)
  . simp only[aA0] at h
    subst h;exact ((Ext.refl s).named (ts:=ts)).typed (ts:=ts)
theorem aNc (GD:Good src tb tc ts g n){R:Nat->Prop}{w0 w:World} (h:St src tb tc ts g R w0 w s) (hr:eY src.data.toList ts n s=some fs) (hn:fs.2.nodes.length<=1000000):
   Calls prog 57 #[(g,())] w λe w'=>aSu w0 fs.1 e w'∧St src tb tc ts g R w0 w' fs.2:=by
 have S0:=hD h;have IH:=hD GD;simp only[eY,bS,mS] at hr;obtain⟨p,hp,b,hb,rfl⟩:=hr;obtain⟨NM,hNM⟩:∃NM,bs (dZ ts (aA ts [102,110] s))=NM:=⟨_,rfl⟩;obtain⟨s3,hs3⟩:∃s3,aA ts [40] (aI ts (aA ts [102,110] s))=s3:=⟨_,rfl⟩;obtain⟨line,hline⟩:∃line,bJ src.data.toList ts s=line:=⟨_,rfl⟩;rw[hs3] at hp;rw[hline];obtain⟨RT,hRT⟩:∃RT,(if pIs ts [123] (aA ts [41] p.2)=true then 0 else fT ts (aA ts [41] p.2))=RT:=⟨_,rfl⟩;rw[hRT,show b.1.headD 0=oneOf b.1 from rfl];have HRT:=hD hRT;have HLN:=hD hline;have HNM:=hD hNM;have HS3:=hD hs3;have HN:Hd (b.2.nodes.length<=1000000):=hn;have HBK:=hD hb;clear h GD hn hs3 hNM hline hb hRT;by_cases he1:pIs ts [41] s3=true
 case' pos=>
  rw[if_neg (by rw[he1];simp)] at hp
  simp only[aA0] at hp;have HA:Hd (qW ts n [] s3 p false):=hp.symm;have HE:=hD he1;have he:=trivial;clear he1 hp
 case' neg=>
  have he2:pIs ts [41] s3=false:=by simpa using he1
  have HE:=hD he2;by_cases h0:s3.e=0
  case' pos=>
   rw[if_pos ⟨he2,h0⟩] at hp
   have HA:Hd (qW ts n [] s3 p true):=hp;have he:((s3.e:Int)==0)=true:=by rw[h0];rfl
  case' neg=>
   rw[if_neg (by rintro⟨_,h⟩;exact h0 h)] at hp
   simp only[aA0] at hp;have HA:Hd (qW ts n [] s3 p false):=hp.symm;have he:((s3.e:Int)==0)=false:=bN.2 (by omega)
  all_goals
   clear he1 he2 h0 hp
 all_goals
  go_enter func57,ntmps57;go_wp2_with fail
  refine ((S0.o.alloc _).here.line HLN).mono ?_;rintro e w1 ⟨rfl,h1⟩;have S1:=hD ((S0.o.alloc _).back h1);have hT:=hD (show Blk w1 w.heap.size 48 #[.string ⟨#[]⟩,U0,Un,U0,U0] by
    obtain⟨cs,hb⟩:=(S0.o.alloc (.cells #[.string ⟨#[]⟩,U0,Un,U0,U0] 48)).aPs;exact h1.fr.blk (Blk.new w _ _) ((Blk.new w 48 #[.string ⟨#[]⟩,U0,Un,U0,U0]).ne hb (by decide)) (by decide))
  have hw0:=hD S0.o.fr.size;clear h1;generalize w.heap.size=T at *;go_wp2_with fail
  have S2:=hD (FSt.start (line:=line) S1 hT.o hw0.o);clear S1 hT hw0 S0;generalize hW2:w1.alloc (.cells #[.string ⟨#[]⟩,line,Un,U0,U0] 48)=w2 at *;clear hW2;generalize w1.heap.size=F at *;refine stepM (S2.o.step (S2.o.here.must ⟨#[102,110]⟩)) λw3 S3=>?_;go_wp2_with fail
  refine stepM (S3.o.step (S3.o.here.name HNM)) λw4 S4=>?_;obtain⟨a0,f0,hF⟩:=S4.o.cells 0;simp at a0
  go_wp2_with fail
  have S5:=hD (S4.o.setName NM);clear a0 f0 hF;generalize w4.setCell (F,()) NM=w5 at *;refine stepM (S5.o.step (S5.o.here.must ⟨#[40]⟩)) λw6 h6=>?_;have S6:=hD (show FSt src tb tc ts g R w0 T F w6 s3 NM line _ _ _ _ by rw[<-HS3.o];exact h6);clear h6;go_wp2_with fail
  refine stepM (S6.o.step (S6.o.here.is ⟨#[41]⟩ HE)) λw7 S7=>?_;clear S2 S3 S4 S5 S6;obtain⟨hg7,c17,c27,c47,c57,f27,f47⟩:=S7.o.st.cells;go_wp2
  clear hg7 c17 c27 c47 c57 f27 f47 he;go_loopg [5] n (λk more wr=>∃(acc:List (List UInt8×Nat)) (s':PS) (b:Bool) (pv:Value),more = .bool b∧Hd (k<=n)∧Hd (FSt src tb tc ts g R w0 T F wr s' NM line pv acc 0 0)∧Hd (qW ts k acc s' p b)∧Hd (b=true->acc.length<=s'.i))
  case atStart=>exact⟨[],s3,_,_,rfl,hD (aA1 n),S7,HA,hD (λ_=>aA4 _)⟩
  case round=>
    obtain⟨acc,s',b1,pv,rfl,HK,S3,HR,HB⟩:=hrel;clear S7 HA HE;obtain⟨PA,PC,rfl,hc1,hc2⟩:=S3.o.own.cap;clear hc1 hc2;cases b1 with
    | false=>
     have hr:p=(acc,s'):=HR.o;subst hr;clear HR HB;have hbk:=HBK.o;have hrt:=HRT.o;dsimp only at hbk hrt;clear HBK HRT;by_cases hop:pIs ts [123] (aA ts [41] s')=true
     case' pos=>
      rw[if_pos hop] at hbk hrt
      have HBK:=hD hbk;have HOP:=hD hop;have HRT:=hD hrt;clear hbk hop hrt;go_wp2_with fail
      refine stepM (S3.o.step (S3.o.here.must ⟨#[41]⟩)) λw4 S4=>?_;go_wp2_with fail
      refine stepM (S4.o.step (S4.o.here.is ⟨#[123]⟩ HOP)) λw5 S5=>?_;go_wp2_with fail
      have S7:=S5
     case' neg=>
      rw[if_neg hop] at hbk hrt
      have HBK:=hD hbk;have HRT:=hD hrt;have HOP:=hD (show pIs ts [123] (aA ts [41] s')=false by simpa using hop);clear hbk hop hrt;go_wp2_with fail
      refine stepM (S3.o.step (S3.o.here.must ⟨#[41]⟩)) λw4 S4=>?_;go_wp2_with fail
      refine stepM (S4.o.step (S4.o.here.is ⟨#[123]⟩ HOP)) λw5 S5=>?_;go_wp2_with fail
      refine stepM (S5.o.step (S5.o.here.typed rfl)) λw6 S6=>?_;obtain⟨a3,f3,hF⟩:=S6.o.cells 3;simp at a3
      go_wp2_with fail
      have S7:=hD (S6.o.aGz (fT ts (aA ts [41] s')));clear a3 f3 hF;generalize w6.setCell (F,U3) (fT ts (aA ts [41] s'))=w7 at *
     all_goals
      rw[HRT.o] at S7;refine stepM (S7.o.step (IH.o.block _ _ _ _ _ S7.o.here HBK HN)) λw8 S8=>?_;obtain⟨a4,f4,hF⟩:=S8.o.cells 4;simp at a4
      go_upto_region 19 with (fail);have S9:=hD (S8.o.setBody (oneOf b.1));clear a4 f4 hF;generalize w8.setCell (F,U4) (oneOf b.1)=w9 at *;obtain⟨b0,_,hF⟩:=S9.o.cells 0;obtain⟨b1,_,_⟩:=S9.o.cells 1;obtain⟨b2,_,_⟩:=S9.o.cells 2;obtain⟨b3,_,_⟩:=S9.o.cells 3;obtain⟨b4,_,_⟩:=S9.o.cells 4;have t0:=S9.o.bt.frozen 0;have t1:=S9.o.bt.frozen 1;have t2:=S9.o.bt.frozen 2;have t3:=S9.o.bt.frozen 3;have t4:=S9.o.bt.frozen 4;have u0:=S9.o.bt.cell 0;have u1:=S9.o.bt.cell 1;have u2:=S9.o.bt.cell 2;have u3:=S9.o.bt.cell 3;have u4:=S9.o.bt.cell 4;have hTl:=S9.o.bt.lt;simp at b0 b1 b2 b3 b4 u0 u1 u2 u3 u4
      go_wp2_with fail
      clear b0 b1 b2 b3 b4 t0 t1 t2 t3 t4 u0 u1 u2 u3 u4 hTl hF;have HB9:=(((((S9.o.bt.setCell 0 NM).setCell 1 line).setCell 2 (.slice PA acc.length PC)).setCell 3 RT).setCell 4 (oneOf b.1));have hF9:=Fr.five w9 T NM line (.slice PA acc.length PC) RT (oneOf b.1);have S10:=hD (S9.o.st.other hF9 (λk hk=>by rw[show k=T from hk];exact⟨S9.o.ht,_,_,S9.o.bt,by decide⟩));have O10:=hD (S9.o.own.fr hF9 (λk hk hm=>S9.o.own.aD S9.o.bt (by decide) (by rw[hk,show k=T from hm])));clear hF9;generalize ((((w9.setCell (T,()) NM).setCell (T,U1) line).setCell (T,U2) (.slice PA acc.length PC)).setCell (T,U3) RT).setCell (T,U4) (oneOf b.1)=w10 at *;have z0:=HB9.cell 0;have z1:=HB9.cell 1;have z2:=HB9.cell 2;have z3:=HB9.cell 3;have z4:=HB9.cell 4;simp at z0 z1 z2 z3 z4
      clear HB9;refine bodyPost_ret (v:= .agg #[NM,line,.slice PA acc.length PC,RT,oneOf b.1]) (by simp[results,results57,go_sem,z0,z1,z2,z3,z4]) rfl ⟨⟨.slice PA acc.length PC,by rw[HNM.o],O10,S9.o.new⟩,S10⟩
    | true=>
     have hr:aT ts gk acc s'=some p:=HR.o;cases gk with
     | zero=>simp[aT] at hr
     | succ k=>
       simp only[aT] at hr;have hb:=HB.o rfl;have hri:=S3.o.st.i_le;have HB2:=hD (show acc.length<=1000 by omega);have hle:=(((Ext.refl s').named (ts:=ts)).typed (ts:=ts)).i;have HLE:=hD (show acc.length<=(cO ts (aI ts s')).i by omega);have hok:=(S3.o.st.ok.named S3.o.st.toks).typed S3.o.st.toks;obtain⟨X,hX⟩:∃X,bs (dZ ts s')=X:=⟨_,rfl⟩;have HX:=hD hX;clear hb hri HB HR hle hX;by_cases hm:pIs ts [44] (cO ts (aI ts s'))=true
       . rw[if_pos hm] at hr
         have HM:=hD hm;have HO:=hD (hok.yL S3.o.st.toks hm);have HR2:=hD hr;clear hr hm hok;go_wp2_with fail
         refine stepM (S3.o.step (S3.o.here.name HX)) λw4 S4=>?_;go_wp2_with fail
         refine stepM (S4.o.step (S4.o.here.typed rfl)) λw5 S5=>?_;obtain⟨a2,f2,hF⟩:=S5.o.cells 2;simp at a2
         go_wp2_with (at_builtin;go_loud (refine aL (m:=1) (news:=[X,fT ts (aI ts s')]) rfl _ _ rfl aBj rfl rfl (S5.o.own.alloc _) (Rd.eZ (n:=1) (cs:=[X,fT ts (aI ts s')]) (Blk.new _ _ _) rfl (by decide)) (by simp[Value.oneCell']) (by have h9:=HB2.o;omega) (by have h9:=HB2.o;unfold maxLen;omega) ?_);go_loud (intro A6 c6 w6 ho6 hf6 hv6;have S6:=hD (S5.o.app (x:=dZ ts s') (t:=fT ts (aI ts s')) (by rw[HX.o];exact ho6) hf6 hv6);have g2:=((S5.o.bf.alloc _).fr hf6 (λhm=>S5.o.own.aD S5.o.bf (by decide) hm)).frozen 2;have g3:=((S5.o.bf.alloc _).fr hf6 (λhm=>S5.o.own.aD S5.o.bf (by decide) hm)).cell 2;have g4:=((S5.o.bf.alloc _).fr hf6 (λhm=>S5.o.own.aD S5.o.bf (by decide) hm)).lt;simp at g3;clear ho6 hf6 hv6 a2 f2 hF))
         clear g2 g3 g4;generalize w6.setCell (F,U2) (.slice A6 (acc.length+1) c6)=w7 at *;refine stepM (S6.o.step (S6.o.here.is ⟨#[44]⟩ HM)) λw8 S8=>?_;obtain⟨hg8,c18,c28,c48,c58,f28,f48⟩:=S8.o.st.cells;have hi8:=S8.o.st.i_le;go_wp2_with fail
         have S9:=hD (S8.o.to (S8.o.here.go HO));go_roundg k
         case measure=>omega
         case rel=>exact⟨acc++[(dZ ts s',fT ts (aI ts s'))],pGo (cO ts (aI ts s')),true,_,rfl,hD (by have:=HK.o;omega),S9,HR2,hD (λ_=>by have h9:=HLE.o;rw[aA3];show acc.length+1<=(cO ts (aI ts s')).i+1;omega)⟩
       . rw[if_neg hm] at hr
         simp only[aA0] at hr;have HM:=hD (show pIs ts [44] (cO ts (aI ts s'))=false by simpa using hm);have HR2:=hD hr.symm;clear hr hm hok;go_wp2_with fail
         refine stepM (S3.o.step (S3.o.here.name HX)) λw4 S4=>?_;go_wp2_with fail
         refine stepM (S4.o.step (S4.o.here.typed rfl)) λw5 S5=>?_;obtain⟨a2,f2,hF⟩:=S5.o.cells 2;simp at a2
         go_wp2_with (at_builtin;go_loud (refine aL (m:=1) (news:=[X,fT ts (aI ts s')]) rfl _ _ rfl aBj rfl rfl (S5.o.own.alloc _) (Rd.eZ (n:=1) (cs:=[X,fT ts (aI ts s')]) (Blk.new _ _ _) rfl (by decide)) (by simp[Value.oneCell']) (by have h9:=HB2.o;omega) (by have h9:=HB2.o;unfold maxLen;omega) ?_);go_loud (intro A6 c6 w6 ho6 hf6 hv6;have S6:=hD (S5.o.app (x:=dZ ts s') (t:=fT ts (aI ts s')) (by rw[HX.o];exact ho6) hf6 hv6);have g2:=((S5.o.bf.alloc _).fr hf6 (λhm=>S5.o.own.aD S5.o.bf (by decide) hm)).frozen 2;have g3:=((S5.o.bf.alloc _).fr hf6 (λhm=>S5.o.own.aD S5.o.bf (by decide) hm)).cell 2;have g4:=((S5.o.bf.alloc _).fr hf6 (λhm=>S5.o.own.aD S5.o.bf (by decide) hm)).lt;simp at g3;clear ho6 hf6 hv6 a2 f2 hF))
         clear g2 g3 g4;generalize w6.setCell (F,U2) (.slice A6 (acc.length+1) c6)=w7 at *;refine stepM (S6.o.step (S6.o.here.is ⟨#[44]⟩ HM)) λw8 S8=>?_;go_wp2
         go_roundg k
         case measure=>omega
         case rel=>exact⟨acc++[(dZ ts s',fT ts (aI ts s'))],cO ts (aI ts s'),false,_,rfl,hD (by have:=HK.o;omega),S8,HR2,hD (λh=>by cases h)⟩
end
section
variable {src:List UInt8}{ts:List Tok}
theorem rX:∀(n:Nat) (acc:List (List UInt8×Nat)) (s:PS),rem ts s+1<=n->∃r,aT ts n acc s=some r
 | 0,_,_,h=>by omega
 | n+1,acc,s,h=>by
  simp only[aT];by_cases hx:pIs ts [44] (cO ts (aI ts s))=true
  . rw[if_pos hx]
    have h1:=uN hx (Ext.refl (pGo (cO ts (aI ts s))));have h2:rem ts (cO ts (aI ts s))<=rem ts s:=eG (((Ext.refl s).named (ts:=ts)).typed (ts:=ts));exact rX n _ _ (by omega)
  . rw[if_neg hx];exact⟨_,rfl⟩
theorem wO (h:eY src ts n s=some fs):Ext (aA ts [102,110] s) fs.2:=by
 simp only[eY,bS,mS] at h;obtain⟨p,hp,b,hb,rfl⟩:=h;have hp2:Ext (aA ts [40] (aI ts (aA ts [102,110] s))) p.2:=by
   split at hp
   . exact mF _ _ _ _ hp
   . simp only[aA0] at hp
     subst hp;exact Ext.refl _
 have hb2:=aK _ _ _ _ hb;have h1:Ext (aA ts [102,110] s) (aA ts [41] p.2):=(((((Ext.refl _).named (ts:=ts)).must (ts:=ts) [40]).trans hp2).must (ts:=ts) [41]);split at hb2
 . exact h1.trans hb2
 . exact (h1.typed (ts:=ts)).trans hb2
theorem yO (h:eY src ts n s=some fs):Ext s fs.2:=((Ext.refl s).must (ts:=ts) [102,110]).trans (wO h)
theorem aJj (h:rem ts s+15<=n):∃r,eY src ts n s=some r:=by
 simp only[eY];obtain⟨p,hp,hpe⟩:∃p,(if pIs ts [41] (aA ts [40] (aI ts (aA ts [102,110] s)))=false∧(aA ts [40] (aI ts (aA ts [102,110] s))).e=0 then aT ts n [] (aA ts [40] (aI ts (aA ts [102,110] s))) else some ([],aA ts [40] (aI ts (aA ts [102,110] s))))=some p∧Ext (aA ts [40] (aI ts (aA ts [102,110] s))) p.2:=by
   have h1:Ext s (aA ts [40] (aI ts (aA ts [102,110] s))):=(((Ext.refl s).must (ts:=ts) [102,110]).named (ts:=ts)).must (ts:=ts) [40];have h2:=eG (ts:=ts) h1;split
   . obtain⟨p,hp⟩:=rX (ts:=ts) n [] (aA ts [40] (aI ts (aA ts [102,110] s))) (by omega)
     exact⟨p,hp,mF _ _ _ _ hp⟩
   . exact⟨_,rfl,Ext.refl _⟩
 rw[hp];simp only[Option.bind_some];have h1:Ext s (aA ts [41] p.2):=(((((Ext.refl s).must (ts:=ts) [102,110]).named (ts:=ts)).must (ts:=ts) [40]).trans hpe).must (ts:=ts) [41];split
 . obtain⟨b,hb⟩:=aBv (src:=src) (ts:=ts) n .block (aA ts [41] p.2) trivial (by have:=eG (ts:=ts) h1;simp only[cost];omega)
   rw[hb];exact⟨_,rfl⟩
 . obtain⟨b,hb⟩:=aBv (src:=src) (ts:=ts) n .block (cO ts (aA ts [41] p.2)) trivial (by have:=eG (ts:=ts) (h1.typed (ts:=ts));simp only[cost];omega)
   rw[hb];exact⟨_,rfl⟩
theorem yE {x:List UInt8}{t:PS} (h:Ext (aA ts x s) t) (h0:t.e=0):pIs ts x s=true∧Ext (pGo s) t:=by
 by_cases hx:pIs ts x s=true
 . refine⟨hx,?_⟩
   unfold aA at h;rw[if_pos hx] at h;exact h
 . exfalso
   unfold aA at h;rw[if_neg hx] at h;have h1:=h.e0 h0;unfold aR at h1;split at h1
   . simp at h1
   . rename_i h2;exact h2 h1
theorem aNe:∀(n:Nat) (acc:List aG) (s:PS),rem ts s+40<=n->∃r,dR src ts n acc s=some r:=by
 intro n;induction n with
 | zero=>intro acc s h;omega
 | succ n ih=>
  intro acc s h;simp only[dR];split
  . exact⟨_,rfl⟩
  . rename_i h0
    have h0:s.e=0:=by simpa using h0
    split
    . exact⟨_,rfl⟩
    . obtain⟨fs,hfs⟩:=aJj (src:=src) (ts:=ts) (n:=n) (s:=s) (by omega)
      rw[hfs];simp only[Option.bind_some];have he:=wO hfs;by_cases hf:fs.2.e=0
      . obtain⟨hx,hg⟩:=yE he hf
        have:=uN hx hg;exact ih _ _ (by omega)
      . cases n with
        | zero=>omega
        | succ n=>simp only[dR];rw[if_pos hf];exact⟨_,rfl⟩
theorem aEp (src:List UInt8):∃r,parseM src=some r:=by
 unfold parseM;cases wM src with
 | bad p e=>exact⟨_,rfl⟩
 | good ts=>
  show ∃r,qA src ts=some r
  unfold qA;obtain⟨r,hr⟩:=aNe (src:=src) (ts:=ts) (gP ts) [] ⟨0,[],0,0,0⟩ (by unfold rem gP;simp;omega);rw[hr];exact⟨_,rfl⟩
theorem rY (ht:dF ts):∀(n:Nat) (acc:List (List UInt8×Nat)) (s:PS) (p:List (List UInt8×Nat)×PS),aT ts n acc s=some p->dA ts s->dA ts p.2
 | 0,_,_,_,h,_=>by simp[aT] at h
 | n+1,acc,s,p,h,hs=>by
  simp only[aT] at h;split at h
  . rename_i hx
    exact rY ht n _ _ _ h (((hs.named ht).typed ht).yL ht hx)
  . simp only[aA0] at h
    subst h;exact (hs.named ht).typed ht
theorem uV:∀(n:Nat) (acc:List (List UInt8×Nat)) (s:PS) (p:List (List UInt8×Nat)×PS),aT ts n acc s=some p->pot p.2<=pot s
 | 0,_,_,_,h=>by simp[aT] at h
 | n+1,acc,s,p,h=>by
  have typed:∀s,pot (cO ts s)<=pot s:=λs=>by
    unfold cO;split
    . rw[mD];omega
    . rw[rU];omega
  have h1:=rR (ts:=ts) s;have h2:=typed (aI ts s);simp only[aT] at h;split at h
  . have:=uV n _ _ _ h
    rw[rU] at this;omega
  . simp only[aA0] at h
    subst h;exact Int.le_trans h2 h1
theorem aJk (ht:dF ts) (h:eY src ts n s=some fs) (hs:dA ts s):dA ts fs.2∧pot fs.2<=pot (aA ts [102,110] s)+3:=by
 have typed:∀s,pot (cO ts s)<=pot s:=λs=>by
   unfold cO;split
   . rw[mD];omega
   . rw[rU];omega
 simp only[eY,bS,mS] at h;obtain⟨p,hp,b,hb,rfl⟩:=h;have h1:dA ts (aA ts [40] (aI ts (aA ts [102,110] s))):=((hs.must ht _).named ht).must ht _;have hpp:pot (aA ts [40] (aI ts (aA ts [102,110] s)))<=pot (aA ts [102,110] s):=Int.le_trans (qM _ _) (rR _);have h2:dA ts p.2∧pot p.2<=pot (aA ts [102,110] s):=by
   split at hp
   . exact⟨rY ht _ _ _ _ hp h1,Int.le_trans (uV _ _ _ _ hp) hpp⟩
   . simp only[aA0] at hp
     subst hp;exact⟨h1,hpp⟩
 have h3:dA ts (aA ts [41] p.2):=h2.1.must ht _;have h4:=qM (ts:=ts) [41] p.2;have hfew:=(aPa _ _ _ _ hb).1;have hok:=iQ ht _ _ _ _ hb;simp only[kN] at hfew;split at hfew
 . rename_i hx
   rw[if_pos hx] at hok;exact⟨hok h3,by have:=h2.2;show pot b.2<=_;omega⟩
 . rename_i hx
   rw[if_neg hx] at hok;have:=typed (aA ts [41] p.2);exact⟨hok (h3.typed ht),by have:=h2.2;show pot b.2<=_;omega⟩
theorem pI:∀(n:Nat) (acc:List aG) (s:PS) (r:List aG×PS),dR src ts n acc s=some r->Ext s r.2
 | 0,_,_,_,h=>by simp[dR] at h
 | n+1,acc,s,r,h=>by
  simp only[dR] at h;split at h
  . simp only[aA0] at h;subst h;exact Ext.refl _
  . split at h
    . simp only[aA0] at h;subst h;exact Ext.refl _
    . simp only[bS] at h
      obtain⟨fs,hfs,h⟩:=h;exact (yO hfs).trans (pI n _ _ _ h)
theorem aJo (ht:dF ts):∀(n:Nat) (acc:List aG) (s:PS) (r:List aG×PS),dR src ts n acc s=some r->dA ts s->dA ts r.2∧pot r.2<=pot s+3
 | 0,_,_,_,h,_=>by simp[dR] at h
 | n+1,acc,s,r,h,hs=>by
  simp only[dR] at h;split at h
  . simp only[aA0] at h;subst h;exact⟨hs,by show pot s<=_;omega⟩
  . split at h
    . simp only[aA0] at h;subst h;exact⟨hs,by show pot s<=_;omega⟩
    . simp only[bS] at h
      obtain⟨fs,hfs,h⟩:=h;obtain⟨a1,a2⟩:=aJk ht hfs hs;obtain⟨b1,b2⟩:=aJo ht n _ _ _ h a1;refine⟨b1,?_⟩;by_cases he:fs.2.e=0
      . obtain⟨hx,_⟩:=yE (wO hfs) he
        have:pot (aA ts [102,110] s)=pot s - 20:=by unfold aA;rw[if_pos hx,rU]
        omega
      . cases n with
        | zero=>simp[dR] at h
        | succ n=>
         simp only[dR] at h;rw[if_pos he] at h;simp only[aA0] at h;subst h;have:=qM (ts:=ts) [102,110] s
         show pot fs.2<=_
         omega
theorem aPu (ht:dF ts){r:List aG×PS} (h:dR src ts n [] ⟨0,[],0,0,0⟩=some r):r.2.nodes.length<=1000000:=by
 have h0:dA ts ⟨0,[],0,0,0⟩:=⟨ht.pos,by decide,λ_=>by decide,by decide,by decide⟩;obtain⟨a,b⟩:=aJo ht _ _ _ _ h h0;have:=a.room;have:=ht.few;unfold pot at b;simp at b
 omega
end
structure aKr (N:Nat) (t:Tok):Prop where
 kind:t.kind<=5
 place:t.place<=N
 long:t.text.length<=N
 num:t.kind=1->t.text≠[]∧dK t.text∧aO 0 t.text<=9223372036854775807
theorem aAt {o m:Nat} (h0:0<l.length) (h:firstM l = .ok k o m n):1<=k∧k<=5∧(k=1->(l.drop o).take m≠[]∧dK ((l.drop o).take m)∧aO 0 ((l.drop o).take m)<=9223372036854775807):=by
 unfold firstM at h;split at h
 . rename_i hd
   unfold jE at h;split at h
   . rename_i hn
     injection h with h1 h2 h3 h4;subst h1;subst h2;subst h3;have hp:=kJ bC l h0 hd;have hle:=jQ bC l;refine⟨by decide,by decide,λ_=>?_⟩;rw[List.drop_zero];unfold nJ at hn;simp only[Bool.and_eq_true,decide_eq_true_eq] at hn;refine⟨λe=>?_,oM l,hn.2⟩;have:=congrArg List.length e;rw[List.length_take,List.length_nil] at this;omega
   . cases h
 . split at h
   . unfold sJ at h
     split at h
     . injection h with h1 h2 h3 h4
       exact⟨by omega,by omega,λe=>by omega⟩
     . split at h
       . cases h
       . injection h with h1 h2 h3 h4
         exact⟨by omega,by omega,λe=>by omega⟩
   . split at h
     . unfold nG at h
       split at h
       . cases h
       . split at h
         . cases h
         . injection h with h1 h2 h3 h4
           exact⟨by omega,by omega,λe=>by omega⟩
     . unfold kH at h
       split at h
       . injection h with h1 h2 h3 h4
         exact⟨by omega,by omega,λe=>by omega⟩
       . split at h
         . injection h with h1 h2 h3 h4
           exact⟨by omega,by omega,λe=>by omega⟩
         . cases h
theorem yH:∀(n:Nat) (l:List UInt8) (p N:Nat) (ts:List Tok),l.length<=n->p+l.length<=N->lexFrom l p = .good ts ->
  (∀t∈ts,aKr N t)∧ts.length<=l.length+1∧∃K q,ts=K++[⟨0,[],q⟩]∧∀t∈K,t.kind≠0:=by
 intro n;induction n with
 | zero=>
  intro l p N ts hl hN h;have:l=[]:=List.eq_nil_of_length_eq_zero (by omega);subst this;rw[lex_nil] at h;injection h with h;subst h;refine⟨λt ht=>?_,by simp,[],p,rfl,λt ht=>by cases ht⟩;rw[List.mem_singleton.1 ht];exact⟨by simp,by simp at hN ⊢;omega,by simp,λe=>by simp at e⟩
 | succ n ih=>
  intro l p N ts hl hN h;refine qQ (Mo:=λl p=>l.length<=n+1->p+l.length<=N->lexFrom l p = .good ts->(∀t∈ts,aKr N t)∧ts.length<=l.length+1∧∃K q,ts=K++[⟨0,[],q⟩]∧∀t∈K,t.kind≠0) l p ?_ ?_ ?_ ?_ ?_ hl hN h
  . intro _ _ hN h
    rw[lex_nil] at h;injection h with h;subst h;refine⟨λt ht=>?_,by simp,[],p,rfl,λt ht=>by cases ht⟩;rw[List.mem_singleton.1 ht];exact⟨by simp,by simp at hN ⊢;omega,by simp,λe=>by simp at e⟩
  . intro h0 hb hl hN h
    rw[lI h0 hb] at h;have hd:(l.drop 1).length=l.length - 1:=by rw[List.length_drop]
    obtain⟨a,b,c⟩:=ih (l.drop 1) (p+1) N ts (by omega) (by omega) h;exact⟨a,by omega,c⟩
  . intro h0 hb hr hp hl hN h
    rw[jW h0 hb hr] at h;have hle:=jQ bW l;have hd:(l.drop (runN bW l)).length=l.length - runN bW l:=by rw[List.length_drop]
    obtain⟨a,b,c⟩:=ih (l.drop (runN bW l)) (p+runN bW l) N ts (by omega) (by omega) h;exact⟨a,by omega,c⟩
  . intro e h0 hb hr hf hl hN h
    rw[sN h0 hb hr hf] at h;cases h
  . intro k o m n' h0 hb hr hf hl hN h
    obtain⟨g1,g2,g3⟩:=jH h0 hf;obtain⟨k1,k2,k3⟩:=aAt h0 hf;rw[yI h0 hb hr hf] at h;have hd:(l.drop n').length=l.length - n':=by rw[List.length_drop]
    cases hq:lexFrom (l.drop n') (p+n') with
    | bad i e=>rw[hq] at h;cases h
    | good us=>
     rw[hq] at h;injection h with h;obtain⟨a,b,K,q,e1,e2⟩:=ih (l.drop n') (p+n') N us (by omega) (by omega) hq;subst h;refine⟨λt ht=>?_,by simp;omega,⟨k,(l.drop o).take m,p⟩ :: K,q,by rw[e1];rfl,λt ht=>?_⟩
     . rcases List.mem_append.1 ht with ht|ht
       . rw[List.mem_singleton.1 ht]
         exact⟨k2,by show p<=N;omega,by show ((l.drop o).take m).length<=N;rw[List.length_take];omega,k3⟩
       . exact a t ht
     . rcases List.mem_cons.1 ht with rfl|ht
       . show k≠0;omega
       . exact e2 t ht
theorem lJ {ts:List Tok} (h:wM l = .good ts):dF ts:=by
 unfold wM at h;split at h
 . cases h
 . rename_i hl
   obtain⟨a,b,K,q,e1,e2⟩:=yH l.length l 0 600 ts (aA1 _) (by omega) h;refine⟨by rw[e1];simp,by omega,λt ht=>⟨(a t ht).kind,by have:=(a t ht).place;omega⟩,?_,λt ht=>(a t ht).num,λt ht=>by have:=(a t ht).long;omega⟩;rw[e1,aA3,List.length_singleton,Nat.add_sub_cancel,List.getD,List.getElem?_append_right (aA1 _),Nat.sub_self];rfl
theorem aCe {ts:List Tok} (h:wM l = .good ts):ts.length<=601:=by
 unfold wM at h;split at h
 . cases h
 . obtain⟨a,b,_⟩:=yH l.length l 0 600 ts (aA1 _) (by omega) h
   omega
theorem aTa:wY prog 24 48 5 64 (.agg #[.string ⟨#[]⟩,U0,Un,U0,U0]):=wY.mk' (by kernel_rfl) (by kernel_rfl) rfl (by decide)
def jZ (f:aG) (v:Value):List Value:=[bs f.name,f.line,v,f.ret,f.body]
def dB:List aG->List Value->List Value
 | f :: fs,v :: vs=>jZ f v++dB fs vs
 | _,_=>[]
theorem lS:∀(fs:List aG) (vs:List Value) (f:aG) (v:Value),fs.length=vs.length->dB (fs++[f]) (vs++[v])=dB fs vs++jZ f v
 | [],[],f,v,_=>by simp[dB]
 | [],_ :: _,_,_,h=>by simp at h
 | _ :: _,[],_,_,h=>by simp at h
 | a :: fs,b :: vs,f,v,h=>by
  rw[List.cons_append,List.cons_append,dB,lS fs vs f v (by simpa using h),dB,List.append_assoc]
theorem sU:∀{fs:List aG}{vs:List Value}{j:Nat}{f:aG}{v:Value},fs[j]?=some f->vs[j]?=some v->(dB fs vs)[j*5+2]?=some v
 | [],_,_,_,_,h,_=>by simp at h
 | _ :: _,[],_,_,_,_,h=>by simp at h
 | a :: fs,b :: vs,0,f,v,h,h2=>by simp at h h2;subst h;subst h2;rfl
 | a :: fs,b :: vs,j+1,f,v,h,h2=>by
  have:=sU (fs:=fs) (vs:=vs) (j:=j) (by simpa using h) (by simpa using h2);rw[dB,List.getElem?_append_right (by simp[jZ];omega),show (jZ a b).length=5 from rfl,show (j+1)*5+2 - 5=j*5+2 by omega];exact this
theorem Own.some {w:World}{e size c:Nat}{A:Option Addr}{xs:List Value} (h:Own w e size (.slice A n c) n xs) (h0:0<n):
   ∃g,A=some ⟨g,0,none⟩∧∀j u,xs[j]?=some u->w.cell? ⟨g,j,none⟩=some u:=by
 obtain⟨hl,A',c',hv,⟨_,h2⟩|⟨g,cur,rfl,h1,hb,hnc,hcm,hsz,ht⟩⟩:=h
 . omega
 . injection hv with hA hn hc
   subst hA;subst hc;refine⟨g,rfl,λj u hu=>?_⟩;rw[hb.cell];rw[<-ht,List.getElem?_take] at hu;split at hu
   . simpa using hu
   . cases hu
def dG (w:World):List aG->List Value->Prop
 | [],[]=>True
 | f :: fs,v :: vs=>Own w 101 2 v f.params.length (aN f.params)∧dG w fs vs
 | _,_=>False
section
variable {w w':World}
theorem dG.to {M:Nat->Prop} (f:Fr M w w') (hM:∀k cs,Blk w k 101 cs->¬M k):∀{fs:List aG}{vs:List Value},dG w fs vs->dG w' fs vs
 | [],[],_=>trivial
 | [],_ :: _,h=>h.elim
 | _ :: _,[],h=>h.elim
 | _ :: _,_ :: _,h=>⟨h.1.fr f (λk hk=>by obtain⟨cs,hc⟩:=h.1.ty hk;exact hM k cs hc),dG.to f hM h.2⟩
theorem dG.snoc {f:aG}{v:Value} (hn:Own w 101 2 v f.params.length (aN f.params)):∀{fs:List aG}{vs:List Value},dG w fs vs->dG w (fs++[f]) (vs++[v])
 | [],[],_=>⟨hn,trivial⟩
 | [],_ :: _,h=>h.elim
 | _ :: _,[],h=>h.elim
 | _ :: _,_ :: _,h=>⟨h.1,dG.snoc hn h.2⟩
theorem dG.get:∀{fs:List aG}{vs:List Value}{j:Nat}{f:aG}{v:Value},dG w fs vs->fs[j]?=some f->vs[j]?=some v->Own w 101 2 v f.params.length (aN f.params)
 | [],_,_,_,_,_,h,_=>by simp at h
 | _ :: _,[],_,_,_,_,_,h=>by simp at h
 | a :: fs,b :: vs,0,f,v,hp,h,h2=>by simp at h h2;subst h;subst h2;exact hp.1
 | a :: fs,b :: vs,j+1,f,v,hp,h,h2=>dG.get hp.2 (by simpa using h) (by simpa using h2)
end
structure cZ (B:Nat) (w:World) (nv fv:Value) (lvs pvs:List Value) (ns:List aF) (fs:List aG):Prop where
 nodes:Own w 50 5 nv ns.length (cB ns lvs)
 below:bD w ns lvs
 same:ns.length=lvs.length
 fns:Own w 48 5 fv fs.length (dB fs pvs)
 pars:dG w fs pvs
 samef:fs.length=pvs.length
 newn:∀k,blk nv=some k->B<=k
 newf:∀k,blk fv=some k->B<=k
def aKu (B:Nat) (w:World) (e:Ending):zG->Prop
 | .bad p er=>e = .returned (.tuple #[.agg #[.slice none 0 0,.slice none 0 0],.int .i64 p,.int .i64 er])
 | .good nodes fns=>∃nv fv lvs pvs,e = .returned (.tuple #[.agg #[nv,fv],.int .i64 0,.int .i64 0])∧cZ B w nv fv lvs pvs nodes fns
structure ASt (src:ByteArray) (tb tc:Nat) (ts:List Tok) (g:Nat) (w0:World) (TT T9:Nat) (w:World) (s:PS) (fv:Value) (fns:List aG) (pvs:List Value):Prop where
 st:St src tb tc ts g (λ_=>False) w0 w s
 bt:Blk w TT 26 #[Un,Un]
 b9:Blk w T9 26 #[Un,fv]
 h9:w0.heap.size<=T9
 ne:TT≠T9
 own:Own w 48 5 fv fns.length (dB fns pvs)
 pars:dG w fns pvs
 same:fns.length=pvs.length
 newf:∀k,blk fv=some k->w0.heap.size<=k
section
variable {src:ByteArray}{tb tc:Nat}{ts:List Tok}{g:Nat}{w0 w w1 w':World}{s:PS}{TT T9:Nat}{fv:Value}{fns:List aG}{pvs:List Value}
theorem FrR.far (h:FrR g w w'){cs:Array Value}{t:TypeId} (hb:Blk w g t cs){u:TypeId}{cu:Array Value} (hk:Blk w k u cu) (h1:u≠t) (h2:u≠50):¬(k=g∨(g<k∧aKv w k)):=by
 rintro (e|⟨_,cs',f,hc⟩)
 . subst e;exact hk.ne hb h1 rfl
 . unfold Blk at hk
   rw[hk] at hc;injection hc with hc;injection hc with _ ht;exact h2 ht
theorem ASt.to (h:ASt src tb tc ts g w0 TT T9 w s fv fns pvs) (h':St src tb tc ts g (λ_=>False) w w' s'):ASt src tb tc ts g w0 TT T9 w' s' fv fns pvs:=by
 obtain⟨cs,hb⟩:=h.st.aPs;exact⟨h.st.back h',h'.fr.blk h.bt (h.bt.ne hb (by decide)) (by decide),h'.fr.blk h.b9 (h.b9.ne hb (by decide)) (by decide),h.h9,h.ne,h.own.frR hb (by decide) (by decide) h'.fr,
  h.pars.to h'.fr (λk cu hk=>h'.fr.far hb hk (by decide) (by decide)),h.same,h.newf⟩
theorem ASt.step (h:ASt src tb tc ts g w0 TT T9 w s fv fns pvs){f:FuncId}{args:Array Value}{E:Ending->Prop} (c:Calls prog f args w λe w'=>E e∧St src tb tc ts g (λ_=>False) w w' s'):
 Calls prog f args w λe w'=>E e∧ASt src tb tc ts g w0 TT T9 w' s' fv fns pvs:=c.mono λe w' ⟨he,h'⟩=>⟨he,h.to h'⟩
theorem ASt.app (h:ASt src tb tc ts g w0 TT T9 w s fv fns pvs){f:aG}{pv:Value} (hp:Own w 101 2 pv f.params.length (aN f.params)){o1 o2:Obj}{v':Value}
   (ho:Own w' 48 5 v' (fns.length+1) (dB fns pvs++jZ f pv)) (hf:Fr (obl (blk fv)) ((w.alloc o1).alloc o2) w') (hv:blk v'=blk fv∨blk v'=some ((w.alloc o1).alloc o2).heap.size):
   ASt src tb tc ts g w0 TT T9 (w'.setCell (T9,U1) v') s v' (fns++[f]) (pvs++[pv]):=by
 have hst:=(h.st.alloc o1).alloc o2;have hown:=(h.own.alloc o1).alloc o2;have hbt:=(h.bt.alloc o1).alloc o2;have hb9:=(h.b9.alloc o1).alloc o2;have hpp:=(hp.alloc o1).alloc o2;have hpars:dG ((w.alloc o1).alloc o2) fns pvs:=(h.pars.to (M:=nob) (((fR w).alloc o1).alloc o2) (λ_ _ _ x=>x));have h2:St src tb tc ts g (λ_=>False) w0 w' s:=hst.other (M:=obl (blk fv)) hf (λk hk=>by
   obtain⟨cs,hc⟩:=hown.ty (k:=k) hk;exact⟨h.newf k hk,_,_,hc,by decide⟩)
 have hb92:=hb9.fr hf (λhm=>hown.aD hb9 (by decide) hm);have hbt2:=hbt.fr hf (λhm=>hown.aD hbt (by decide) hm);have hpars2:dG w' fns pvs:=hpars.to hf (λk cs hk hm=>by
   obtain⟨cs2,hc⟩:=hown.ty (k:=k) hm;exact hk.ne hc (by decide) rfl)
 have hpp2:=hpp.fr hf (λk hk hm=>hown.fV hpp (by decide) hk hm);have fs:Fr (bY T9) w' (w'.setCell (T9,U1) v'):=(Fr.refl _ w').setCell _ _ (λ_=>rfl);have h3:Own w' 48 5 v' (fns++[f]).length (dB (fns++[f]) (pvs++[pv])):=by
   rw[aA3,lS _ _ _ _ h.same];exact ho
 refine⟨h2.other (M:=bY T9) fs (λk hk=>by rw[show k=T9 from hk];exact⟨h.h9,_,_,hb92,by decide⟩),hbt2.far (p:=(T9,U1)) h.ne _,hb92.setCell 1 _,h.h9,h.ne,h3.far (p:=(T9,U1)) (h3.aD hb92 (by decide)) _,
   dG.to fs (λk cs hk hm=>hk.ne hb92 (by decide) hm) (dG.snoc hpp2 hpars2),by simp[h.same],λk hk=>?_⟩
 rcases hv with e|e
 . rw[e] at hk;exact h.newf k hk
 . rw[e] at hk;injection hk with hk
   have:=hst.fr.size;omega
end
end Go.Proofs.YtlbjicjinnnboaaGreatDoor
