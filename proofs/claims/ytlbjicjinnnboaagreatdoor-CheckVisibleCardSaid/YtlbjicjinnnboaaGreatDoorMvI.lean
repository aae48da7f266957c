/- MvI: laws and walks for CheckVisible. -/
import Derived.Test.YtlbjicjinnnboaaGreatDoorUShelf
import Derived.Test.YtlbjicjinnnboaaGreatDoorMvH
import Derived.StillTailTactics
import Derived.Laws.EntriesVeiled
import Derived.WalkLawsBesides
import Derived.Test.YtlbjicjinnnboaaGreatDoorMvA
set_option maxHeartbeats 8000000
set_option maxRecDepth 100000
set_option linter.unusedVariables false
set_option linter.unusedSimpArgs false
namespace Go.Proofs.YtlbjicjinnnboaaGreatDoor
open Go.RowKit Go.Proofs.Tryz
open Pw
variable {x T c i n line:Nat}{q:CkR (List Nat×CkS)}{ps l:List Nat}{ex:Nat->CkS->CkR (Nat×CkS)}{A:Option Addr}{nd:aF}{nm:List UInt8}{fs:List aG}
theorem lK {w:World}{b:Nat}{t:Nat}{zs:List Int} (hb:Blk w T 3 #[t]) (hz:Blk w b 3 (eH zs).toArray) (hn:zs.length<=10):
  Calls prog 227 #[(b,zs.length,zs.length),(T,())] w λen w'=>en = .returned (zs.contains (t:Int))∧w'=w:=by
 have n3:w.cell? (T,0)=t:=(hb.cell 0).trans rfl;have HC:=hD (slices_Contains_int b 0 zs.length zs.length zs (t:Int) w (aA1 _) (by omega) (λj hj=>by
  rw[Nat.zero_add,hz.cell j];unfold eH;rw[<-Array.getElem?_toList,List.getElem?_map,gE hj,List.getD,gE hj];rfl))
 rw[List.take_length] at HC;obtain⟨z,hz2⟩:∃z,zs.contains (t:Int)=z:=⟨_,rfl⟩;rw[hz2] at HC ⊢;generalize zs.length=zl at *;clear hb hz hz2 hn;go_enter func227,ntmps227;go_wp2_with fail
 refine HC.o.mono ?_;rintro en w2 ⟨rfl,rfl⟩;go_wp2
 go_ret;exact⟨rfl,rfl⟩
theorem aMc (w:World) (y:List UInt8) (t:Nat):Calls prog 208 #[bs y,t] w λen w'=>en = .returned (bL y t t)∧Fr nob w w':=by
 obtain⟨R,hR⟩:∃R,bL y t t=R:=⟨_,rfl⟩;rw[hR];have HR:=hD hR;clear hR;by_cases h0:y=[124,124]
 . subst h0
   have e0:((bs [124,124]).toList==[124,124])=true:=by kernel_rfl
   have hb2:=Blk.new (w.alloc (.cells #[t] 3)) 3 #[U2];rw[World.size_alloc] at hb2;have HIS:=hD (lK (t:=t) (zs:=[2]) ((Blk.new w 3 #[t]).alloc (.cells #[U2] 3)) hb2 (by decide));have FF:Hd (Fr nob w ((w.alloc (.cells #[t] 3)).alloc (.cells #[U2] 3))):=((fR w).alloc _).alloc _;obtain⟨z,hz⟩:∃z,([2]:List Int).contains (t:Int)=z:=⟨_,rfl⟩;rw[hz] at HIS;have HZ:=hD hz;clear hz hb2;go_enter func208,ntmps208;go_wp2_with fail
   refine HIS.o.mono ?_;rintro en w2 ⟨rfl,hw⟩;subst hw;cases z
   . go_wp2
     go_ret;refine⟨?_,FF⟩;have hz:=HZ.o;have:R=0:=by rw[<-HR.o];simp only[List.contains_cons,List.contains_nil,Bool.or_false,beq_iff_eq,Bool.or_eq_true,Bool.or_eq_false_iff,beq_eq_false_iff_ne,ne_eq] at hz;unfold bL;(try simp);(try omega)
     rw[this];rfl
   . go_wp2
     go_ret;refine⟨?_,FF⟩;have hz:=HZ.o;have:R=2:=by rw[<-HR.o];simp only[List.contains_cons,List.contains_nil,Bool.or_false,beq_iff_eq,Bool.or_eq_true,Bool.or_eq_false_iff,beq_eq_false_iff_ne,ne_eq] at hz;unfold bL;(try simp);(try omega)
     rw[this];rfl
 by_cases h1:y=[38,38]
 . subst h1
   have e0:((bs [38,38]).toList==[124,124])=false:=by kernel_rfl
   have e1:((bs [38,38]).toList==[38,38])=true:=by kernel_rfl
   clear h0;have hb2:=Blk.new (w.alloc (.cells #[t] 3)) 3 #[U2];rw[World.size_alloc] at hb2;have HIS:=hD (lK (t:=t) (zs:=[2]) ((Blk.new w 3 #[t]).alloc (.cells #[U2] 3)) hb2 (by decide));have FF:Hd (Fr nob w ((w.alloc (.cells #[t] 3)).alloc (.cells #[U2] 3))):=((fR w).alloc _).alloc _;obtain⟨z,hz⟩:∃z,([2]:List Int).contains (t:Int)=z:=⟨_,rfl⟩;rw[hz] at HIS;have HZ:=hD hz;clear hz hb2;go_enter func208,ntmps208;go_wp2_with fail
   refine HIS.o.mono ?_;rintro en w2 ⟨rfl,hw⟩;subst hw;cases z
   . go_wp2
     go_ret;refine⟨?_,FF⟩;have hz:=HZ.o;have:R=0:=by rw[<-HR.o];simp only[List.contains_cons,List.contains_nil,Bool.or_false,beq_iff_eq,Bool.or_eq_true,Bool.or_eq_false_iff,beq_eq_false_iff_ne,ne_eq] at hz;unfold bL;(try simp);(try omega)
     rw[this];rfl
   . go_wp2
     go_ret;refine⟨?_,FF⟩;have hz:=HZ.o;have:R=2:=by rw[<-HR.o];simp only[List.contains_cons,List.contains_nil,Bool.or_false,beq_iff_eq,Bool.or_eq_true,Bool.or_eq_false_iff,beq_eq_false_iff_ne,ne_eq] at hz;unfold bL;(try simp);(try omega)
     rw[this];rfl
 by_cases h2:y=[60]
 . subst h2
   have e0:((bs [60]).toList==[124,124])=false:=by kernel_rfl
   have e1:((bs [60]).toList==[38,38])=false:=by kernel_rfl
   have e2:((bs [60]).toList==[60])=true:=by kernel_rfl
   clear h0 h1;have hb2:=Blk.new (w.alloc (.cells #[t] 3)) 3 #[U1];rw[World.size_alloc] at hb2;have HIS:=hD (lK (t:=t) (zs:=[1]) ((Blk.new w 3 #[t]).alloc (.cells #[U1] 3)) hb2 (by decide));have FF:Hd (Fr nob w ((w.alloc (.cells #[t] 3)).alloc (.cells #[U1] 3))):=((fR w).alloc _).alloc _;obtain⟨z,hz⟩:∃z,([1]:List Int).contains (t:Int)=z:=⟨_,rfl⟩;rw[hz] at HIS;have HZ:=hD hz;clear hz hb2;go_enter func208,ntmps208;go_wp2_with fail
   refine HIS.o.mono ?_;rintro en w2 ⟨rfl,hw⟩;subst hw;cases z
   . go_wp2
     go_ret;refine⟨?_,FF⟩;have hz:=HZ.o;have:R=0:=by rw[<-HR.o];simp only[List.contains_cons,List.contains_nil,Bool.or_false,beq_iff_eq,Bool.or_eq_true,Bool.or_eq_false_iff,beq_eq_false_iff_ne,ne_eq] at hz;unfold bL;(try simp);(try omega)
     rw[this];rfl
   . go_wp2
     go_ret;refine⟨?_,FF⟩;have hz:=HZ.o;have:R=2:=by rw[<-HR.o];simp only[List.contains_cons,List.contains_nil,Bool.or_false,beq_iff_eq,Bool.or_eq_true,Bool.or_eq_false_iff,beq_eq_false_iff_ne,ne_eq] at hz;unfold bL;(try simp);(try omega)
     rw[this];rfl
 by_cases h3:y=[60,61]
 . subst h3
   have e0:((bs [60,61]).toList==[124,124])=false:=by kernel_rfl
   have e1:((bs [60,61]).toList==[38,38])=false:=by kernel_rfl
   have e2:((bs [60,61]).toList==[60])=false:=by kernel_rfl
   have e3:((bs [60,61]).toList==[60,61])=true:=by kernel_rfl
   clear h0 h1 h2;have hb2:=Blk.new (w.alloc (.cells #[t] 3)) 3 #[U1];rw[World.size_alloc] at hb2;have HIS:=hD (lK (t:=t) (zs:=[1]) ((Blk.new w 3 #[t]).alloc (.cells #[U1] 3)) hb2 (by decide));have FF:Hd (Fr nob w ((w.alloc (.cells #[t] 3)).alloc (.cells #[U1] 3))):=((fR w).alloc _).alloc _;obtain⟨z,hz⟩:∃z,([1]:List Int).contains (t:Int)=z:=⟨_,rfl⟩;rw[hz] at HIS;have HZ:=hD hz;clear hz hb2;go_enter func208,ntmps208;go_wp2_with fail
   refine HIS.o.mono ?_;rintro en w2 ⟨rfl,hw⟩;subst hw;cases z
   . go_wp2
     go_ret;refine⟨?_,FF⟩;have hz:=HZ.o;have:R=0:=by rw[<-HR.o];simp only[List.contains_cons,List.contains_nil,Bool.or_false,beq_iff_eq,Bool.or_eq_true,Bool.or_eq_false_iff,beq_eq_false_iff_ne,ne_eq] at hz;unfold bL;(try simp);(try omega)
     rw[this];rfl
   . go_wp2
     go_ret;refine⟨?_,FF⟩;have hz:=HZ.o;have:R=2:=by rw[<-HR.o];simp only[List.contains_cons,List.contains_nil,Bool.or_false,beq_iff_eq,Bool.or_eq_true,Bool.or_eq_false_iff,beq_eq_false_iff_ne,ne_eq] at hz;unfold bL;(try simp);(try omega)
     rw[this];rfl
 by_cases h4:y=[61,61]
 . subst h4
   have e0:((bs [61,61]).toList==[124,124])=false:=by kernel_rfl
   have e1:((bs [61,61]).toList==[38,38])=false:=by kernel_rfl
   have e2:((bs [61,61]).toList==[60])=false:=by kernel_rfl
   have e3:((bs [61,61]).toList==[60,61])=false:=by kernel_rfl
   have e4:((bs [61,61]).toList==[61,61])=true:=by kernel_rfl
   clear h0 h1 h2 h3;have hb2:=Blk.new (w.alloc (.cells #[t] 3)) 3 #[U1,U2,U3];rw[World.size_alloc] at hb2;have HIS:=hD (lK (t:=t) (zs:=[1,2,3]) ((Blk.new w 3 #[t]).alloc (.cells #[U1,U2,U3] 3)) hb2 (by decide));have FF:Hd (Fr nob w ((w.alloc (.cells #[t] 3)).alloc (.cells #[U1,U2,U3] 3))):=((fR w).alloc _).alloc _;obtain⟨z,hz⟩:∃z,([1,2,3]:List Int).contains (t:Int)=z:=⟨_,rfl⟩;rw[hz] at HIS;have HZ:=hD hz;clear hz hb2;go_enter func208,ntmps208;go_wp2_with fail
   refine HIS.o.mono ?_;rintro en w2 ⟨rfl,hw⟩;subst hw;cases z
   . go_wp2
     go_ret;refine⟨?_,FF⟩;have hz:=HZ.o;have:R=0:=by rw[<-HR.o];simp only[List.contains_cons,List.contains_nil,Bool.or_false,beq_iff_eq,Bool.or_eq_true,Bool.or_eq_false_iff,beq_eq_false_iff_ne,ne_eq] at hz;unfold bL;(try simp);(try omega)
     rw[this];rfl
   . go_wp2
     go_ret;refine⟨?_,FF⟩;have hz:=HZ.o;have:R=2:=by rw[<-HR.o];simp only[List.contains_cons,List.contains_nil,Bool.or_false,beq_iff_eq,Bool.or_eq_true,Bool.or_eq_false_iff,beq_eq_false_iff_ne,ne_eq] at hz;unfold bL;(try simp);(try omega)
     rw[this];rfl
 by_cases h5:y=[33,61]
 . subst h5
   have e0:((bs [33,61]).toList==[124,124])=false:=by kernel_rfl
   have e1:((bs [33,61]).toList==[38,38])=false:=by kernel_rfl
   have e2:((bs [33,61]).toList==[60])=false:=by kernel_rfl
   have e3:((bs [33,61]).toList==[60,61])=false:=by kernel_rfl
   have e4:((bs [33,61]).toList==[61,61])=false:=by kernel_rfl
   have e5:((bs [33,61]).toList==[33,61])=true:=by kernel_rfl
   clear h0 h1 h2 h3 h4;have hb2:=Blk.new (w.alloc (.cells #[t] 3)) 3 #[U1,U2,U3];rw[World.size_alloc] at hb2;have HIS:=hD (lK (t:=t) (zs:=[1,2,3]) ((Blk.new w 3 #[t]).alloc (.cells #[U1,U2,U3] 3)) hb2 (by decide));have FF:Hd (Fr nob w ((w.alloc (.cells #[t] 3)).alloc (.cells #[U1,U2,U3] 3))):=((fR w).alloc _).alloc _;obtain⟨z,hz⟩:∃z,([1,2,3]:List Int).contains (t:Int)=z:=⟨_,rfl⟩;rw[hz] at HIS;have HZ:=hD hz;clear hz hb2;go_enter func208,ntmps208;go_wp2_with fail
   refine HIS.o.mono ?_;rintro en w2 ⟨rfl,hw⟩;subst hw;cases z
   . go_wp2
     go_ret;refine⟨?_,FF⟩;have hz:=HZ.o;have:R=0:=by rw[<-HR.o];simp only[List.contains_cons,List.contains_nil,Bool.or_false,beq_iff_eq,Bool.or_eq_true,Bool.or_eq_false_iff,beq_eq_false_iff_ne,ne_eq] at hz;unfold bL;(try simp);(try omega)
     rw[this];rfl
   . go_wp2
     go_ret;refine⟨?_,FF⟩;have hz:=HZ.o;have:R=2:=by rw[<-HR.o];simp only[List.contains_cons,List.contains_nil,Bool.or_false,beq_iff_eq,Bool.or_eq_true,Bool.or_eq_false_iff,beq_eq_false_iff_ne,ne_eq] at hz;unfold bL;(try simp);(try omega)
     rw[this];rfl
 by_cases h6:y=[43]
 . subst h6
   have e0:((bs [43]).toList==[124,124])=false:=by kernel_rfl
   have e1:((bs [43]).toList==[38,38])=false:=by kernel_rfl
   have e2:((bs [43]).toList==[60])=false:=by kernel_rfl
   have e3:((bs [43]).toList==[60,61])=false:=by kernel_rfl
   have e4:((bs [43]).toList==[61,61])=false:=by kernel_rfl
   have e5:((bs [43]).toList==[33,61])=false:=by kernel_rfl
   have e6:((bs [43]).toList==[43])=true:=by kernel_rfl
   clear h0 h1 h2 h3 h4 h5;have hb2:=Blk.new (w.alloc (.cells #[t] 3)) 3 #[U1,U3];rw[World.size_alloc] at hb2;have HIS:=hD (lK (t:=t) (zs:=[1,3]) ((Blk.new w 3 #[t]).alloc (.cells #[U1,U3] 3)) hb2 (by decide));have FF:Hd (Fr nob w ((w.alloc (.cells #[t] 3)).alloc (.cells #[U1,U3] 3))):=((fR w).alloc _).alloc _;obtain⟨z,hz⟩:∃z,([1,3]:List Int).contains (t:Int)=z:=⟨_,rfl⟩;rw[hz] at HIS;have HZ:=hD hz;clear hz hb2;go_enter func208,ntmps208;go_wp2_with fail
   refine HIS.o.mono ?_;rintro en w2 ⟨rfl,hw⟩;subst hw;cases z
   . go_wp2
     go_ret;refine⟨?_,FF⟩;have hz:=HZ.o;have:R=0:=by rw[<-HR.o];simp only[List.contains_cons,List.contains_nil,Bool.or_false,beq_iff_eq,Bool.or_eq_true,Bool.or_eq_false_iff,beq_eq_false_iff_ne,ne_eq] at hz;unfold bL;(try simp);(try omega)
     rw[this];rfl
   . go_wp2
     go_ret;refine⟨?_,FF⟩;have hz:=HZ.o;have:R=t:=by rw[<-HR.o];simp only[List.contains_cons,List.contains_nil,Bool.or_false,beq_iff_eq,Bool.or_eq_true,Bool.or_eq_false_iff,beq_eq_false_iff_ne,ne_eq] at hz;unfold bL;(try simp);(try omega)
     rw[this];rfl
 have e0:((bs y).toList==[124,124])=false:=by rw[mZ];exact bN.2 h0
 have e1:((bs y).toList==[38,38])=false:=by rw[mZ];exact bN.2 h1
 have e2:((bs y).toList==[60])=false:=by rw[mZ];exact bN.2 h2
 have e3:((bs y).toList==[60,61])=false:=by rw[mZ];exact bN.2 h3
 have e4:((bs y).toList==[61,61])=false:=by rw[mZ];exact bN.2 h4
 have e5:((bs y).toList==[33,61])=false:=by rw[mZ];exact bN.2 h5
 have e6:((bs y).toList==[43])=false:=by rw[mZ];exact bN.2 h6
 have H9:=hD (And.intro h0 (And.intro h1 (And.intro h2 (And.intro h3 (And.intro h4 (And.intro h5 h6))))));clear h0 h1 h2 h3 h4 h5 h6;have hb2:=Blk.new (w.alloc (.cells #[t] 3)) 3 #[U1];rw[World.size_alloc] at hb2;have HIS:=hD (lK (t:=t) (zs:=[1]) ((Blk.new w 3 #[t]).alloc (.cells #[U1] 3)) hb2 (by decide));have FF:Hd (Fr nob w ((w.alloc (.cells #[t] 3)).alloc (.cells #[U1] 3))):=((fR w).alloc _).alloc _;obtain⟨z,hz⟩:∃z,([1]:List Int).contains (t:Int)=z:=⟨_,rfl⟩;rw[hz] at HIS;have HZ:=hD hz;clear hz hb2;go_enter func208,ntmps208;go_wp2_with fail
 refine HIS.o.mono ?_;rintro en w2 ⟨rfl,hw⟩;subst hw;cases z
 . go_wp2
   go_ret;refine⟨?_,FF⟩;have hz:=HZ.o;have:R=0:=by rw[<-HR.o];simp only[List.contains_cons,List.contains_nil,Bool.or_false,beq_iff_eq,Bool.or_eq_true,Bool.or_eq_false_iff,beq_eq_false_iff_ne,ne_eq] at hz;unfold bL;obtain⟨q0,q1,q2,q3,q4,q5,q6⟩:=H9.o;simp only[q0,q1,q2,q3,q4,q5,q6,ne_eq,not_true_eq_false,or_self,if_false];(try simp);(try omega);(try (split<;>omega))
   rw[this];rfl
 . go_wp2
   go_ret;refine⟨?_,FF⟩;have hz:=HZ.o;have:R=t:=by rw[<-HR.o];simp only[List.contains_cons,List.contains_nil,Bool.or_false,beq_iff_eq,Bool.or_eq_true,Bool.or_eq_false_iff,beq_eq_false_iff_ne,ne_eq] at hz;unfold bL;obtain⟨q0,q1,q2,q3,q4,q5,q6⟩:=H9.o;simp only[q0,q1,q2,q3,q4,q5,q6,ne_eq,not_true_eq_false,or_self,if_false];(try simp);(try omega);(try (split<;>omega))
   rw[this];rfl
structure KqT (G:Geo) (w:World) (R:CkR (Nat×CkS)) (zs:List Nat) (k t:Nat):Prop where
 st:KqM G w (R.map (·.2)) zs k
 val:∀t' s',R = .good (t',s')->t=t'
def iE (F:Nat) (G:Geo) (zs:List Nat) (k x:Nat) (ex:CkS->CkR (Nat×CkS)):Prop:=∀(w:World) (r:CkR CkS),KqM G w r zs k->Calls prog F #[(G.g,()),x] w λen w'=>∃t:Nat,en = .returned t∧KqT G w' (r.bind ex) zs k t∧FrK G w w'
section
variable {G:Geo}{w w':World}{s:CkS}{r:CkR CkS}{zs:List Nat}{k e p:Nat}
theorem KqM.named (hx:G.ns[x]?=some nd):iE 169 G zs k x (aU x nd.name):=λw r h=>by
 obtain⟨s,e,p,h,hm⟩:=h.open_;refine (aEb h hx).mono ?_;rintro en w' ⟨rfl,h1,hf⟩;refine⟨_,rfl,⟨?_,λt' s' hr=>?_⟩,hf⟩
 . rcases hm with ⟨rfl,rfl,rfl⟩|⟨h0,h9,rfl⟩
   . unfold aU
     simp only[CkR.aC];cases hv:dV s.vars nd.name with
     | none=>rw[hv] at h1;rw[if_pos ⟨rfl,rfl⟩,if_pos ⟨rfl,rfl⟩] at h1;exact⟨by decide,by decide,_,h1⟩
     | some v=>rw[hv] at h1;rw[if_neg (by simp),if_neg (by simp)] at h1;exact h1
   . rw[if_neg (λx=>h0 x.2),if_neg (λx=>h0 x.2)] at h1
     exact⟨h0,h9,_,h1⟩
 . rcases hm with ⟨rfl,rfl,rfl⟩|⟨h0,h9,rfl⟩
   . unfold aU at hr
     simp only[CkR.aC] at hr;cases hv:dV s.vars nd.name with
     | none=>rw[hv] at hr;cases hr
     | some v=>rw[hv] at hr;injection hr with hr;injection hr with hr _
   . cases hr
structure aOo (G:Geo) (w0 w:World) (R:CkR (List Nat×CkS)) (zs:List Nat) (k n:Nat) (v:Value) (ts:List Nat):Prop where
 st:KqM G w (R.map (·.2)) zs k
 val:∀t' s',R = .good (t',s')->ts=t'
 own:Own w 3 1 v n (ints ts)
 new:∀b,blk v=some b->w0.heap.size<=b
theorem nL (ex:Nat->CkS->CkR (Nat×CkS)) (a:Nat):∀(l:List Nat) (s:CkS),bF ex (l++[a]) s=(bF ex l s).bind λr=>(ex a r.2).map λq=>(r.1++[q.1],q.2)
 | [],s=>by
  show (ex a s).bind _=_
  rw[show bF ex [] s = .good ([],s) from rfl];simp only[CkR.aC];cases ex a s<;>rfl
 | b :: l,s=>by
  rw[List.cons_append]
  show (ex b s).bind _=((ex b s).bind _).bind _
  cases ex b s with
  | bad e p=>rfl
  | good q=>
   simp only[CkR.aC];rw[nL ex a l q.2];cases bF ex l q.2 with
   | bad e p=>rfl
   | good u=>
    simp only[CkR.aC,CkR.bO];cases ex a u.2<;>rfl
theorem aOo.zero (h:KqM G w r zs k) (w0:World) (ex:Nat->CkS->CkR (Nat×CkS)):aOo G w0 w (r.bind (bF ex [])) zs k 0 Un []:=by
 refine⟨?_,λt' s' hr=>?_,Own.nil _ _ _,λb hb=>by simp[blk] at hb⟩
 . cases r with
   | bad e p=>exact h
   | good s=>exact h
 . cases r with
   | bad e p=>cases hr
   | good s=>injection hr with hr;injection hr with hr _
theorem aOo.step {a t:Nat}{v:Value}{ts:List Nat}{w0 w1 w2:World} (h:aOo G w0 w (r.bind (bF ex l)) zs k n v ts) (hl:n=l.length) (ht:KqT G w1 (((r.bind (bF ex l)).map (·.2)).bind (ex a)) zs k t) (h0:FrK G w0 w) (hf:FrK G w w1) (hz:G.Z<=w0.heap.size)
   {f0:World} (hal:Fr nob w1 f0) (ho:Own w2 3 1 (.slice A (n+1) c) (n+1) (ints ts++[.int .i64 (t:Nat)])) (hf2:Fr (obl (blk v)) f0 w2) (hv:blk (.slice A (n+1) c)=blk v∨blk (.slice A (n+1) c)=some f0.heap.size):
   aOo G w0 w2 (r.bind (bF ex (l++[a]))) zs k (n+1) (.slice A (n+1) c) (ts++[t])∧FrK G w0 w2:=by
 have h1:∀b,obl (blk v) b->G.Z<=b:=λb hb=>Nat.le_trans hz (h.new b hb)
 have ge:=ht.st.open_;obtain⟨s1,e1,p1,hk1,_⟩:=ge;have e:((r.bind (bF ex (l++[a]))).map (·.2))=((((r.bind (bF ex l)).map (·.2)).bind (ex a)).map (·.2)):=by
   cases r with
   | bad e p=>rfl
   | good s=>
     simp only[CkR.aC];rw[nL];cases bF ex l s with
     | bad e p=>rfl
     | good q=>
      simp only[CkR.aC,CkR.bO];cases ex a q.2<;>rfl
 refine⟨⟨?_,λt' s' hr=>?_,?_,λb hb=>?_⟩,?_⟩
 . rw[e]
   exact (ht.st.no hal).other (M:=obl (blk v)) hf2 (λb hb hlt=>⟨h1 b hb,λhvt=>by
     obtain⟨cs,f,hc⟩:=hvt;have ho1:=h.own;obtain⟨cs2,hc2⟩:=ho1.ty hb;have:Blk f0 b 3 cs2:=(FrK.far hf hc2 (λe=>by have:=h1 b hb;have:=hk1.geo.lg;omega) (λe=>by have:=h1 b hb;have:=hk1.geo.lt;omega) (λe=>by have:=h1 b hb;have:=hk1.geo.ls;omega) (λe=>by have:=h1 b hb;have:=hk1.geo.lf;omega) (by decide)).fr hal (λx=>x);unfold Blk at this;rw[this] at hc;injection hc with hc;injection hc with _ hc;exact absurd hc (by decide)⟩)
 . cases r with
   | bad e p=>cases hr
   | good s=>
     simp only[CkR.aC] at hr;rw[nL] at hr;obtain⟨q,g1,hr⟩:=CkR.bind_eq hr;obtain⟨u,g2,hr⟩:=CkR.map_eq hr;injection hr with hr _;subst hr;have a1:=h.val q.1 q.2 (by simp only[CkR.aC];rw[g1]);have a2:=ht.val u.1 u.2 (by simp only[CkR.aC];rw[g1];simp only[CkR.bO,CkR.aC];rw[g2]);rw[a1,a2]
 . unfold ints at ho ⊢
   rw[List.map_append];exact ho
 . rcases hv with e|e
   . exact h.new b (e ▸ hb)
   . rw[e] at hb;injection hb with hb
     have:=h0.size;have:=hf.size;have:=hal.size;omega
 . exact Fr.trans ((h0.trans hf).trans (FrK.no hal)) hf2 (λ_ _ x=>x) (λb hlt hb=>by have:=h.new b hb;omega)
theorem iB {kind:Nat} (hex:∀a∈l,iE 170 G zs k a (ex a)) (h:KqM G w r zs k) (hl:Own w 3 1 (.slice A l.length c) l.length (ints l)) (hlow:∀b,blk (.slice A l.length c)=some b->b<G.B) (h300:l.length<=300):
  Calls prog 171 #[(G.g,()),.agg #[kind,line,n,bs nm,.slice A l.length c]] w λen w'=>∃A' c' ts,en = .returned (.slice A' l.length c')∧aOo G w w' (r.bind (bF ex l)) zs k l.length (.slice A' l.length c') ts∧FrK G w w':=by
 have hgeo:=h.geo;have hzle:G.Z<=w.heap.size:=by obtain⟨s,e,p,h,_⟩:=h.open_;exact h.zle
 have FA:Hd (Fr nob w (w.alloc (.cells #[kind,line,n,bs nm,.slice A l.length c] 50))):=(fR w).alloc _;have B0:=hD (Blk.new w 50 #[kind,line,n,bs nm,.slice A l.length c]);have S0:=hD (aOo.zero (h.no FA) w ex);have O0:=hD (hl.fr FA (λ_ _ x=>x));have HEX:=hD hex;have HLO:=hD hlow;have HG:=hD hgeo;have HZ:=hD hzle;obtain⟨m,hm⟩:∃m,l.length=m:=⟨_,rfl⟩;have OW:=hD hl;rw[hm] at O0 B0 FA HLO OW S0 ⊢;have HM:=hD hm;have hm3:(m:Int)<=300:=by omega
 have hm4:m<=300:=by omega
 clear h hl hlow hex h300 hgeo hzle hm;go_enter func171,ntmps171;go_wp2_with fail
 generalize w.alloc (.cells #[kind,line,n,bs nm,.slice A m c] 50)=w1 at *;go_loopw [5,11] (λv i wr=>∃(j:Nat) (A':Option Addr) (c':Nat) (ts:List Nat),j<=m∧v = .slice A' j c'∧i = .int .i64 j∧Hd (aOo G w wr (r.bind (bF ex (l.take j))) zs k j (.slice A' j c') ts)∧Hd (FrK G w wr)) (λ_ i _=>m - (intOf i).toNat)
 case atStart=>exact⟨0,none,0,[],aA4 _,rfl,rfl,S0,hD (FrK.no FA)⟩
 case round=>
  clear S0;obtain⟨j,A',c',ts,hj,rfl,rfl,S,F⟩:=hrel;by_cases hlt:j<m
  . obtain⟨a,ha⟩:∃a,l[j]?=some a:=⟨_,gE (by have:=HM.o;omega)⟩
    have G1:=HG.o;have OR:=F.o.own OW (by decide) (λb hb=>by have:=HLO.o b hb;have:=G1.hg;have:=G1.ht;have:=G1.hs;have:=G1.hf;omega);obtain⟨kb,rfl,hcell⟩:=OR.some (by omega);have k0:=hcell j a (by unfold ints;rw[List.getElem?_map,ha];rfl);have HC:=hD (HEX a (List.mem_of_getElem? ha) _ _ S.o.st);have HT:=hD (show l.take (j+1)=l.take j++[a] from by rw[List.take_add_one,ha];rfl);have hlt2:(j:Int)<(m:Int):=by omega
    have HJ:=hD hlt;have HL:=hD (show j=(l.take j).length from by rw[List.length_take];have:=HM.o;omega);clear OR hcell ha hlt hj G1;go_wp2_with fail
    refine HC.o.mono ?_;rintro en w2 ⟨t,rfl,ht,hf⟩;have OS:Hd (Own (w2.alloc (.cells #[t] 3)) 3 1 (.slice A' j c') j (ints ts)):=(hf.own S.o.own (by decide) (λb hb=>by have:=S.o.new b hb;have:=HZ.o;have G1:=HG.o;have:=G1.lg;have:=G1.lt;have:=G1.ls;have:=G1.lf;omega)).alloc _;have RD:Hd (Rd (w2.alloc (.cells #[t] 3)) 1 (w2.heap.size,1,1) 1 [t]):=Rd.eZ (n:=1) (cs:=[t]) (Blk.new w2 _ _) rfl (by decide);have TT:=hD ht;have FF:=hD hf;clear ht hf HC k0;go_wp2_with (at_builtin;revert HJ)
    intro HJ;refine aL (v:= .slice A' j c') (n:=j) (m:=1) (xs:=ints ts) (news:=[t]) rfl _ _ rfl gW rfl rfl OS RD (by simp[Value.oneCell']) (by omega) (by unfold maxLen;omega) ?_;intro A3 c3 w3 ho3 hf3 hv3;have X:=S.o.step HL TT F FF HZ ((fR w2).alloc (.cells #[t] 3)) ho3 hf3 hv3;have X1:=hD X.1;have X2:=hD X.2;clear ho3 hf3 hv3 X S F TT FF OS RD;go_wp2
    go_roundw
    case rel=>exact⟨j+1,A3,c3,_,by have:=HJ.o;omega,rfl,by go_num,by rw[HT.o];exact X1,X2⟩
    case measure=>simp[intOf];have:=HJ.o;omega
  . have hjm:j=m:=by omega
    subst hjm;have hlt2:¬(j:Int)<(j:Int):=by omega
    have HT:Hd (l.take j=l):=aA5 (by have:=HM.o;omega);clear hlt hj;go_wp2
    go_ret;have Q:=S.o;rw[HT.o] at Q
    first|exact⟨_,_,_,rfl,Q,F⟩|exact⟨_,_,rfl,⟨_,Q⟩,F⟩|exact⟨_,_,rfl,⟨_,Q,F⟩⟩
end
theorem mQ (ex:Nat->CkS->CkR (Nat×CkS)) (a:Nat):∀(l:List Nat) (s:CkS),bF ex (l++[a]) s=(bF ex l s).bind λr=>(ex a r.2).map λq=>(r.1++[q.1],q.2)
 | [],s=>by
  show (ex a s).bind _=_
  rw[show bF ex [] s = .good ([],s) from rfl];simp only[CkR.aC];cases ex a s<;>rfl
 | b :: l,s=>by
  rw[List.cons_append]
  show (ex b s).bind _=((ex b s).bind _).bind _
  cases ex b s with
  | bad e p=>rfl
  | good q=>
   simp only[CkR.aC];rw[mQ ex a l q.2];cases bF ex l q.2 with
   | bad e p=>rfl
   | good u=>
    simp only[CkR.aC,CkR.bO];cases ex a u.2<;>rfl
theorem aKo {e p:Nat}:∀(l m:List Nat) (s:CkS),bF ex l s = .bad e p->bF ex (l++m) s = .bad e p:=by
 intro l m;induction m generalizing l with
 | nil=>intro s h;rw[List.append_nil];exact h
 | cons a m ih=>
  intro s h;have:l++a :: m=(l++[a])++m:=by simp
  rw[this];exact ih (l++[a]) s (by rw[mQ,h];rfl)
theorem zC:∀(l:List Nat) (s:CkS){q:List Nat×CkS},bF ex l s = .good q->q.1.length=l.length
 | [],s,q,h=>by injection h with h;subst h;rfl
 | a :: l,s,q,h=>by
  obtain⟨u,h1,h⟩:=CkR.bind_eq h;obtain⟨v,h2,h⟩:=CkR.map_eq h;subst h;have:=zC l _ h2;simp[this]
def eU (q:CkR (List Nat×CkS)) (ps:List Nat) (x i:Nat):CkR CkS:=
 q.bind λr=>if r.1.length≠ps.length then .bad 43 x else if r.1.take i≠ps.take i then .bad 42 x else .good r.2
theorem uE (h:∀r,q = .good r->r.1.length=ps.length):q.map (·.2)=eU q ps x 0:=by
 cases q with
 | bad e p=>rfl
 | good r=>simp[eU,h r rfl]
theorem uD (h:∀r,q = .good r->r.1.length≠ps.length):((q.map (·.2)).bind λ_=>CkR.bad 43 x)=eU q ps x 0:=by
 cases q with
 | bad e p=>rfl
 | good r=>simp[eU,h r rfl]
theorem tJ {b:Bool} (h:∀r,q = .good r->i<r.1.length->i<ps.length->b=decide (r.1[i]?=ps[i]?)) (hi:∀r,q = .good r->i<r.1.length):
  ((eU q ps x i).bind λs=>if b=true then CkR.good s else .bad 42 x)=eU q ps x (i+1):=by
 cases q with
 | bad e p=>rfl
 | good r=>
  simp only[eU,CkR.aC];by_cases hl:r.1.length=ps.length
  . have hl1:¬(r.1.length≠ps.length):=by simpa using hl
    rw[if_neg hl1,if_neg hl1];have hir:=hi r rfl;have hb:=h r rfl hir (by omega);have e1:r.1.take (i+1)=r.1.take i++[r.1[i]]:=by rw[List.take_add_one,gE hir];rfl
    have e2:ps.take (i+1)=ps.take i++[ps[i]'(by omega)]:=by rw[List.take_add_one,gE (by omega:i<ps.length)];rfl
    rw[gE hir,gE (by omega:i<ps.length)] at hb;by_cases ht:r.1.take i=ps.take i
    . have ht1:¬(r.1.take i≠ps.take i):=by simpa using ht
      rw[if_neg ht1,CkR.aC,hb];by_cases hv:r.1[i]=ps[i]'(by omega)
      . have h1:¬(r.1.take (i+1)≠ps.take (i+1)):=by rw[e1,e2,ht,hv];simp
        rw[if_neg h1,decide_eq_true (by rw[hv])];simp
      . have h1:r.1.take (i+1)≠ps.take (i+1):=by
         intro h9;rw[e1,e2] at h9;exact hv (by simpa using List.append_inj_right' h9 rfl)
        rw[if_pos h1,decide_eq_false (by simpa using hv)];simp
    . have h1:r.1.take (i+1)≠ps.take (i+1):=by
        intro h9;rw[e1,e2] at h9;exact ht (List.append_inj_left' h9 rfl)
      rw[if_pos h1,if_pos ht,CkR.wV]
  . rw[if_pos hl,if_pos hl,CkR.wV]
theorem aGc {e p:Nat} (h:eU q ps x i = .bad e p){m:Nat} (hm:i<=m):eU q ps x m = .bad e p:=by
 cases q with
 | bad e p=>exact h
 | good r=>
  simp only[eU,CkR.aC] at h ⊢;split at h
  . rename_i h1;rw[if_pos h1];exact h
  . rename_i h1
    rw[if_neg h1];split at h
    . rename_i h2
      rw[if_pos]
      . exact h
      . intro h3
        apply h2
        have:=congrArg (List.take i) h3;rw[List.take_take,List.take_take,Nat.min_eq_left hm] at this;exact this
    . cases h
theorem aGb {ps:List (List UInt8×Nat)} (h:∀r,q = .good r->r.1.length<=i):
  eU q (ps.map (·.2)) x i=(q.bind λr=>if r.1.length≠ps.length then CkR.bad 43 x else if r.1≠ps.map (·.2) then .bad 42 x else .good (T,r.2)).map (·.2):=by
 cases q with
 | bad e p=>rfl
 | good r=>
  have hr:=h r rfl;simp only[eU,CkR.aC,List.length_map];by_cases hl:r.1.length=ps.length
  . have hl1:¬(r.1.length≠ps.length):=by simpa using hl
    rw[if_neg hl1,if_neg hl1,aA5 hr,aA5 (by rw[List.length_map];omega)];split<;>rfl
  . rw[if_pos hl,if_pos hl];rfl
theorem vN {ps:List (List UInt8×Nat)}{u:Nat×CkS} (h:(q.bind λr=>if r.1.length≠ps.length then CkR.bad 43 x else if r.1≠ps.map (·.2) then .bad 42 x else .good (T,r.2)) = .good u):u.1=T:=by
 obtain⟨r,_,h⟩:=CkR.bind_eq h;split at h
 . cases h
 . split at h
   . cases h
   . injection h with h;subst h;rfl
theorem aGa {b:Bool} (h:∀r,q = .good r->b=decide (r.1.length=ps.length)):((q.map (·.2)).bind λs=>if b=true then CkR.good s else .bad 43 x)=eU q ps x 0:=by
 cases q with
 | bad e p=>rfl
 | good r=>
  have:=h r rfl;simp only[eU,CkR.bO,CkR.aC,this,decide_eq_true_eq];by_cases hl:r.1.length=ps.length<;>simp[hl]
def aQz (o:Option Nat):Int:=match o with|some j=>(j:Int)|none=> -1
theorem aPr {q:aG->Bool}{j:Nat}{f:aG} (h:∀g∈fs.take j,q g=false) (hf:fs[j]?=some f) (hq:q f=true):fs.findIdx? q=some j:=by
 obtain⟨hlt,hfe⟩:=List.getElem?_eq_some_iff.1 hf;rw[List.findIdx?_eq_some_iff_getElem];refine⟨hlt,by rw[hfe];exact hq,λi hi=>?_⟩;have:=h fs[i] (by rw[List.mem_take_iff_getElem];exact⟨i,by omega,rfl⟩);simpa using this
theorem aMv {q:aG->Bool} (h:∀g∈fs,q g=false):fs.findIdx? q=none:=by
 rw[List.findIdx?_eq_none_iff];exact λg hg=>h g hg
theorem aJi {F:Nat}{caps:Array Value}{q:aG->Bool}{w:World}{pvs:List Value} (hen:Enters prog F)
  (hone:∀(f:aG) (PA:Option Addr) (PC:Nat) (w':World),f∈fs->Fr nob w w'->Calls prog F (#[.agg #[bs f.name,f.line,.slice PA f.params.length PC,f.ret,f.body]]++caps) w' λen w2=>en = .returned (q f)∧Fr nob w' w2)
  (ho:Own w 48 5 (.slice A fs.length c) fs.length (dB fs pvs)) (hp:dG w fs pvs) (hs:fs.length=pvs.length):
  Calls prog 42 #[.slice A fs.length c,.func (.func F) #[] caps] w λe w'=>e = .returned (aQz (fs.findIdx? q))∧Fr nob w w':=by
 have O:=hD ho;have HP:=hD hp;have HS:=hD hs;have HONE:=hD hone;obtain⟨A2,c2,hv,hc1,hc2⟩:=ho.cap;simp only[Value.slice.injEq,true_and] at hv;obtain⟨hv1,hv2⟩:=hv;subst hv1;subst hv2;have hml:(fs.length:Int)<=9223372036854775807:=by unfold maxLen at hc2;omega
 generalize hm:fs.length=m at *;have HMM:=hD hm;obtain⟨Z,hZ⟩:∃Z,aQz (fs.findIdx? q)=Z:=⟨_,rfl⟩;rw[hZ];have HZ:=hD hZ;clear ho hp hs hm hc1 hc2 hone hZ;go_enter func42,ntmps42;go_wp2
 go_loopw [8] (λi wr=>∃j:Nat,j<=m∧i = .int .i64 j∧Hd (∀g∈fs.take j,q g=false)∧Hd (Fr nob w wr)) (λi _=>m - (intOf i).toNat)
 case atStart=>exact⟨0,aA4 _,rfl,hD (by simp),hD (Fr.refl _ _)⟩
 case round=>
  obtain⟨j,hj,rfl,HA,F⟩:=hrel;by_cases hlt:j<m
  . have hlt2:(j:Int)<(m:Int):=by omega
    have hlf:j<fs.length:=by rw[HMM.o];exact hlt
    obtain⟨f,hf⟩:∃f,fs[j]?=some f:=⟨_,gE hlf⟩;obtain⟨pv,hpv⟩:∃pv,pvs[j]?=some pv:=⟨_,gE (by have:=HS.o;have:=HMM.o;omega)⟩;obtain⟨PA,PC,rfl,_,_⟩:=(HP.o.get hf hpv).cap;have ho:=O.o.fr F (λ_ _ x=>x);rw[<-HMM.o] at ho;obtain⟨fb,rfl,hcell⟩:=ho.some (by omega);have e0:=hcell (j*5+0) _ (dI hf hpv 0 _ rfl);have e1:=hcell (j*5+1) _ (dI hf hpv 1 _ rfl);have e2:=hcell (j*5+2) _ (dI hf hpv 2 _ rfl);have e3:=hcell (j*5+3) _ (dI hf hpv 3 _ rfl);have e4:=hcell (j*5+4) _ (dI hf hpv 4 _ rfl);rw[Nat.add_zero] at e0;have HC:=hD (HONE f PA PC wr (List.mem_of_getElem? hf) F);have HF:=hD hf;obtain⟨z,hz⟩:∃z,q f=z:=⟨_,rfl⟩;rw[hz] at HC;have HQ:=hD hz;clear hf hpv hcell ho hlf hz;cases z with
    | true=>
     go_wp2_with fail
     rw[hen];go_wp2_with fail
     refine HC.o.mono ?_;rintro e w2 ⟨rfl,hf2⟩;have F2:=hD (F.o.tr hf2);clear hf2;go_wp2
     go_ret;refine⟨?_,F2⟩;have h1:aQz (fs.findIdx? q)=(j:Int):=by rw[aPr HA.o HF.o HQ.o];rfl
     rw[<-HZ.o,h1];rfl
    | false=>
     have HA2:=hD (show ∀g∈fs.take (j+1),q g=false from λg hg=>by
      rw[List.take_add_one,HF.o] at hg;rcases List.mem_append.1 hg with hg|hg
      . exact HA g hg
      . simp at hg;subst hg;exact HQ)
     go_wp2_with fail
     rw[hen];go_wp2_with fail
     refine HC.o.mono ?_;rintro e w2 ⟨rfl,hf2⟩;have F2:=hD (F.o.tr hf2);clear hf2 e0 e1 e2 e3 e4 HC HA;go_wp2
     go_roundw
     case rel=>exact⟨j+1,by omega,by go_num,HA2,F2⟩
     case measure=>simp[intOf];omega
  . have hlt2:¬(j:Int)<(m:Int):=by omega
    have hj2:j=m:=by omega
    subst hj2;clear hj hlt;go_wp2
    go_ret;refine⟨?_,F⟩;have h1:aQz (fs.findIdx? q) = -1:=by
     rw[aMv (λg hg=>HA.o g (by rw[aA5 (by have:=HMM.o;omega)];exact hg))];rfl
    rw[<-HZ.o,h1];rfl
section
variable {G:Geo}{w w':World}{s:CkS}{r:CkR CkS}{zs:List Nat}{k e p:Nat}
theorem wR:Enters prog 226:=enters_of func226 (by kernel_rfl) rfl
theorem aEi {w:World}{k:Nat}{kv:Value} (hb:Blk w T 50 #[k,line,n,bs nm,kv]) (f:aG) (PA:Option Addr) (PC:Nat):
  Calls prog 226 #[.agg #[bs f.name,f.line,.slice PA f.params.length PC,f.ret,f.body],(T,())] w λen w2=>en = .returned (.bool (decide (f.name=nm)))∧Fr nob w w2:=by
 have n3:w.cell? (T,3)=(bs nm):=(hb.cell 3).trans rfl;have tlt:=hb.lt;have tn:¬T=w.heap.size:=by omega
 obtain⟨z,hz⟩:∃z,decide (f.name=nm)=z:=⟨_,rfl⟩;have e1:((bs f.name).toList==(bs nm).toList)=z:=by rw[aKj,hz]
 rw[hz];clear hb hz;generalize f.params.length=pl;go_enter func226,ntmps226;go_wp2
 go_ret;exact⟨rfl,(fR w).alloc _⟩
theorem KqM.fns (h:KqM G w r zs k):∃fb fc,w.cell? ⟨G.g,3,none⟩=some (.slice (some ⟨fb,0,none⟩) G.fs.length fc)∧Own w 48 5 (.slice (some ⟨fb,0,none⟩) G.fs.length fc) G.fs.length (dB G.fs G.pvs)∧fb<G.B∧dG w G.fs G.pvs∧G.fs.length=G.pvs.length∧G.g<w.heap.size:=by
 obtain⟨s,e,p,h0,_⟩:=h.open_;obtain⟨zv,vv,-,c3,-⟩:=h0.cells;have hk:=h0.kk;have hT:=h0.tree;obtain⟨A,c,e1,hc,_⟩:=hT.tree.fns.cap;have hno:=hT.tree.fns;rw[e1] at hno;obtain⟨fb,e2,hcell⟩:=hno.some (by omega);subst e2;refine⟨fb,c,by rw[<-e1];exact c3,hno,?_,hT.tree.pars,hT.tree.samef,h0.jK⟩;have:=hT.hf fb (by rw[e1];simp[blk];omega);exact this
end
section
variable {G:Geo}{w w':World}{s:CkS}{r:CkR CkS}{zs:List Nat}{k e p:Nat}{ex:Nat->CkS->CkR (Nat×CkS)}
theorem aFx (h:findF G.fs nd.name=none):r.bind (kV G.fs ex x nd)=r.bind λ_=> .bad 40 x:=by
 cases r with
 | bad e p=>rfl
 | good s=>unfold kV;simp only[CkR.aC];rw[h]
theorem aFw {q:Nat}{f:aG} (h:findF G.fs nd.name=some q) (hf:G.fs[q]?=some f):r.bind (kV G.fs ex x nd)=(r.bind (bF ex nd.l)).bind λr=>if r.1.length≠(f.params.map (·.2)).length then .bad 43 x else if r.1≠f.params.map (·.2) then .bad 42 x else .good (f.ret,r.2):=by
 cases r with
 | bad e p=>rfl
 | good s=>
  unfold kV;simp only[CkR.aC];rw[h];simp only[hf,Option.map_some,Option.getD_some,List.length_map]
theorem aBi (h:∀r,q = .good r->r.1.length=ps.length->ps.length<=i):
  (q.bind λr=>if r.1.length≠ps.length then CkR.bad 43 x else if r.1≠ps then .bad 42 x else .good (T,r.2)).map (·.2)=eU q ps x i:=by
 cases q with
 | bad e p=>rfl
 | good r=>
  simp only[eU,CkR.aC];by_cases hl:r.1.length=ps.length
  . have hl1:¬(r.1.length≠ps.length):=by simpa using hl
    have:=h r rfl hl;rw[if_neg hl1,if_neg hl1,aA5 (by omega),aA5 (by omega)];split<;>rfl
  . rw[if_pos hl,if_pos hl];rfl
theorem aBh {u:Nat×CkS} (h:(q.bind λr=>if r.1.length≠ps.length then CkR.bad 43 x else if r.1≠ps then .bad 42 x else .good (T,r.2)) = .good u):u.1=T:=by
 obtain⟨r,_,h⟩:=CkR.bind_eq h;split at h
 . cases h
 . split at h
   . cases h
   . injection h with h;subst h;rfl
theorem aHw (hex:∀a∈l,iE 170 G zs k a (ex a)) (h:KqM G w r zs k) (hl:Own w 3 1 (.slice A l.length c) l.length (ints l)) (hlow:∀b,blk (.slice A l.length c)=some b->b<G.B) (h300:l.length<=300) (hx:x<=300):
  Calls prog 207 #[(G.g,()),.agg #[(21:Int),line,U0,bs nm,.slice A l.length c],x] w λen w'=>∃t:Nat,en = .returned t∧KqT G w' (r.bind (kV G.fs ex x ⟨21,line,0,nm,l⟩)) zs k t∧FrK G w w':=by
 have hgeo:=h.geo;have FA:Hd (Fr nob w (w.alloc (.cells #[(21:Int),line,U0,bs nm,.slice A l.length c] 50))):=(fR w).alloc _;have B0:=hD (Blk.new w 50 #[(21:Int),line,U0,bs nm,.slice A l.length c]);have S0:=hD (h.no FA);have O0:=hD (hl.fr FA (λ_ _ x=>x));obtain⟨fb,fc,c3,ho,hfb,hpar,hsame,glt⟩:=S0.o.fns;have gn:¬G.g=w.heap.size:=by obtain⟨s,e,p,h0,_⟩:=h.open_;have:=h0.jK;omega
 have e2:=λ(f:aG) (PA:Option Addr) (PC:Nat) (w':World) (hf:Fr nob (w.alloc (.cells #[(21:Int),line,U0,bs nm,.slice A l.length c] 50)) w')=>aEi (B0.o.fr hf (λx=>x)) f PA PC
 have HI:=hD (aJi (caps:=#[(w.heap.size,())]) (q:=λf=>decide (f.name=nm)) wR (λf PA PC w' _ hf=>e2 f PA PC w' hf) ho hpar hsame);have HEX:=hD hex;have HLO:=hD hlow;have HG:=hD hgeo;have H3:=hD h300;have HZL:=hD (show G.Z<=w.heap.size from by obtain⟨s,e,p,h,_⟩:=h.open_;exact h.zle);obtain⟨Z,hZ⟩:∃Z,aQz (G.fs.findIdx? λf=>decide (f.name=nm))=Z:=⟨_,rfl⟩;rw[hZ] at HI;have HZ:=hD hZ;obtain⟨b,hb⟩:∃b,decide (0<=Z)=b:=⟨_,rfl⟩;clear h hl hlow hex h300 hgeo ho hpar hsame hZ e2;go_enter func207,ntmps207;go_wp2_with fail
 refine HI.o.mono ?_;rintro en w2 ⟨rfl,hf⟩;have S2:=hD (S0.o.no hf);have F2:Hd (FrK G w w2):=FrK.no (FA.o.tr hf);have B2:=hD (B0.o.fr hf (λx=>x));have O2:=hD (O0.o.fr hf (λ_ _ x=>x));clear hf HI S0 B0 O0 c3;cases hF:findF G.fs nm with
 | none=>
  have E:=hD (aFx (r:=r) (ex:=ex) (x:=x) (nd:=⟨21,line,0,nm,l⟩) hF);have hz:Z = -1:=by rw[<-HZ.o];unfold findF at hF;rw[hF];rfl
  subst hz;clear hF hb;go_wp2_with fail
  refine dU (S2.o.ask false 40 x (by decide) (by decide)) λw3 S3 f3=>?_;have F3:=hD (F2.o.trans (FrK.ofG f3));clear f3 S2 F2;go_wp2
  go_ret;refine⟨0,rfl,⟨?_,λt' s' hr=>?_⟩,F3⟩
  . rw[E.o]
    have:=S3.o;cases r<;>exact this
  . rw[E.o] at hr
    cases r<;>cases hr
 | some q=>
  have hq:q<G.fs.length:=by unfold findF at hF;exact (List.findIdx?_eq_some_iff_getElem.1 hF).1
  obtain⟨f,hf⟩:∃f,G.fs[q]?=some f:=⟨_,gE hq⟩;have E:=hD (aFw (r:=r) (ex:=ex) (x:=x) (nd:=⟨21,line,0,nm,l⟩) hF hf);have hz:Z=(q:Int):=by rw[<-HZ.o];unfold findF at hF;rw[hF];rfl
  subst hz;clear hF hb;have hq3:(q:Int)<(G.fs.length:Int):=by omega
  have hq0:¬(q:Int)<0:=by omega
  have hq6:(q:Int)<=6:=by have:=HG.o.fewf;omega
  have hpl:f.params.length<=3:=HG.o.fewp f (List.mem_of_getElem? hf);go_wp2_with fail
  refine (S2.o.ask true 40 x (by decide) (by decide)).mono ?_;rintro en w3 ⟨rfl,h3,f3⟩;have S3:=hD (show KqM G w3 r zs k from by cases r<;>exact h3);have F3:=hD (F2.o.trans (FrK.ofG f3));have hZle:G.Z<=w.heap.size:=HZL.o;have B3:=hD ((FrK.ofG f3).far B2 (by have:=HG.o.lg;omega) (by have:=HG.o.lt;omega) (by have:=HG.o.ls;omega) (by have:=HG.o.lf;omega) (by decide));have O3:=hD ((FrK.ofG f3).own O2 (by decide) (λb hb=>by have:=HLO.o b hb;have:=HG.o.hg;have:=HG.o.ht;have:=HG.o.hs;have:=HG.o.hf;omega));have hle:w.heap.size<w3.heap.size:=Nat.lt_of_lt_of_le B2.o.lt f3.size;clear h3 f3 S2 F2 B2 O2 hfb glt gn;clear FA HZL;generalize hT:w.heap.size=T at *;obtain⟨fb2,fc2,c3,ho,hfb,hpar,hsame,glt⟩:=S3.o.fns;obtain⟨pv,hpv⟩:∃pv,G.pvs[q]?=some pv:=⟨_,gE (by omega)⟩;have hpo:=hpar.get hf hpv;obtain⟨PA,PC,rfl,hPC,-⟩:=hpo.cap;obtain⟨fb',e9,hcell⟩:=ho.some (by omega);injection e9 with e9;injection e9 with e9;subst e9;have key:=dI hf hpv;have y0:=hcell _ _ (key 0 _ rfl);have y1:=hcell _ _ (key 1 _ rfl);have y2:=hcell _ _ (key 2 _ rfl);have y3:=hcell _ _ (key 3 _ rfl);have y4:=hcell _ _ (key 4 _ rfl);rw[Nat.add_zero] at y0;have d0:w3.cell? (T,0)=(21:Int):=(B3.o.cell 0).trans rfl;have d1:w3.cell? (T,1)=line:=(B3.o.cell 1).trans rfl;have d2:w3.cell? (T,2)=U0:=(B3.o.cell 2).trans rfl;have d3:w3.cell? (T,3)=(bs nm):=(B3.o.cell 3).trans rfl;have d4:w3.cell? (T,4)=some (.slice A l.length c):=(B3.o.cell 4).trans rfl;have FB:Hd (Fr nob w3 (w3.alloc (.cells #[bs f.name,f.line,.slice PA f.params.length PC,f.ret,f.body] 48))):=(fR w3).alloc _
  have BB:=hD (Blk.new w3 48 #[bs f.name,f.line,.slice PA f.params.length PC,f.ret,f.body]);have HF:=hD hf;have HPV:=hD hpv;have tn:¬T=w3.heap.size:=by omega
  clear hT hf hpv hpo key hcell ho hpar hsame hq;go_wp2_with fail
  refine (iB HEX (S3.o.no FB) (O3.o.fr FB (λ_ _ x=>x)) HLO H3).mono ?_;rintro en w5 ⟨A',c',ts,rfl,hq5,hf5⟩;have S5:=hD hq5;have F5:=hD (F3.o.trans ((FrK.no FB).trans hf5));have D5:=hD (hf5.far BB (by have:=HG.o.lg;omega) (by have:=HG.o.lt;omega) (by have:=HG.o.ls;omega) (by have:=HG.o.lf;omega) (by decide));have NW:=hD (show ∀b,blk (.slice A' l.length c')=some b->G.Z<=b from λb hb=>by
    have:=hq5.new b hb;have:w3.heap.size<=b:=Nat.le_trans (by simp) this;omega)
  have DZ:=hD (show G.Z<=w3.heap.size from by omega);clear hq5 hf5 S3 F3 B3 O3 FB BB  y0 y1 y2 y3 y4 d0 d1 d2 d3 d4 c3 hfb glt tn hle;generalize w3.heap.size=D at *;have p2:w5.cell? (D,2)=some (.slice PA f.params.length PC):=(D5.o.cell 2).trans rfl;have HL:=hD (show ts.length=l.length from by have:=S5.o.own.len;simpa[ints] using this);have K2:=hD p2;have GN:=hD (show D≠G.g∧D≠G.bt∧D≠G.bs∧D≠G.bf from by
    have:=DZ.o;have:=HG.o.lg;have:=HG.o.lt;have:=HG.o.ls;have:=HG.o.lf;exact⟨by omega,by omega,by omega,by omega⟩)
  have hl3:(l.length:Int)<=300:=by have:=H3.o;omega
  have hp3:(f.params.length:Int)<=3:=by omega
  go_wp2_with fail
  go_region_held3 (λwx=>wx.cell? (D,2)=some (.slice PA f.params.length PC)) (first|exact K2.o|exact K8) (first|(go_at_call 95;go_loud (refine ((S5.o.st.no ((fR w5).drew)).ask _ 43 x (by decide) (by decide)).mono ?_);go_loud (rintro en w8 ⟨rfl,h8,f8⟩);go_loud (have S8:=hD h8);go_loud (have F8:=hD ((FrK.no ((fR w5).drew)).trans (FrK.ofG f8)));go_loud (have K8:=hD (((F8.o.far D5 GN.o.1 GN.o.2.1 GN.o.2.2.1 GN.o.2.2.2 (by decide)).cell 2).trans (show _=some (.slice PA f.params.length PC) from rfl)));go_loud (clear h8 f8)))
  have A0:=hD (show KqM G w8 (eU (r.bind (bF ex l)) (f.params.map (·.2)) x 0) zs k from by
    rw[<-aGa (b:=((l.length:Int)==(f.params.length:Int))) (λu hu=>by
      have h1:=S5.o.val u.1 u.2 hu;have h2:=HL.o;rw[<-h1,h2,List.length_map,Bool.eq_iff_iff];simp only[beq_iff_eq,decide_eq_true_eq];omega)]
    exact S8)
  have O8:=hD (F8.o.own S5.o.own (by decide) (λb hb=>by
    have:=NW.o b hb;have:=HG.o.lg;have:=HG.o.lt;have:=HG.o.ls;have:=HG.o.lf;exact⟨by omega,by omega,by omega,by omega⟩))
  have D8:=hD (F8.o.far D5 GN.o.1 GN.o.2.1 GN.o.2.2.1 GN.o.2.2.2 (by decide));have VL:=hD S5.o.val;have F9:=hD (F5.o.trans F8);clear p2 K2 S5 S8 D5 F8 F5;have p2:=K8.o;obtain⟨m,hm1,hm2,hmP,hcase⟩:∃m:Nat,m<=f.params.length∧m<=l.length∧(m:Int)<=(PC:Int)∧(((f.params.length:Int)<(l.length:Int)∧f.params.length=m)∨(¬(f.params.length:Int)<(l.length:Int)∧l.length=m)):=by
    by_cases hlm:(f.params.length:Int)<(l.length:Int)
    . exact⟨f.params.length,by omega,by omega,by omega,.inl ⟨hlm,rfl⟩⟩
    . exact⟨l.length,by omega,by omega,by omega,.inr ⟨hlm,rfl⟩⟩
  have hmx:m=f.params.length∨m=l.length:=by omega
  have hPC3:(f.params.length:Int)<=(PC:Int):=by omega
  rcases hcase with ⟨hlm,hm⟩|⟨hlm,hm⟩
  all_goals
    rw[hm] at hlm;have hm3:(m:Int)<=300:=by omega
    try simp only[hm] at p2
    try simp only[hm]
    try rw[hm] at hPC3
    go_wp2
    go_loopw [62] (λi wr=>∃j:Nat,j<=m∧i = .int .i64 j∧Hd (KqM G wr (eU (r.bind (bF ex l)) (f.params.map (·.2)) x j) zs k)∧Hd (Own wr 3 1 (.slice A' l.length c') l.length (ints ts))∧Hd (FrK G w wr)∧Hd (Blk wr D 48 #[bs f.name,f.line,.slice PA f.params.length PC,f.ret,f.body])) (λi _=>m - (intOf i).toNat)
    case atStart=>exact⟨0,aA4 _,rfl,A0,O8,F9,D8⟩
    case round=>
      clear A0 O8 F9 D8 p2 K8;obtain⟨j,hj,rfl,S,O,F,DD⟩:=hrel;by_cases hlt:j<m
      . have hlt2:(j:Int)<(m:Int):=by omega
        have hlt3:(j:Int)<(l.length:Int):=by omega
        obtain⟨qq,hqq⟩:∃qq,f.params[j]?=some qq:=⟨_,gE (by omega)⟩;obtain⟨ti,hti⟩:∃ti,ts[j]?=some ti:=⟨_,gE (by have:=HL.o;omega)⟩;have hpo:Own wr 101 2 (.slice PA f.params.length PC) f.params.length (aN f.params):=S.o.tree.tree.pars.get HF HPV.o;obtain⟨pb,e8,hpc⟩:=hpo.some (by omega);have q0:=hpc _ _ (aP hqq).1;have q1:=hpc _ _ (aP hqq).2;obtain⟨tb,e9,htc⟩:=O.o.some (by omega);have t0:=htc j ti (by simp[ints,hti]);subst e8;subst e9;have FB:Hd (Fr nob wr (wr.alloc (.cells #[bs qq.1,qq.2] 101))):=(fR wr).alloc _;have BE:=hD (Blk.new wr 101 #[bs qq.1,qq.2]);have EZ:=hD (show G.Z<=wr.heap.size from by have:=DD.o.lt;have:=DZ.o;omega);have HTI:=hD hti;have HQQ:=hD hqq;have HI:=hD hlt;clear hpo hpc htc hti hqq;go_wp2_with fail
        clear q0 q1 t0;generalize hw9:wr.alloc (.cells #[bs qq.1,qq.2] 101)=w9 at *;have S9:=hD (S.o.no FB);have O9:=hD (O.o.fr FB (λ_ _ x=>x));have D9:=hD (DD.o.fr FB (λx=>x));have F9:=hD (F.o.trans (FrK.no FB));have EL:=hD (show G.Z<=wr.heap.size∧wr.heap.size<w9.heap.size from ⟨EZ,BE.o.lt⟩);clear S O F DD FB EZ hw9;generalize wr.heap.size=E9 at *;obtain⟨tb',et,htc⟩:=O9.o.some (by have:=HI.o;omega);injection et with et;injection et with et;subst et;have t0:=htc j ti (by simp[ints,HTI.o]);have KT:=hD t0;have KE:Hd (w9.cell? (E9,1)=qq.2):=(BE.o.cell 1).trans rfl;have EN:=hD (show E9≠G.g from by have:=EL.o.1;have:=HG.o.lg;omega);have TN:=hD (show tb≠G.g from by have:=NW.o tb (aQ (by omega) O9.o.oH.1);have:=HG.o.lg;omega);have TL:Hd (tb<w9.heap.size):=O9.o.aZ (aQ (by omega) O9.o.oH.1);clear htc t0;go_region_held3 (λwx=>wx.cell? (tb,j)=ti∧wx.cell? (E9,1)=qq.2) (first|exact⟨KT,KE⟩|exact K8) (first|(go_at_call 95;go_loud (refine ((S9.o.no ((fR w9).drew)).ask _ 42 x (by decide) (by decide)).mono ?_);go_loud (rintro en w8 ⟨rfl,h8,f8⟩);go_loud (have S8:=hD h8);go_loud (have F8:Hd (Fr (bY G.g) w9 w8):=Fr.trans ((fR w9).drew) f8 (λ_ _ x=>x.elim) (λ_ _ x=>x));go_loud (have K8:=hD (And.intro ((F8.o.cell (p:=(tb,j)) TL TN).trans KT) ((F8.o.cell (p:=(E9,U1)) EL.o.2 EN).trans KE)));go_loud (clear h8 f8)))
        have A8:=hD (show KqM G w8 (eU (r.bind (bF ex l)) (f.params.map (·.2)) x (j+1)) zs k from by
          rw[<-tJ (b:=((ti:Int)==(qq.2:Int))) (λu hu _ _=>by
           have h1:=VL.o u.1 u.2 hu;rw[<-h1,HTI.o,List.getElem?_map,HQQ.o,Bool.eq_iff_iff];simp only[Option.map_some,aA0,beq_iff_eq,decide_eq_true_eq];omega) (λu hu=>by
           have h1:=VL.o u.1 u.2 hu;have:=HL.o;have:=HI.o;rw[<-h1];omega)]
          exact S8)
        have O8:=hD (O9.o.fr F8 (λb hb e=>by have:=NW.o b hb;have:=HG.o.lg;unfold bY at e;omega));have D8:=hD (D9.o.fr F8 GN.o.1);have F8k:=hD (F9.o.trans (FrK.ofG F8));clear S9 O9 D9 F9 S8 F8 K8 KT KE;go_wp2
        go_roundw
        case rel=>exact⟨j+1,by have:=HI.o;omega,by go_num,A8,O8,F8k,D8⟩
        case measure=>simp[intOf];have:=HI.o;omega
      . have hlt2:¬(j:Int)<(m:Int):=by omega
        have hjm:j=m:=by omega
        subst hjm;have d3:wr.cell? (D,3)=f.ret:=(DD.o.cell 3).trans rfl;have HX:=hD hmx;clear hlt hj;go_wp2
        go_ret;refine⟨f.ret,rfl,⟨?_,λt' s' hr=>?_⟩,F⟩
        . rw[E.o,aBi (i:=j) (λu hu hl=>by
           have h1:=VL.o u.1 u.2 hu;have:=HL.o;rw[<-h1] at hl;rw[List.length_map] at hl ⊢;have:=HX.o;omega)]
          exact S.o
        . rw[E.o] at hr
          exact (aBh hr).symm
end
end Go.Proofs.YtlbjicjinnnboaaGreatDoor
namespace Go.Proofs.YtlbjicjinnnboaaGreatDoor
open Go.RowKit Go.Proofs.Tryz Go.MapKept
open Pw
theorem tN:prog.underlying (183:TypeId)=some (.map 3 (182:TypeId)):=by kernel_rfl
theorem mW:prog.underlying 3=some (.int .i64):=by kernel_rfl
def rule (t:Int) (a n:Nat):Value:= .agg #[t,(a,n,n)]
theorem lN {P:Program}{w:World}{mty kt et:TypeId}{d:TypeDesc}{r clock:Nat}{es:Array MapEntry}{key:Value} (hm:P.underlying mty=some (.map kt et)) (hd:P.underlying kt=some d) (hb:w.heap[r]?=some (.map es clock)) (hk:IsKey d key) (hf:Instr.findNow d key es.toList 0=some none) (value:Value):
  ∃w',(Instr.mapUpdate mty (.map (some r)) key value).run P w = .ok () w'∧w'.heap[r]?=some (.map (es.push ⟨key,value,clock⟩) (clock+1))∧Fr (bY r) w w'∧w'.heap.size=w.heap.size:=
 ⟨_,mX hm hd hb hk hf,pF hb _ _,wI _ _ _ _,by simp[wJ]⟩
def aHh (h:Nat):Array MapEntry:=#[⟨U6,rule 1 (h+1) 2,0⟩,⟨U7,rule 1 (h+2) 1,1⟩,⟨U8,rule 2 (h+3) 1,2⟩,⟨(20:Int),rule 4 (h+4) 1,3⟩,⟨U5,rule 1 (h+5) 1,4⟩]
theorem aDz (w:World):Calls prog 209 #[] w λen w'=>en = .returned (.map (some w.heap.size))∧Fr nob w w'∧w'.heap[w.heap.size]?=some (.map (aHh w.heap.size) 5)∧Blk w' (w.heap.size+1) 3 #[U3,U4]∧Blk w' (w.heap.size+2) 3 #[U1]∧Blk w' (w.heap.size+3) 3 #[U2]∧Blk w' (w.heap.size+4) 3 #[U1]∧Blk w' (w.heap.size+5) 3 #[U1]:=by
 have hmm:= @run_makeMap prog;obtain⟨h,hh⟩:∃h,w.heap.size=h:=⟨_,rfl⟩;have b0:(w.alloc (.map #[] 0)).heap[h]?=some (.map #[] 0):=by rw[<-hh];exact (heap_alloc w _).1
 have s0:(w.alloc (.map #[] 0)).heap.size=h+1:=by simp[hh]
 have c1:((w.alloc (.map #[] 0)).alloc (.cells #[U3,U4] 3)).heap[h]?=_:=((heap_alloc (w.alloc (.map #[] 0)) _).2 h (by omega)).trans b0;obtain⟨x1,i1,b1,f1,z1⟩:=lN tN mW c1 (key:= .int .i64 6) rfl rfl (rule 1 (h+1) 2);have k1:Blk x1 (h+1) 3 #[U3,U4]:=by have:=Blk.new (w.alloc (.map #[] 0)) 3 #[U3,U4];rw[s0] at this;exact this.fr f1 (by unfold bY;omega)
 have s1:x1.heap.size=h+2:=by rw[z1];simp[s0]
 have c2:(x1.alloc (.cells #[U1] 3)).heap[h]?=_:=((heap_alloc x1 _).2 h (by omega)).trans b1;obtain⟨x2,i2,b2,f2,z2⟩:=lN tN mW c2 (key:= .int .i64 7) rfl rfl (rule 1 (h+2) 1);have k2:Blk x2 (h+2) 3 #[U1]:=by have:=Blk.new x1 3 #[U1];rw[s1] at this;exact this.fr f2 (by unfold bY;omega)
 have s2:x2.heap.size=h+3:=by rw[z2];simp[s1]
 have c3:(x2.alloc (.cells #[U2] 3)).heap[h]?=_:=((heap_alloc x2 _).2 h (by omega)).trans b2;obtain⟨x3,i3,b3,f3,z3⟩:=lN tN mW c3 (key:= .int .i64 8) rfl rfl (rule 2 (h+3) 1);have k3:Blk x3 (h+3) 3 #[U2]:=by have:=Blk.new x2 3 #[U2];rw[s2] at this;exact this.fr f3 (by unfold bY;omega)
 have s3:x3.heap.size=h+4:=by rw[z3];simp[s2]
 have c4:(x3.alloc (.cells #[U1] 3)).heap[h]?=_:=((heap_alloc x3 _).2 h (by omega)).trans b3;obtain⟨x4,i4,b4,f4,z4⟩:=lN tN mW c4 (key:= .int .i64 20) rfl rfl (rule 4 (h+4) 1);have k4:Blk x4 (h+4) 3 #[U1]:=by have:=Blk.new x3 3 #[U1];rw[s3] at this;exact this.fr f4 (by unfold bY;omega)
 have s4:x4.heap.size=h+5:=by rw[z4];simp[s3]
 have c5:(x4.alloc (.cells #[U1] 3)).heap[h]?=_:=((heap_alloc x4 _).2 h (by omega)).trans b4;obtain⟨x5,i5,b5,f5,z5⟩:=lN tN mW c5 (key:= .int .i64 5) rfl rfl (rule 1 (h+5) 1);have k5:Blk x5 (h+5) 3 #[U1]:=by have:=Blk.new x4 3 #[U1];rw[s4] at this;exact this.fr f5 (by unfold bY;omega)
 have s5:x5.heap.size=h+6:=by rw[z5];simp[s4]
 have e0:Fr (bY h) (w.alloc (.map #[] 0)) (w.alloc (.map #[] 0)):=Fr.refl _ _;have e1:=(e0.alloc (.cells #[U3,U4] 3)).tr f1;have e2:=(e1.alloc (.cells #[U1] 3)).tr f2;have e3:=(e2.alloc (.cells #[U2] 3)).tr f3;have e4:=(e3.alloc (.cells #[U1] 3)).tr f4;have e5:=(e4.alloc (.cells #[U1] 3)).tr f5;have K1:Hd (Blk x5 (h+1) 3 #[U3,U4]):=((((((((k1.alloc _).fr f2 (by unfold bY;omega)).alloc _).fr f3 (by unfold bY;omega)).alloc _).fr f4 (by unfold bY;omega)).alloc _).fr f5 (by unfold bY;omega));have K2:Hd (Blk x5 (h+2) 3 #[U1]):=((((((k2.alloc _).fr f3 (by unfold bY;omega)).alloc _).fr f4 (by unfold bY;omega)).alloc _).fr f5 (by unfold bY;omega));have K3:Hd (Blk x5 (h+3) 3 #[U2]):=((((k3.alloc _).fr f4 (by unfold bY;omega)).alloc _).fr f5 (by unfold bY;omega));have K4:Hd (Blk x5 (h+4) 3 #[U1]):=((k4.alloc _).fr f5 (by unfold bY;omega));have K5:Hd (Blk x5 (h+5) 3 #[U1]):=k5;have FE:Hd (Fr nob w x5):=Fr.trans ((fR w).alloc (.map #[] 0)) e5 (λ_ _ x=>x) (λb hb e=>by unfold bY at e;omega);have BE:Hd (x5.heap[h]?=some (.map (aHh h) 5)):=b5;rw[hh];clear e0 e1 e2 e3 e4 e5 k1 k2 k3 k4 k5 f1 f2 f3 f4 f5 b0 b1 b2 b3 b4 b5 c1 c2 c3 c4 c5 z1 z2 z3 z4 z5;unfold rule at i1 i2 i3 i4 i5;go_enter func209,ntmps209;go_wp2
 go_ret
 first|exact⟨rfl,FE,BE,K1,K2,K3,K4,K5⟩|trace_state
end Go.Proofs.YtlbjicjinnnboaaGreatDoor
namespace Go.Proofs.YtlbjicjinnnboaaGreatDoor
open Go.RowKit Go.Proofs.Tryz
open Pw
variable {x line n:Nat}{nm:List UInt8}{l:List Nat}
section
variable {G:Geo}{w w':World}{s:CkS}{r:CkR CkS}{zs:List Nat}{k e p:Nat}{ex:Nat->CkS->CkR (Nat×CkS)}
def aQh (G:Geo) (ex:Nat->CkS->CkR (Nat×CkS)) (zs:List Nat) (k x:Nat) (nd:aF):Prop:=∀(w:World) (r:CkR CkS) (A:Option Addr) (c:Nat),KqM G w r zs k->Own w 3 1 (.slice A nd.l.length c) nd.l.length (ints nd.l)->(∀b,blk (.slice A nd.l.length c)=some b->b<G.B) ->
 Calls prog 193 #[(G.g,()),.agg #[nd.kind,nd.line,nd.n,bs nd.name,.slice A nd.l.length c],x] w λen w'=>∃t:Nat,en = .returned t∧KqT G w' (r.bind (bB G.fs ex x nd)) zs k t∧FrK G w w'
theorem KqT.leaf (h:KqM G w r zs k){t:Nat}{f:CkS->CkR (Nat×CkS)} (hf:∀s,f s = .good (t,s)):KqT G w (r.bind f) zs k t:=by
 cases r with
 | bad e p=>exact⟨h,λ_ _ hr=>by cases hr⟩
 | good s=>exact⟨by simp only[CkR.aC];rw[hf];exact h,λt' s' hr=>by simp only[CkR.aC] at hr;rw[hf] at hr;injection hr with hr;injection hr⟩
theorem kL (k0:Nat) (h0:k0=1∨k0=2∨k0=3∨k0=19):aQh G ex zs k x ⟨k0,line,n,nm,l⟩:=λw r A c h ho hlow=>by
 have FA:Hd (Fr nob w (w.alloc (.cells #[k0,line,n,bs nm,.slice A l.length c] 50))):=(fR w).alloc _;have S0:=hD (h.no FA);clear ho hlow h;dsimp only;rcases h0 with rfl|rfl|rfl|rfl
 all_goals
  go_enter func193,ntmps193;go_wp2
  go_ret;exact⟨_,rfl,KqT.leaf S0 (λs=>by simp[bB]),FrK.no FA⟩
end
section
variable {G:Geo}{w w':World}{s:CkS}{r:CkR CkS}{zs:List Nat}{k e p:Nat}{ex:Nat->CkS->CkR (Nat×CkS)}
theorem zY (hx:G.ns[x]?=some ⟨4,line,n,nm,l⟩):aQh G ex zs k x ⟨4,line,n,nm,l⟩:=λw r A c h ho hlow=>by
 have FA:Hd (Fr nob w (w.alloc (.cells #[U4,line,n,bs nm,.slice A l.length c] 50))):=(fR w).alloc _;have HN:=hD (KqM.named (zs:=zs) (k:=k) hx _ _ (h.no FA));have E:=hD (show r.bind (bB G.fs ex x ⟨4,line,n,nm,l⟩)=r.bind (aU x nm) from by congr 1);clear ho hlow h hx;dsimp only;go_enter func193,ntmps193;go_wp2_with fail
 refine HN.o.mono ?_;rintro en w2 ⟨t,rfl,h2,hf⟩;have S2:=hD h2;have F2:=hD ((FrK.no FA).trans hf);clear h2 hf HN;go_wp2
 go_ret;exact⟨t,rfl,by rw[E.o];exact S2,F2⟩
theorem zZ (hex:∀a∈l,iE 170 G zs k a (ex a)) (h300:l.length<=300) (hx3:x<=300):aQh G ex zs k x ⟨21,line,0,nm,l⟩:=λw r A c h ho hlow=>by
 have FA:Hd (Fr nob w (w.alloc (.cells #[(21:Int),line,U0,bs nm,.slice A l.length c] 50))):=(fR w).alloc _;have HN:=hD (aHw (nm:=nm) (line:=line) hex (h.no FA) (ho.fr FA (λ_ _ x=>x)) hlow h300 hx3);have E:=hD (show r.bind (bB G.fs ex x ⟨21,line,0,nm,l⟩)=r.bind (kV G.fs ex x ⟨21,line,0,nm,l⟩) from by congr 1);clear ho hlow h hex;dsimp only;go_enter func193,ntmps193;go_wp2_with fail
 refine HN.o.mono ?_;rintro en w2 ⟨t,rfl,h2,hf⟩;have S2:=hD h2;have F2:=hD ((FrK.no FA).trans hf);clear h2 hf HN;go_wp2
 go_ret;exact⟨t,rfl,by rw[E.o];exact S2,F2⟩
end
section
variable {ns:List aF}{fs:List aG}{k:Nat}
def bK (k y:Nat) (s:CkS):CkS:={ s with fn:=s.fn.set y k }
def Cm (k:Nat) (ex:Nat->CkS->CkR (Nat×CkS)):Prop:=∀a y s,ex a (bK k y s)=(ex a s).map λr=>(r.1,bK k y r.2)
theorem CkR.bind_map {α β γ:Type} (r:CkR α) (f:α->β) (g:β->CkR γ):(r.map f).bind g=r.bind λa=>g (f a):=by cases r<;>rfl
theorem CkR.map_bind {α β γ:Type} (r:CkR α) (f:α->CkR β) (g:β->γ):(r.bind f).map g=r.bind λa=>(f a).map g:=by cases r<;>rfl
theorem CkR.map_map {α β γ:Type} (r:CkR α) (f:α->β) (g:β->γ):(r.map f).map g=r.map λa=>g (f a):=by cases r<;>rfl
theorem CkR.zA {α β γ:Type} (r:CkR α) (f:α->CkR β) (g:β->CkR γ):(r.bind f).bind g=r.bind λa=>(f a).bind g:=by cases r<;>rfl
theorem vM {ex:Nat->CkS->CkR (Nat×CkS)} (hc:Cm k ex) (y:Nat):∀(l:List Nat) (s:CkS),bF ex l (bK k y s)=(bF ex l s).map λr=>(r.1,bK k y r.2)
 | [],s=>rfl
 | a :: l,s=>by
  unfold bF;rw[hc,CkR.bind_map,CkR.map_bind];congr 1
  funext r
  rw[vM hc y l,CkR.map_map,CkR.map_map]
theorem sI (x:Nat) (nm:List UInt8) (y:Nat) (s:CkS):aU x nm (bK k y s)=(aU x nm s).map λr=>(r.1,bK k y r.2):=by
 unfold aU bK;dsimp only;cases dV s.vars nm<;>rfl
theorem sG (p:Prop) [Decidable p] (t e x:Nat) (y:Nat) (s:CkS):(if p then CkR.good (t,bK k y s) else .bad e x)=(if p then CkR.good (t,s) else .bad e x:CkR (Nat×CkS)).map λr=>(r.1,bK k y r.2):=by
 by_cases h:p
 . rw[if_pos h,if_pos h];rfl
 . rw[if_neg h,if_neg h];rfl
theorem rA {ex:Nat->CkS->CkR (Nat×CkS)} (hc:Cm k ex) (x:Nat) (nd:aF) (y:Nat) (s:CkS):bB fs ex x nd (bK k y s)=(bB fs ex x nd s).map λr=>(r.1,bK k y r.2):=by
 unfold bB;by_cases h1:nd.kind=1∨nd.kind=19
 . rw[if_pos h1,if_pos h1];rfl
 rw[if_neg h1,if_neg h1];by_cases h2:nd.kind=2
 . rw[if_pos h2,if_pos h2];rfl
 rw[if_neg h2,if_neg h2];by_cases h3:nd.kind=3
 . rw[if_pos h3,if_pos h3];rfl
 rw[if_neg h3,if_neg h3];by_cases h4:nd.kind=4
 . rw[if_pos h4,if_pos h4];exact sI x nd.name y s
 rw[if_neg h4,if_neg h4];by_cases h5:nd.kind=21
 . rw[if_pos h5,if_pos h5]
   unfold kV;cases findF fs nd.name with
   | none=>rfl
   | some j=>
     dsimp only;rw[vM hc,CkR.bind_map,CkR.map_bind];congr 1
     funext r
     dsimp only;by_cases q1:r.1.length≠((fs[j]?.map (·.params)).getD []).length
     . rw[if_pos q1,if_pos q1];rfl
     rw[if_neg q1,if_neg q1];by_cases q2:r.1≠((fs[j]?.map (·.params)).getD []).map (·.2)
     . rw[if_pos q2,if_pos q2];rfl
     rw[if_neg q2,if_neg q2];rfl
 rw[if_neg h5,if_neg h5];by_cases h6:nd.kind=5
 . rw[if_pos h6,if_pos h6,sI,CkR.bind_map,CkR.map_bind]
   congr 1
   funext t
   rw[hc,CkR.bind_map,CkR.map_bind];congr 1
   funext r
   exact sG _ _ _ _ _ _
 rw[if_neg h6,if_neg h6];by_cases h7:nd.kind=9
 . rw[if_pos h7,if_pos h7,hc,CkR.bind_map,CkR.map_bind]
   congr 1
   funext t
   rw[hc,CkR.bind_map,CkR.map_bind];congr 1
   funext r
   dsimp only;by_cases q:bL nd.name t.1 r.1=0
   . rw[if_pos q,if_pos q];rfl
   . rw[if_neg q,if_neg q];rfl
 rw[if_neg h7,if_neg h7,hc,CkR.bind_map,CkR.map_bind];congr 1
 funext r
 dsimp only;by_cases h8:nd.kind=6
 . rw[if_pos h8,if_pos h8];exact sG _ _ _ _ _ _
 rw[if_neg h8,if_neg h8];by_cases h9:nd.kind=7
 . rw[if_pos h9,if_pos h9];exact sG _ _ _ _ _ _
 rw[if_neg h9,if_neg h9];by_cases h10:nd.kind=8
 . rw[if_pos h10,if_pos h10];exact sG _ _ _ _ _ _
 rw[if_neg h10,if_neg h10];exact sG _ _ _ _ _ _
theorem vG:∀f:Nat,Cm k (eO ns fs k f)
 | 0=>λa y s=>rfl
 | f+1=>λa y s=>by
  unfold eO;cases ns[a]? with
  | none=>rfl
  | some nd=>
   dsimp only;rw[rA (vG f),CkR.map_map,CkR.map_map];congr 1
   funext r
   unfold bK;dsimp only;by_cases e:y=a
   . subst e;rfl
   . rw[List.set_comm _ _ e]
theorem aAx {f:Nat}{nd:aF} (hx:ns[x]?=some nd) (s:CkS):eO ns fs k (f+1) x s=(bB fs (eO ns fs k f) x nd (bK k x s)).map λr=>(r.1,{ r.2 with types:=r.2.types.set x r.1 }):=by
 rw[rA (vG f),CkR.map_map];unfold eO;rw[hx];rfl
end
section
variable {G:Geo}{w w':World}{s:CkS}{r:CkR CkS}{zs:List Nat}{k e p:Nat}{ex:Nat->CkS->CkR (Nat×CkS)}
theorem KqT.args {fn:CkS->CkR (Nat×CkS)}{ts:List Nat}{P:List Nat->Bool}{T:List Nat->Nat}{b:Bool}{t:Nat}
  (heq:∀s,fn s=(bF ex l s).bind λq=>if P q.1=true then .good (T q.1,q.2) else .bad 42 x)
  (hv:∀t' s',r.bind (bF ex l) = .good (t',s')->ts=t') (hb:b=P ts) (ht:b=true->t=T ts)
  (h:KqM G w (((r.bind (bF ex l)).map (·.2)).bind λs=>if b=true then .good s else .bad 42 x) zs k):KqT G w (r.bind fn) zs k t:=by
 have e1:r.bind fn=(r.bind (bF ex l)).bind λq=>if P q.1=true then .good (T q.1,q.2) else .bad 42 x:=by
  cases r with
  | bad e p=>rfl
  | good s=>exact heq s
 rw[e1];cases hq:r.bind (bF ex l) with
 | bad e p=>
  rw[hq] at h;exact⟨h,λt' s' hr=>by cases hr⟩
 | good q=>
  rw[hq] at h hv;have:=hv q.1 q.2 rfl;subst this;simp only[CkR.bO,CkR.aC] at h ⊢;rw[<-hb];cases b with
  | true=>exact⟨h,λt' s' hr=>by injection hr with hr;injection hr with hr _;rw[<-hr];exact ht rfl⟩
  | false=>exact⟨h,λt' s' hr=>by cases hr⟩
theorem args2 (a b:Nat) (s:CkS):bF ex [a,b] s=(ex a s).bind λu=>(ex b u.2).map λv=>([u.1,v.1],v.2):=by
 show (ex a s).bind _=_
 cases ex a s with
 | bad e p=>rfl
 | good u=>
  simp only[CkR.aC]
  show ((ex b u.2).bind _).map _=_
  cases ex b u.2<;>rfl
theorem args1 (a:Nat) (s:CkS):bF ex [a] s=(ex a s).map λu=>([u.1],u.2):=by
 show (ex a s).bind _=_
 cases ex a s<;>rfl
theorem pX {fs:List aG}{a b:Nat} (s:CkS):bB fs ex x ⟨9,line,n,nm,[a,b]⟩ s=(bF ex [a,b] s).bind λq=>if (λts:List Nat=>decide (bL nm (ts.getD 0 0) (ts.getD 1 0)≠0)) q.1=true then .good ((λts:List Nat=>bL nm (ts.getD 0 0) (ts.getD 1 0)) q.1,q.2) else .bad 42 x:=by
 rw[args2,CkR.zA]
 show ((ex a s).bind λu=>(ex b u.2).bind λv=>if bL nm u.1 v.1=0 then .bad 42 x else .good (bL nm u.1 v.1,v.2))=_
 congr 1
 funext u
 rw[CkR.bind_map];congr 1
 funext v
 show _=if decide (bL nm u.1 v.1≠0)=true then CkR.good (bL nm u.1 v.1,v.2) else .bad 42 x
 by_cases h:bL nm u.1 v.1=0
 . simp[h]
 . simp[h]
theorem aDv {a b:Nat} (hex:∀i∈[a,b],iE 170 G zs k i (ex i)):aQh G ex zs k x ⟨9,line,n,nm,[a,b]⟩:=λw r A c h ho hlow=>by
 have FA:Hd (Fr nob w (w.alloc (.cells #[U9,line,n,bs nm,.slice A 2 c] 50))):=(fR w).alloc _;have BA:=hD (Blk.new w 50 #[U9,line,n,bs nm,.slice A 2 c]);have HN:=hD (iB (kind:=9) (line:=line) (n:=n) (nm:=nm) hex (h.no FA) (ho.fr FA (λ_ _ x=>x)) hlow (by simp));have HG:=hD h.geo;have HZ:=hD (show G.Z<=w.heap.size from by obtain⟨s,e,p,h,_⟩:=h.open_;exact h.zle);clear ho hlow h hex;dsimp only;go_enter func193,ntmps193;go_wp2_with fail
 refine HN.o.mono ?_;rintro en w2 ⟨A2,c2,ts,rfl,h2,hf⟩;have S2:=hD h2;have F2:=hD ((FrK.no FA).trans hf);have GN:=hD (show w.heap.size≠G.g∧w.heap.size≠G.bt∧w.heap.size≠G.bs∧w.heap.size≠G.bf from by have:=HG.o.lg;have:=HG.o.lt;have:=HG.o.ls;have:=HG.o.lf;have:=HZ.o;exact⟨by omega,by omega,by omega,by omega⟩);have B2:=hD (hf.far BA GN.o.1 GN.o.2.1 GN.o.2.2.1 GN.o.2.2.2 (by decide))
 clear h2 hf HN FA BA;generalize hT:w.heap.size=T at *;have d0:w2.cell? (T,0)=U9:=(B2.o.cell 0).trans rfl;have d3:w2.cell? (T,3)=(bs nm):=(B2.o.cell 3).trans rfl;have hts:ts.length=2:=by have:=S2.o.own.len;simpa[ints] using this
 obtain⟨t0,t1,rfl⟩:∃t0 t1,ts=[t0,t1]:=by
   match ts,hts with
   | [u,v],_=>exact⟨u,v,rfl⟩
 have O2:=S2.o.own;obtain⟨tb,e9,htc⟩:=O2.some (by simp);subst e9;have g0:=htc 0 t0 rfl;have g1:=htc 1 t1 rfl;clear htc O2 hts;by_cases ht:t0=t1
 . subst ht
   have heb:((t0:Int)==(t0:Int))=true:=by simp
   go_wp2_with fail
   go_quiet (fail)
   have f3:Fr nob w2 (w2.drewN nq):=(fR w2).drewN nq;have B3:=hD (B2.o.fr f3 (λx=>x));have O3:=hD (S2.o.own.fr f3 (λ_ _ x=>x));have S3:=hD (S2.o.st.no f3);have F3:=hD (F2.o.trans (FrK.no f3));have VL:=hD S2.o.val;clear d0 d3 g0 g1 f3 S2 F2 B2;generalize w2.drewN nq=w3 at *;have d3:w3.cell? (T,3)=(bs nm):=(B3.o.cell 3).trans rfl;have g0:w3.cell? (tb,0)=t0:=by
    obtain⟨b',e1,hc⟩:=O3.o.some (by simp);injection e1 with e1;injection e1 with e1;subst e1;exact hc 0 t0 rfl
   go_wp2_with fail
   go_still_tail 5,(by kernel_rfl)
   change wpList _ _ _ _ _ w3.drew;have S4:=hD (S3.o.no (fR w3).drew);have F4:=hD (F3.o.trans (FrK.no (fR w3).drew));clear d3 g0 S3 F3 B3 O3;generalize w3.drew=w4 at *;go_wp2_with fail
   refine stepM (aMc w4 nm t0) λw5 hf=>?_;have S5:=hD (S4.o.no hf);have F5:=hD (F4.o.trans (FrK.no hf));clear hf S4 F4;obtain⟨R,hR⟩:∃R,bL nm t0 t0=R:=⟨_,rfl⟩;have HR:=hD hR;rw[hR];clear hR;go_wp2_with fail
   refine dU (S5.o.ask _ 42 x (by decide) (by decide)) λw6 S6 f6=>?_;have F6:=hD (F5.o.trans (FrK.ofG f6));clear f6 S5 F5;go_wp2
   go_ret;exact⟨R,rfl,KqT.args (P:=λts=>decide (bL nm (ts.getD 0 0) (ts.getD 1 0)≠0)) (T:=λts=>bL nm (ts.getD 0 0) (ts.getD 1 0)) (b:=((R:Int) != 0)) pX VL (by show _=decide (bL nm t0 t0≠0);rw[HR.o,Bool.eq_iff_iff];simp) (λ_=>HR.o.symm) S6,F6⟩
 . have heb:((t0:Int)==(t1:Int))=false:=bN.2 (by omega)
   go_wp2_with fail
   go_quiet (fail)
   have f3:Fr nob w2 (w2.drewN nq):=(fR w2).drewN nq;have S3:=hD (S2.o.st.no f3);have F3:=hD (F2.o.trans (FrK.no f3));have VL:=hD S2.o.val;have HT:=hD ht;clear d0 d3 g0 g1 f3 S2 F2 B2 ht;generalize w2.drewN nq=w3 at *;go_wp2_with fail
   refine dU (S3.o.ask false 42 x (by decide) (by decide)) λw6 S6 f6=>?_;have F6:=hD (F3.o.trans (FrK.ofG f6));clear f6 S3 F3;go_wp2
   go_ret;exact⟨0,rfl,KqT.args (P:=λts=>decide (bL nm (ts.getD 0 0) (ts.getD 1 0)≠0)) (T:=λts=>bL nm (ts.getD 0 0) (ts.getD 1 0)) (b:=false) pX VL (by show _=decide (bL nm t0 t1≠0);rw[show bL nm t0 t1=0 from by unfold bL;rw[if_pos HT.o]];rfl) (λh=>by cases h) S6,F6⟩
end
end Go.Proofs.YtlbjicjinnnboaaGreatDoor
namespace Go.Proofs.YtlbjicjinnnboaaGreatDoor
open Go.RowKit Go.Proofs.Tryz
theorem gD {P:Program}{ops:Array Oper}{w:World}{Q:Act->Prop}{a:Act}{o:Oper}{rest:List Oper} (hw:Region.wanted o (yielded ops a.tmps)=false) (h:wpStill P ops w Q rest (a.put o.dst undef)):wpStill P ops w Q (o :: rest) a:=
 wpStill_step λK hK=>by rw[if_neg (by rw[hw];exact Bool.false_ne_true)];exact hK _ h
theorem iI {P:Program}{ops:Array Oper}{w:World}{Q:Act->Prop}{a:Act}{o:Oper}{rest:List Oper} (hw:Region.wanted o (yielded ops a.tmps)=true) (h:∀K:Act->Prop,(∀a,wpStill P ops w Q rest a->K a)->o.still P a w K):wpStill P ops w Q (o :: rest) a:=
 wpStill_step λK hK=>by rw[if_pos hw];exact h K hK
end Go.Proofs.YtlbjicjinnnboaaGreatDoor
