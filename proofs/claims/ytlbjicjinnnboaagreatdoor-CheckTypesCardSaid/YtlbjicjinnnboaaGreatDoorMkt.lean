/- Mkt: KsT, KsTyX. -/
import Derived.Test.YtlbjicjinnnboaaGreatDoorMkP
import Derived.BigQuiet
import Derived.Deep.DeepCutAuto
set_option linter.unusedVariables false
set_option linter.unusedSimpArgs false
/- CheckTypes: what is noted of a node, by its class: pure. -/
namespace Go.Proofs.YtlbjicjinnnboaaGreatDoor
open Go.RowKit
open Pw
inductive TyC (p:ProgM) (z:Nat):NodeM→Nat→Int→Prop where
 | leaf (k line n:Nat) (nm:List UInt8) (t:Nat) (h:(k=1∧t=1)∨(k=19∧t=1)∨(k=2∧t=2)∨(k=3∧t=3)):TyC p z ⟨k,line,n,nm,[]⟩ t (-1)
 | var (line t v:Nat) (nm:List UInt8) (h:1≤t) (hv:v<z):TyC p z ⟨4,line,0,nm,[]⟩ t v
 | un (k line a b t:Nat) (ha:p.types[a]?=some b) (h:(k=6∧b=3∧t=1)∨(k=6∧b=4∧t=1)∨(k=7∧b=1∧t=1)∨(k=8∧b=2∧t=2)∨(k=20∧b=1∧t=4)):TyC p z ⟨k,line,0,[],[a]⟩ t (-1)
 | named (k line a b t v:Nat) (nm:List UInt8) (ha:p.types[a]?=some b) (hv:v<z) (h:(k=5∧b=1∧t=1)∨(k=10∧t=0)∨(k=11∧t=0)):TyC p z ⟨k,line,0,nm,[a]⟩ t v
 | bin (line a b u t:Nat) (nm:List UInt8) (ha:p.types[a]?=some u) (hb:p.types[b]?=some u) (h:u≤3) (h1:1≤t) (h3:t≤3):TyC p z ⟨9,line,0,nm,[a,b]⟩ t (-1)
 | put (line a b v:Nat) (nm:List UInt8) (ha:p.types[a]?=some 1) (hb:p.types[b]?=some 1) (hv:v<z):TyC p z ⟨12,line,0,nm,[a,b]⟩ 0 v
 | print (line a b:Nat) (ha:p.types[a]?=some b) (h1:1≤b) (h:b≤3):TyC p z ⟨14,line,0,[],[a]⟩ 0 (-1)
 | test (k line a:Nat) (m:List Nat) (hk:k=15∨k=16) (ha:p.types[a]?=some 2):TyC p z ⟨k,line,0,[],a :: m⟩ 0 (-1)
 | none (k line t:Nat) (nm:List UInt8) (h:(k=21)∨(k=13∧t=0)∨(k=17∧t=0)∨(k=18∧t=0)):TyC p z ⟨k,line,0,nm,[]⟩ t (-1)
 | some (k line a b t:Nat) (nm:List UInt8) (m:List Nat) (ha:p.types[a]?=some b) (h:(k=21)∨(k=13∧t=0)∨(k=17∧t=0)∨(k=18∧t=0)):TyC p z ⟨k,line,0,nm,a :: m⟩ t (-1)
theorem ty_facts {p:ProgM} (hi:ProgIs p){i:Nat}{nd:NodeM} (hx:p.ns[i]?=some nd):∃k z t v,p.fn[i]?=some k∧k<p.fs.length∧p.sizes[k]?=some z∧p.types[i]?=some t∧p.slots[i]?=some v∧TyC p z nd t v:=by
 obtain⟨k,z,e1,e2,e3,HA⟩:=node_is hi hx;obtain⟨_,⟨t,ht,hk⟩,v,hv,h1,h2⟩:=HA;refine⟨k,z,t,v,e1,e2,e3,ht,hv,?_⟩;have hlt:i<p.ns.length:=(List.getElem?_eq_some_iff.1 hx).1;have ty:∀{a:Nat} {cls:Nat→Bool},Kid (p.ns.take i) cls a→∃b,p.types[a]?=Option.some b∧p.types.getD a 0=b:=fun {a cls} ha=>by
  have hl:=ha.take.1;have:a<p.types.length:=by rw[hi.lt];omega
  exact⟨_,List.getElem?_eq_getElem this,by rw[List.getD_eq_getElem?_getD,List.getElem?_eq_getElem this];rfl⟩
 have hk:KTy p.fs (fun j=>p.types.getD j 0) nd t:=hk;have pos:nameK nd.kind=true→∃u:Nat,v=u∧u<z:=fun e=>by
  have:=h1 e;exact⟨v.toNat,by omega,by omega⟩
 have hok:=hi.tree.ok.nodes i nd hx;cases hok with
 | int line n h=>rw[h2 rfl];exact .leaf _ _ _ _ _ (.inl ⟨rfl,by simpa[KTy] using hk⟩)
 | input line=>rw[h2 rfl];exact .leaf _ _ _ _ _ (.inr (.inl ⟨rfl,by simpa[KTy] using hk⟩))
 | bool line n h=>rw[h2 rfl];exact .leaf _ _ _ _ _ (.inr (.inr (.inl ⟨rfl,by simpa[KTy] using hk⟩)))
 | text line y=>rw[h2 rfl];exact .leaf _ _ _ _ _ (.inr (.inr (.inr ⟨rfl,by simpa[KTy] using hk⟩)))
 | var line y=>
  obtain⟨u,rfl,hu⟩:=pos rfl;simp[KTy] at hk
  exact .var _ _ _ _ hk.1 hu
 | index line y a ha=>
  obtain⟨u,rfl,hu⟩:=pos rfl;obtain⟨b,hb,hd⟩:=ty ha;simp only[KTy,tyK] at hk;simp only[List.getD_eq_getElem?_getD] at hd hk;simp[hd] at hk
  exact .named _ _ _ b _ _ _ hb hu (.inl ⟨rfl,hk.2,hk.1⟩)
 | len line a ha=>
  rw[h2 rfl];obtain⟨b,hb,hd⟩:=ty ha;simp only[KTy,tyK] at hk;simp only[List.getD_eq_getElem?_getD] at hd hk;simp[hd] at hk
  exact .un _ _ _ b _ hb (by omega)
 | neg line a ha=>
  rw[h2 rfl];obtain⟨b,hb,hd⟩:=ty ha;simp only[KTy,tyK] at hk;simp only[List.getD_eq_getElem?_getD] at hd hk;simp[hd] at hk
  exact .un _ _ _ b _ hb (by omega)
 | not line a ha=>
  rw[h2 rfl];obtain⟨b,hb,hd⟩:=ty ha;simp only[KTy,tyK] at hk;simp only[List.getD_eq_getElem?_getD] at hd hk;simp[hd] at hk
  exact .un _ _ _ b _ hb (by omega)
 | new line a ha=>
  rw[h2 rfl];obtain⟨b,hb,hd⟩:=ty ha;simp only[KTy,tyK] at hk;simp only[List.getD_eq_getElem?_getD] at hd hk;simp[hd] at hk
  exact .un _ _ _ b _ hb (by omega)
 | bin line y a c hy ha hc=>
  rw[h2 rfl];obtain⟨b,hb,hd⟩:=ty ha;obtain⟨b2,hb2,hd2⟩:=ty hc;simp only[KTy,tyK] at hk;simp only[List.getD_eq_getElem?_getD] at hd hd2 hk;simp[hd,hd2] at hk
  obtain⟨k1,k2,k3,k4,_⟩:=hk;subst k3;exact .bin _ _ _ _ _ _ hb hb2 k4 k1 k2
 | let_ line y a ha=>
  obtain⟨u,rfl,hu⟩:=pos rfl;obtain⟨b,hb,hd⟩:=ty ha;exact .named _ _ _ b _ _ _ hb hu (.inr (.inl ⟨rfl,by simpa[KTy] using hk⟩))
 | set line y a ha=>
  obtain⟨u,rfl,hu⟩:=pos rfl;obtain⟨b,hb,hd⟩:=ty ha;exact .named _ _ _ b _ _ _ hb hu (.inr (.inr ⟨rfl,by simpa[KTy] using hk⟩))
 | put line y a c ha hc=>
  obtain⟨u,rfl,hu⟩:=pos rfl;obtain⟨b,hb,hd⟩:=ty ha;obtain⟨b2,hb2,hd2⟩:=ty hc;simp only[KTy,tyK] at hk;simp only[List.getD_eq_getElem?_getD] at hd hd2 hk;simp[hd,hd2] at hk
  obtain⟨rfl,rfl,rfl⟩:=hk;exact .put _ _ _ _ _ hb hb2 hu
 | do_ line a ha=>
  rw[h2 rfl];obtain⟨b,hb,hd⟩:=ty ha;exact .some _ _ _ b _ _ _ hb (.inr (.inl ⟨rfl,by simpa[KTy] using hk⟩))
 | print line a ha=>
  rw[h2 rfl];obtain⟨b,hb,hd⟩:=ty ha;simp only[KTy,tyK] at hk;simp only[List.getD_eq_getElem?_getD] at hd hk;simp[hd] at hk
  obtain⟨rfl,k1,k2⟩:=hk;exact .print _ _ _ hb k1 k2
 | if2 line a b ha hb=>
  rw[h2 rfl];obtain⟨b,hb,hd⟩:=ty ha;simp only[KTy,tyK] at hk;simp only[List.getD_eq_getElem?_getD] at hd hk;simp[hd] at hk
  obtain⟨rfl,rfl⟩:=hk;exact .test _ _ _ _ (.inl rfl) hb
 | if3 line a b d ha hb hd2=>
  rw[h2 rfl];obtain⟨b,hb,hd⟩:=ty ha;simp only[KTy,tyK] at hk;simp only[List.getD_eq_getElem?_getD] at hd hk;simp[hd] at hk
  obtain⟨rfl,rfl⟩:=hk;exact .test _ _ _ _ (.inl rfl) hb
 | loop line a b ha hb=>
  rw[h2 rfl];obtain⟨b,hb,hd⟩:=ty ha;simp only[KTy,tyK] at hk;simp only[List.getD_eq_getElem?_getD] at hd hk;simp[hd] at hk
  obtain⟨rfl,rfl⟩:=hk;exact .test _ _ _ _ (.inr rfl) hb
 | ret0 line=>rw[h2 rfl];exact .none _ _ _ _ (.inr (.inr (.inl ⟨rfl,by simpa[KTy] using hk⟩)))
 | ret1 line a ha=>
  rw[h2 rfl];obtain⟨b,hb,hd⟩:=ty ha;exact .some _ _ _ b _ _ _ hb (.inr (.inr (.inl ⟨rfl,by simpa[KTy] using hk⟩)))
 | block line l h=>
  rw[h2 rfl];cases l with
  | nil=>exact .none _ _ _ _ (.inr (.inr (.inr ⟨rfl,by simpa[KTy] using hk⟩)))
  | cons a m=>
   obtain⟨b,hb,hd⟩:=ty (h a (List.mem_cons_self ..));exact .some _ _ _ b _ _ _ hb (.inr (.inr (.inr ⟨rfl,by simpa[KTy] using hk⟩)))
 | call line y l h=>
  rw[h2 rfl];cases l with
  | nil=>exact .none _ _ _ _ (.inl rfl)
  | cons a m=>
   obtain⟨b,hb,hd⟩:=ty (h a (List.mem_cons_self ..));exact .some _ _ _ b _ _ _ hb (.inl rfl)
def bOf (p:ProgM):List Nat→Nat
 | []=>0
 | a :: _=>(p.types[a]?).getD 0
theorem bOf_some {p:ProgM}{a b:Nat}{q:List Nat} (h:p.types[a]?=some b):bOf p (a :: q)=b:=by
 show (p.types[a]?).getD 0=b
 rw[h];rfl
theorem TyC.slot {p:ProgM}{z t:Nat}{nd:NodeM}{v:Int} (h:TyC p z nd t v):(nameK nd.kind=true∧∃u:Nat,v=u∧u<z)∨(nameK nd.kind=false∧v = -1):=by
 cases h with
 | leaf k line n nm t h=>exact .inr ⟨by rcases h with ⟨rfl,_⟩|⟨rfl,_⟩|⟨rfl,_⟩|⟨rfl,_⟩<;>rfl,rfl⟩
 | var line t v nm h hv=>exact .inl ⟨rfl,v,rfl,hv⟩
 | un k line a b t ha h=>exact .inr ⟨by rcases h with ⟨rfl,_⟩|⟨rfl,_⟩|⟨rfl,_⟩|⟨rfl,_⟩|⟨rfl,_⟩<;>rfl,rfl⟩
 | named k line a b t v nm ha hv h=>exact .inl ⟨by rcases h with ⟨rfl,_⟩|⟨rfl,_⟩|⟨rfl,_⟩<;>rfl,v,rfl,hv⟩
 | bin=>exact .inr ⟨rfl,rfl⟩
 | put line a b v nm ha hb hv=>exact .inl ⟨rfl,v,rfl,hv⟩
 | print=>exact .inr ⟨rfl,rfl⟩
 | test k line a m hk ha=>exact .inr ⟨by rcases hk with rfl|rfl<;>rfl,rfl⟩
 | none k line t nm h=>exact .inr ⟨by rcases h with rfl|⟨rfl,_⟩|⟨rfl,_⟩|⟨rfl,_⟩<;>rfl,rfl⟩
 | some k line a b t nm m ha h=>exact .inr ⟨by rcases h with rfl|⟨rfl,_⟩|⟨rfl,_⟩|⟨rfl,_⟩<;>rfl,rfl⟩
theorem TyC.fst {p:ProgM}{z kd line nn t a:Nat}{nm:List UInt8}{q:List Nat}{v:Int} (h:TyC p z ⟨kd,line,nn,nm,a :: q⟩ t v):∃b,p.types[a]?=Option.some b:=by
 cases h<;>first|exact⟨_,by assumption⟩
set_option maxHeartbeats 4000000 in
set_option maxRecDepth 100000 in
theorem checkTypes_walk {V:World→Prop} (HQ:QSrc V) (s:ByteArray) (w:World) (hv:V w):Calls Tryz.prog 9 #[.string s] w fun e w'=>e = .returned (.bool true)∧Fr nob w w':=by
 have HSH:=hid (shown4_any HQ w hv);obtain⟨T,hT⟩:∃T,s.data.toList.take 700=T:=⟨_,rfl⟩;have HSO:=hid (fun w'=>short4_any s w');rw[hT] at HSO;have hTl:T.length≤700:=by rw[←hT,List.length_take];omega
 obtain⟨r,hr⟩:=source_some T;have HS:=hid (fun w' (f:Fr nob w w')=>HQ.src (bs T) w' (HQ.no _ _ hv f) (by show T.toArray.size≤_;rw[List.size_toArray];omega) r hr);have HR:=hid hr;clear hT hTl hr hv HQ;go_enter Tryz.func9,Tryz.ntmps9;go_wp2_with fail
 refine HSH.out.mono ?_;rintro e w1 ⟨rfl,hf1⟩;have F1:=hid hf1;clear hf1 HSH;go_wp2_with fail
 refine (HSO.out w1).mono ?_;rintro e w1' ⟨rfl,hw⟩;subst hw;go_wp2_with fail
 refine (HS.out _ F1.out).mono ?_;rintro e w2 ⟨hsa,hf2⟩;have F2:=hid (F1.out.tr hf2);clear hf2 HS HSO F1;cases r with
 | bad p er=>
  obtain⟨he,he0⟩:=hsa;have he:e = .returned (.tuple #[.agg #[.slice none 0 0,.slice none 0 0,.slice none 0 0,.slice none 0 0,.slice none 0 0,.slice none 0 0],.int .i64 (p:Nat),.int .i64 (er:Nat)]):=he;subst he;have heb:((er:Int)==0)=false:=beq_eq_false_iff_ne.2 (by omega);have hne:((er:Int) != 0)=true:=by rw[bne,heb];rfl
  clear he0;go_wp2_with fail
  go_ret;exact⟨rfl,F2.out.alloc _⟩
 | good p=>
  have HI:=hid (source_is HR.out).1;obtain⟨g,ub,zb,hg,pf,rfl⟩:=source_prog hsa HI.out;subst hg;rw[pf.val];have P2:=hid (pf.no ((Fr.refl nob w2).alloc (.cells #[.slice (some ⟨g.nb,0,none⟩) g.p.ns.length g.nc,.slice (some ⟨g.fb,0,none⟩) g.p.fs.length g.fc,.slice (some ⟨g.tb,0,none⟩) g.p.ns.length g.tc,.slice (some ⟨g.sb,0,none⟩) g.p.ns.length g.sc,.slice (some ⟨ub,0,none⟩) g.p.ns.length g.uc,.slice (some ⟨zb,0,none⟩) g.p.fs.length g.zc] 29)));have F3:=hid (F2.out.alloc (.cells #[.slice (some ⟨g.nb,0,none⟩) g.p.ns.length g.nc,.slice (some ⟨g.fb,0,none⟩) g.p.fs.length g.fc,.slice (some ⟨g.tb,0,none⟩) g.p.ns.length g.tc,.slice (some ⟨g.sb,0,none⟩) g.p.ns.length g.sc,.slice (some ⟨ub,0,none⟩) g.p.ns.length g.uc,.slice (some ⟨zb,0,none⟩) g.p.fs.length g.zc] 29));have BP:=hid (Blk.new w2 29 #[.slice (some ⟨g.nb,0,none⟩) g.p.ns.length g.nc,.slice (some ⟨g.fb,0,none⟩) g.p.fs.length g.fc,.slice (some ⟨g.tb,0,none⟩) g.p.ns.length g.tc,.slice (some ⟨g.sb,0,none⟩) g.p.ns.length g.sc,.slice (some ⟨ub,0,none⟩) g.p.ns.length g.uc,.slice (some ⟨zb,0,none⟩) g.p.fs.length g.zc]);have hf6:(g.p.fs.length:Int)≤6:=by have:=HI.out.tree.ok.fewf;omega
  have hn3:(g.p.ns.length:Int)≤300:=by have:=HI.out.tree.ok.few;omega
  obtain⟨m,hm⟩:∃m,m=g.p.fs.length:=⟨_,rfl⟩;obtain⟨n,hn⟩:∃n,n=g.p.ns.length:=⟨_,rfl⟩;have HM:=hid hm;have HN:=hid hn;rw[←hm,←hn] at BP F3 P2;rw[←hm] at hf6;rw[←hn] at hn3;rw[←hm,←hn];clear hsa pf F2 hm hn;obtain⟨p0,p1,p2,p3,p4,p5,-⟩:=BP.out.sixth;go_upto_region 3 with fail;clear p0 p1 p2 p3 p4 p5;generalize w2.alloc (.cells #[.slice (some ⟨g.nb,0,none⟩) n g.nc,.slice (some ⟨g.fb,0,none⟩) m g.fc,.slice (some ⟨g.tb,0,none⟩) n g.tc,.slice (some ⟨g.sb,0,none⟩) n g.sc,.slice (some ⟨ub,0,none⟩) n g.uc,.slice (some ⟨zb,0,none⟩) m g.zc] 29)=w4 at *;generalize w2.heap.size=PB at *;obtain⟨p0,p1,p2,p3,p4,p5,-⟩:=BP.out.sixth;have hnn:((n:Int) != (n:Int))=false:=by simp
  have hmm:((m:Int) != (m:Int))=false:=by simp
  go_wp2_with fail
  clear p0 p1 p2 p3 p4 p5;go_loopw [8] (fun i wr=>∃j:Nat,j≤n∧i = .int .i64 j∧Hid (Fr nob w4 wr)) (fun i _=>n - (intOf i).toNat)
  case atStart=>exact⟨0,Nat.zero_le _,rfl,hid (Fr.refl _ _)⟩
  case round=>
   as_aux_lemma=>
    obtain⟨j,hj,rfl,F⟩:=hrel;by_cases hlt:j<n
    · obtain⟨nd,hnd⟩:∃nd,g.p.ns[j]?=some nd:=⟨_,List.getElem?_eq_getElem (by rw[←HN.out];exact hlt)⟩
      obtain⟨k,z,t,v,q1,q2,q3,q4,q5,hc⟩:=ty_facts HI.out hnd;have PR:=hid (P2.out.no F.out);have u0:=PR.out.fnc q1;have u1:=PR.out.szc q3;have u2:=PR.out.tyc q4;have u3:=PR.out.slc q5;obtain⟨kd,line,nn,nm,l⟩:=nd;obtain⟨NA,NC,hno,hnc,ncell⟩:=PR.out.pg.nodeRow hnd;obtain⟨e0,e1,e2,e3,e4⟩:=ncell wr (Fr.refl _ _);obtain⟨p0,p1,p2,p3,p4,p5,-⟩:=(BP.out.fr F.out (fun x=>x)).sixth;have hlt2:(j:Int)<(n:Int):=by omega
      have hk2:(k:Int)<(m:Int):=by have:=HM.out;omega
      have hk0:decide ((k:Int)<0)=false:=by simp
      have hk1:decide (m≤k)=false:=by simp;have:=HM.out;omega
      have hz1:decide ((z:Int) ≤ -1)=false:=by simp;omega
      have HJ:=hid hlt;have HC:=hid hc;have HQ1:=hid q1;have HQ3:=hid q3;have HQ5:=hid q5;clear hlt hj ncell q1 q2 q3 q5 hc hnd;dsimp only at e0 e1 e2 e3 e4 hnc hno;obtain⟨L,hL⟩:∃L,l.length=L:=⟨_,rfl⟩;rw[hL] at e4 hnc hno;have PR6:=hid (PR.out.no ((Fr.refl nob wr).alloc (.cells #[.int .i64 (kd:Nat),.int .i64 (line:Nat),.int .i64 (nn:Nat),.string (bs nm),.slice NA L NC] 50)));have BP6:=hid ((BP.out.fr F.out (fun x=>x)).alloc (.cells #[.int .i64 (kd:Nat),.int .i64 (line:Nat),.int .i64 (nn:Nat),.string (bs nm),.slice NA L NC] 50));have BN6:=hid (Blk.new wr 50 #[.int .i64 (kd:Nat),.int .i64 (line:Nat),.int .i64 (nn:Nat),.string (bs nm),.slice NA L NC]);have F6:=hid (F.out.alloc (.cells #[.int .i64 (kd:Nat),.int .i64 (line:Nat),.int .i64 (nn:Nat),.string (bs nm),.slice NA L NC] 50));have HNO:=hid (hno.alloc (.cells #[.int .i64 (kd:Nat),.int .i64 (line:Nat),.int .i64 (nn:Nat),.string (bs nm),.slice NA L NC] 50));have HT:=hid (show g.p.types[j]?=some t from q4);clear hno;go_upto_region 12 with fail;clear e0 e1 e2 e3 e4 p0 p1 p2 p3 p4 p5 u0 u1 u2 u3 PR F;generalize wr.alloc (.cells #[.int .i64 (kd:Nat),.int .i64 (line:Nat),.int .i64 (nn:Nat),.string (bs nm),.slice NA L NC] 50)=w6 at *;generalize wr.heap.size=B at *;have u0:=PR6.out.fnc HQ1.out;have u1:=PR6.out.szc HQ3.out;have u2:=PR6.out.tyc HT.out;have u3:=PR6.out.slc HQ5.out;obtain⟨-,-,p2,p3,p4,p5,-⟩:=BP6.out.sixth;have d0:=(BN6.out.cell 0).trans rfl;have d4:=(BN6.out.cell 4).trans rfl;have FW:=hid (Fr.refl nob w6);go_upto_if 87 with fail;go_cut [11] (fun v wx=>v = .int .i64 (bOf g.p l:Nat)∧Hid (Fr nob w6 wx))
      case first=>
       as_aux_lemma=>
        cases l with
        | nil=>
          have hL:0=L:=hL;subst hL;go_wp2_with fail
          go_meet
          exact⟨rfl,FW⟩
        | cons a q=>
          obtain⟨b,hb⟩:=HC.out.fst;have u4:=PR6.out.tyc hb;have HB2:=hid (bOf_some (q:=q) hb);have hal:a<n:=by rw[HN.out,←HI.out.lt];exact (List.getElem?_eq_some_iff.1 hb).1
          have ha3:(a:Int)<(n:Int):=by omega
          have hL1:1≤L:=by rw[←hL];simp
          obtain⟨kb,e,kc⟩:=HNO.out.some hL1;subst e;have k0:=kc 0 (.int .i64 (a:Nat)) rfl;have hL2:(0:Int)<(L:Int):=by omega
          clear hb hal kc hL hL1 HC HNO;go_wp2_with fail
          go_quiet (fail)
          go_wp2_with fail
          go_meet
          exact⟨by rw[HB2.out],hid ((Fr.refl _ _).drewN _)⟩
      case rest=>
        obtain⟨rfl,F7⟩:=hcut;have PR7:=hid (PR6.out.no F7.out);have BP7:=hid (BP6.out.fr F7.out (fun x=>x));have BN7:=hid (BN6.out.fr F7.out (fun x=>x));have HNO7:=hid (HNO.out.fr F7.out (fun _ _ x=>x));have F8:=hid (F6.out.tr F7.out);clear u0 u1 u2 u3 p2 p3 p4 p5 d0 d4 PR6 BP6 BN6 HNO F6 F7 FW;generalize wc=w7 at *;have u0:=PR7.out.fnc HQ1.out;have u1:=PR7.out.szc HQ3.out;have u3:=PR7.out.slc HQ5.out;obtain⟨-,-,p2,p3,p4,p5,-⟩:=BP7.out.sixth;have d0:=(BN7.out.cell 0).trans rfl;have d4:=(BN7.out.cell 4).trans rfl;go_upto_region 16 with fail;go_cut [12] (fun v wx=>v = .bool (nameK kd)∧wx=w7)
        case first=>
         as_aux_lemma=>
          by_cases h4:kd=4
          · subst h4
            go_wp2_with fail
            go_meet
            exact⟨rfl,rfl⟩
          by_cases h5:kd=5
          · subst h5
            go_wp2_with fail
            go_meet
            exact⟨rfl,rfl⟩
          by_cases h10:kd=10
          · subst h10
            go_wp2_with fail
            go_meet
            exact⟨rfl,rfl⟩
          by_cases h11:kd=11
          · subst h11
            go_wp2_with fail
            go_meet
            exact⟨rfl,rfl⟩
          by_cases h12:kd=12
          · subst h12
            go_wp2_with fail
            go_meet
            exact⟨rfl,rfl⟩
          have HK:=hid (show nameK kd=false from by simp[nameK];omega);have i4:((kd:Int)==4)=false:=beq_eq_false_iff_ne.2 (by omega);have i5:((kd:Int)==5)=false:=beq_eq_false_iff_ne.2 (by omega);have i10:((kd:Int)==10)=false:=beq_eq_false_iff_ne.2 (by omega);have i11:((kd:Int)==11)=false:=beq_eq_false_iff_ne.2 (by omega);have i12:((kd:Int)==12)=false:=beq_eq_false_iff_ne.2 (by omega);clear h4 h5 h10 h11 h12;go_wp2_with fail
          go_meet
          exact⟨by rw[HK.out],rfl⟩
        case rest=>
          obtain⟨rfl,rfl⟩:=hcut;go_upto_region 17 with fail;go_cut [12,162] (fun nk v wx=>nk = .bool (nameK kd)∧v = .bool false∧Hid (Fr nob wc wx))
          case first=>
           as_aux_lemma=>
            have hs:=HC.out.slot;dsimp only at hs;rcases hs with ⟨hk,v',rfl,hv⟩|⟨hk,rfl⟩
            · rw[hk]
              have HK:=hid hk;have hv1:decide (z≤v')=false:=by simp;omega
              clear hk hv HC;go_quiet (fail)
              go_wp2_with fail
              go_meet
              exact⟨by rw[HK.out],rfl,hid ((Fr.refl _ _).drewN _)⟩
            · rw[hk]
              have HK:=hid hk;clear hk HC;go_quiet (fail)
              go_wp2_with fail
              go_meet
              exact⟨by rw[HK.out],rfl,hid ((Fr.refl _ _).drewN _)⟩
          case rest=>
            obtain⟨rfl,rfl,F9⟩:=hcut;have PR9:=hid (PR7.out.no F9.out);have BN9:=hid (BN7.out.fr F9.out (fun x=>x));have BP9:=hid (BP7.out.fr F9.out (fun x=>x));have HNO9:=hid (HNO7.out.fr F9.out (fun _ _ x=>x));have F10:=hid (F8.out.tr F9.out);clear u0 u1 u3 p2 p3 p4 p5 d0 d4 PR7 BP7 BN7 HNO7 F8 F9 hk0 hk1 hz1;rename_i w9
            obtain⟨-,-,p2,-,-,-,-⟩:=BP9.out.sixth;have d0:=(BN9.out.cell 0).trans rfl;have d4:=(BN9.out.cell 4).trans rfl;have hcc:=HC.out;clear HC;cases hcc
            case' leaf h=>rcases h with ⟨rfl,rfl⟩|⟨rfl,rfl⟩|⟨rfl,rfl⟩|⟨rfl,rfl⟩
            case' var v' hv h=>have ht1:(1:Int)≤(t:Int):=by omega
            case' un a b ha h=>
              rw[bOf_some ha];rcases h with ⟨rfl,rfl,rfl⟩|⟨rfl,rfl,rfl⟩|⟨rfl,rfl,rfl⟩|⟨rfl,rfl,rfl⟩|⟨rfl,rfl,rfl⟩
            case' named a b v' ha hv h=>
              rw[bOf_some ha];rcases h with ⟨rfl,rfl,rfl⟩|⟨rfl,rfl⟩|⟨rfl,rfl⟩
            case' bin a b u ha hb h h1 h3=>
              rw[bOf_some ha];have u5:=PR9.out.tyc hb;have hbl:(b:Int)<(n:Int):=by have:=(List.getElem?_eq_some_iff.1 hb).1;rw[HI.out.lt,←HN.out] at this;omega
              have hL2:L=2:=hL.symm;subst hL2;obtain⟨kb,e,kc⟩:=HNO9.out.some (by decide);subst e;have k1:=kc 1 (.int .i64 (b:Nat)) rfl;have i1:(1:Int)≤(t:Int):=by omega
              have i3:(t:Int)≤3:=by omega
              have iu:(u:Int)≤3:=by omega
              have j1:decide (1≤t)=true:=by simp;omega
              have j3:decide (t≤3)=true:=by simp;omega
              have ju:decide (u≤3)=true:=by simp;omega
              clear kc
            case' put a b v' ha hb hv=>
              rw[bOf_some ha];have u5:=PR9.out.tyc hb;have hbl:(b:Int)<(n:Int):=by have:=(List.getElem?_eq_some_iff.1 hb).1;rw[HI.out.lt,←HN.out] at this;omega
              have hL2:L=2:=hL.symm;subst hL2;obtain⟨kb,e,kc⟩:=HNO9.out.some (by decide);subst e;have k1:=kc 1 (.int .i64 (b:Nat)) rfl;clear kc
            case' print a b ha h1 h=>
              rw[bOf_some ha];have i1:(1:Int)≤(b:Int):=by omega
              have i3:(b:Int)≤3:=by omega
            case' test a m ha hk=>
              rw[bOf_some ha];rcases hk with rfl|rfl
            case' none h=>rcases h with rfl|⟨rfl,rfl⟩|⟨rfl,rfl⟩|⟨rfl,rfl⟩
            case' some a b m ha h=>rcases h with rfl|⟨rfl,rfl⟩|⟨rfl,rfl⟩|⟨rfl,rfl⟩
            all_goals
              as_aux_lemma=>
              clear HQ1 HQ3 HQ5 HT PR9 BN9 BP9 HNO9 P2;go_wp2_with fail
              try (go_quiet (fail);go_wp2_with fail)
              go_roundw
              case rel=>exact⟨j+1,by have:=HJ.out;omega,by go_num,by first|exact F10|exact hid (F10.out.drewN _)⟩
              case measure=>simp[intOf];have:=HJ.out;omega
    · have hlt2:¬(j:Int)<(n:Int):=by omega
      go_wp2_with fail
      go_ret;exact⟨rfl,F3.out.tr F.out⟩
end Go.Proofs.YtlbjicjinnnboaaGreatDoor
