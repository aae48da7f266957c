/- MaR: CkCallB, CkE, CkL, CkRet. -/
import Derived.Test.YtlbjicjinnnboaaGreatDoorMaQ
import Derived.Test.YtlbjicjinnnboaaGreatDoorMaG
set_option maxHeartbeats 8000000
set_option maxRecDepth 100000
set_option linter.unusedVariables false
set_option linter.unusedSimpArgs false
/- The document's checker: call, walked. -/
namespace Go.Proofs.YtlbjicjinnnboaaGreatDoor
open Go.RowKit Go.Proofs.Tryz
open Pw
variable {x line:Nat}{nm:List UInt8}
section
variable {G:Geo}{w w':World}{s:CkS}{zs:List Nat}{k:Nat}{ex:Nat->CkS->CkR (Nat×CkS)}
theorem aHw (hu:(G.fs.map (·.name)).Nodup){l:List Nat} (h:Ck G w s zs k 0 0) (hx:G.ns[x]?=some ⟨21,line,0,nm,l⟩) (hl:∀a∈l,gW G zs k ex a):
  Calls prog 211 #[.pointer (some ⟨G.g,0,none⟩),.int .i64 x] w (iJ G zs k (kU G.fs ex x ⟨21,line,0,nm,l⟩ s) w):=by
 have M0:Hd (CkM G w (.good s) zs k):=h;obtain⟨nb,nc,kv,hnv,hkv,hown,nlt,hx3,c0,x0,x1,x2,x3,x4⟩:=M0.o.node hx;dsimp only at hown x0 x1 x2 x3 x4;have hx4:(G.ns.length:Int)≤300:=by have:=h.geo.few;omega
 have glt:=h.jB;have gn:¬G.g=w.heap.size:=by omega
 have nn:¬nb=w.heap.size:=by omega
 obtain⟨KA,KC,rfl,-,-⟩:=hown.cap;have HK:=hD (And.intro hx hkv);have hl3:l.length≤300:=h.geo.fewk _ (List.mem_of_getElem? hx);have hf6:(G.fs.length:Int)≤6:=by have:=h.geo.fewf;omega
 have hf0:0<G.fs.length:=by have:=h.kk;omega
 obtain⟨f0,hf0⟩:∃f,G.fs[0]?=some f:=⟨_,gE hf0⟩;have HL:=hD hl;have HU:=hD hu;obtain⟨fb,fc,pv0,hfv,flt,c1,-⟩:=M0.o.fnc hf0;have HFV:=hD hfv;have C1:=hD (CkC.new M0 50 #[.int .i64 21,.int .i64 line,.int .i64 0,.string (bs nm),.slice KA l.length KC] (by decide));have F1:Hd (Fr nob w (w.alloc (.cells #[.int .i64 21,.int .i64 line,.int .i64 0,.string (bs nm),.slice KA l.length KC] 50))):=(fR w).alloc _;have HF0:=hD hf0;clear h hx hkv hown hl hu hf0 hfv;go_enter func211,ntmps211;go_wp2_with fail
 clear c0 x0 x1 x2 x3 x4 glt gn nlt nn c1 flt;generalize w.alloc (.cells #[.int .i64 21,.int .i64 line,.int .i64 0,.string (bs nm),.slice KA l.length KC] 50)=w1 at *;generalize hC:w.heap.size=C at *;have HC:=hD hC;clear hC;go_loopw [6,7] (λq i wr=>∃j:Nat,j≤G.fs.length∧i = .int .i64 j∧q = .int .i64 (zV (findF (G.fs.take j) nm))∧Hd (Fr nob w1 wr)) (λq i _=>G.fs.length - (intOf i).toNat)
 case atStart=>exact⟨0,Nat.zero_le _,rfl,rfl,hD (fR w1)⟩
 case round=>
  obtain⟨j,hj,rfl,rfl,FR⟩:=hrel;have C2:=hD (C1.o.no FR);by_cases hlt:j<G.fs.length
  . have hlt2:(j:Int)<(G.fs.length:Int):=by omega
    have hj6:(j:Int)≤6:=by omega
    obtain⟨f,hf⟩:∃f,G.fs[j]?=some f:=⟨_,gE hlt⟩;obtain⟨fb',fc',pv,hfv,flt,c1,-,-,y0,-⟩:=C2.o.m.fnc hf;have d3:wr.cell? ⟨C,3,none⟩=some (.string (bs nm)):=by simpa using C2.o.b.cell 3
    have HT:=hD (aCx HU hf nm);clear hf hfv;by_cases he:f.name=nm
    . have q0:((bs f.name).toList==(bs nm).toList)=true:=aDu.2 he
      rw[if_pos he] at HT;clear he;go_wp2_with fail
      go_quiet (fail)
      go_wp2
      go_roundw
      case rel=>exact⟨j+1,by omega,by go_num,by rw[HT.o];rfl,hD (by first|exact FR.o|exact FR.o.drewN _)⟩
      case measure=>simp[intOf];omega
    . have q0:((bs f.name).toList==(bs nm).toList)=false:=by
        rw[Bool.eq_false_iff];intro x;exact he (aDu.1 x)
      rw[if_neg he] at HT;clear he;go_wp2_with fail
      go_quiet (fail)
      go_wp2
      go_roundw
      case rel=>exact⟨j+1,by omega,by go_num,by rw[HT.o],hD (by first|exact FR.o|exact FR.o.drewN _)⟩
      case measure=>simp[intOf];omega
  . have hle:(G.fs.length:Int)≤(j:Int):=by omega
    rw[List.take_of_length_le (by omega)];obtain⟨_,_,_,hfv,flt,c1,-⟩:=C2.o.m.fnc HF0.o;rw[HFV.o] at hfv;injection hfv with e1 e2 e3;injection e1 with e1;injection e1 with e1;subst e1;subst e3;cases hF:findF G.fs nm with
    | none=>
      have E:=hD (show kU G.fs ex x ⟨21,line,0,nm,l⟩ s = .bad 40 x from by unfold kU;rw[hF]);clear hF e2;go_wp2_with fail
      refine dR (C2.o.m.fails 40 x (by decide) (by decide)) λw3 M3 F3=>?_;go_wp2
      go_ret;refine⟨0,rfl,?_,(FrK.no (F1.o.tr FR)).trans F3,λq hq=>?_⟩
      . rw[E.o];exact M3.o
      . rw[E.o] at hq;cases hq
    | some q=>
      have hq:q<G.fs.length:=by unfold findF at hF;exact (List.findIdx?_eq_some_iff_getElem.1 hF).1
      obtain⟨f,hf⟩:∃f,G.fs[q]?=some f:=⟨_,gE hq⟩;have E:=hD (show kU G.fs ex x ⟨21,line,0,nm,l⟩ s=(bH ex l s).bind λr=>if r.1.length≠f.params.length then .bad 43 x else if r.1≠f.params.map (·.2) then .bad 42 x else .good (f.ret,r.2) from by
        unfold kU;rw[hF];simp only[hf,Option.map_some,Option.getD_some])
      have hq3:(q:Int)<(G.fs.length:Int):=by omega
      obtain⟨_,_,pv,hfv,-,-,hpv,hpo,y0,y1,y2,y3,y4⟩:=C2.o.m.fnc hf;rw[HFV.o] at hfv;injection hfv with e1 e2 e3;injection e1 with e1;injection e1 with e1;subst e1;obtain⟨PA,PC,rfl,-,-⟩:=hpo.cap;have gn:¬G.g=wr.heap.size:=by have:=C2.o.m.xM;omega
      have fn:¬fb=wr.heap.size:=by omega
      have hq0:¬(q:Int)<0:=by omega
      clear e2 e3 hF;rw[show zV (some q)=((q:Nat):Int) from rfl];have HQ:=hD (And.intro hf hpv);have hpl:f.params.length≤3:=C2.o.m.geo.fewp f (List.mem_of_getElem? hf);have hpl2:(f.params.length:Int)≤3:=by omega
      have hll2:(l.length:Int)≤300:=by omega
      have hll4:(l.length:Int)≤9223372036854775807:=by omega
      clear hf hpv hpo;have D0:Hd (Blk ((wr.alloc (.cells #[.string (bs f.name),.int .i64 f.line,.slice PA f.params.length PC,.int .i64 f.ret,.int .i64 f.body] 48)).alloc (.cells #[] 3)) wr.heap.size 48 #[.string (bs f.name),.int .i64 f.line,.slice PA f.params.length PC,.int .i64 f.ret,.int .i64 f.body]):=(Blk.new wr _ _).alloc _;have F2:Hd (Fr nob wr ((wr.alloc (.cells #[.string (bs f.name),.int .i64 f.line,.slice PA f.params.length PC,.int .i64 f.ret,.int .i64 f.body] 48)).alloc (.cells #[] 3))):=((fR wr).alloc _).alloc _;have W0:=hD (show CkW G (λw=>Blk w C 50 #[.int .i64 21,.int .i64 line,.int .i64 0,.string (bs nm),.slice KA l.length KC]∧Blk w wr.heap.size 48 #[.string (bs f.name),.int .i64 f.line,.slice PA f.params.length PC,.int .i64 f.ret,.int .i64 f.body]) ((wr.alloc (.cells #[.string (bs f.name),.int .i64 f.line,.slice PA f.params.length PC,.int .i64 f.ret,.int .i64 f.body] 48)).alloc (.cells #[] 3)) (.good s) zs k from ⟨C2.o.m.no F2,⟨C2.o.b.fr F2 (λx=>x),D0⟩,aOm (aMc C2.o.n0 C2.o.n1 C2.o.n2 C2.o.n3 (by decide)) (aOl C2.o.m (Nat.le_refl _) (by decide))⟩);have O0:Hd (Own ((wr.alloc (.cells #[.string (bs f.name),.int .i64 f.line,.slice PA f.params.length PC,.int .i64 f.ret,.int .i64 f.body] 48)).alloc (.cells #[] 3)) 3 1 (.slice (some ⟨wr.heap.size+1,0,none⟩) 0 0) 0 (ints [])):=Own.empty _ _ _ _;have FK:Hd (FrK G w ((wr.alloc (.cells #[.string (bs f.name),.int .i64 f.line,.slice PA f.params.length PC,.int .i64 f.ret,.int .i64 f.body] 48)).alloc (.cells #[] 3))):=FrK.no ((F1.o.tr FR).tr F2);have HZ:=hD (show G.Z≤C from by rw[<-HC.o];exact M0.o.Zle);go_wp2_with fail
      clear y0 y1 y2 y3 y4 gn fn flt c1 D0 F2;generalize (wr.alloc (.cells #[.string (bs f.name),.int .i64 f.line,.slice PA f.params.length PC,.int .i64 f.ret,.int .i64 f.body] 48)).alloc (.cells #[] 3)=w3 at *;generalize wr.heap.size=D at *;clear C2 FR C1 F1;go_loopw [9,10] (λtv i wq=>∃(j:Nat) (tl:List Nat) (A:Option Addr) (c:Nat),j≤l.length∧i = .int .i64 j∧tv = .slice A j c∧Hd (CkW G (λw=>Blk w C 50 #[.int .i64 21,.int .i64 line,.int .i64 0,.string (bs nm),.slice KA l.length KC]∧Blk w D 48 #[.string (bs f.name),.int .i64 f.line,.slice PA f.params.length PC,.int .i64 f.ret,.int .i64 f.body]) wq ((bH ex (l.take j) s).map (·.2)) zs k)∧Hd (Own wq 3 1 (.slice A j c) j (ints tl))∧Hd (∀b,blk (.slice A j c)=some b->C≤b)∧Hd (∀q,bH ex (l.take j) s = .good q->q.1=tl)∧Hd (FrK G w wq)) (λ_ i _=>l.length - (intOf i).toNat)
      case atStart=>exact⟨0,[],_,_,Nat.zero_le _,rfl,rfl,W0,O0,hD (λb hb=>by simp[blk] at hb),hD (λq hq=>by injection hq with hq;subst hq;rfl),FK⟩
      case round=>
        clear W0 O0 FK;obtain⟨j2,tl,A,c,hj2,rfl,rfl,W,O,OB,HG,FK⟩:=hrel;have htl:tl.length=j2:=by have:=O.o.len;simpa[ints] using this
        obtain⟨s',e,p,hck,hm⟩:=W.o.m.open_;obtain⟨_,_,-,-,-,-,-,-,-,-,-,c9,-⟩:=hck.cells;have d4:wr.cell? ⟨C,4,none⟩=some (.slice KA l.length KC):=by simpa using W.o.q.1.cell 4
        by_cases hgo:j2<l.length∧e=0
        . obtain⟨hlt,rfl⟩:=hgo
          have hlt2:(j2:Int)<(l.length:Int):=by omega
          obtain⟨a,ha⟩:∃a,l[j2]?=some a:=⟨_,gE hlt⟩;obtain⟨kb,e,k0,-,hkc⟩:=W.o.m.aMd HK.o.1 HK.o.2 (j:=j2) ha;subst e;have HA:=hD (HL a (List.mem_of_getElem? ha));have HT:=hD (show l.take (j2+1)=l.take j2++[a] from by rw[List.take_add_one,ha];rfl);have HTL:=hD htl;have HHJ:=hD hlt;clear hck hm ha htl;go_wp2_with fail
          refine (HA wr _ W.o.m).mono ?_;rintro en w4 ⟨t,rfl,h4,f4,hq4⟩;have W4:=hD (W.o.to h4 f4);have O4:=hD (aGx W.o.m.geo (by decide) (λb hb=>Nat.le_trans HZ (OB b hb)) _ _ f4 O);have F4:=hD (FK.o.trans f4);have HQ4:=hD hq4;clear h4 f4 hq4 c9 d4 k0;go_wp2_with (at_builtin;go_loud (refine aI (m:=1) (news:=[.int .i64 (t:Nat)]) rfl _ _ rfl fJ rfl rfl (O4.o.alloc _) (Rd.eD (n:=1) (cs:=[.int .i64 (t:Nat)]) (Blk.new _ _ _) rfl (by decide)) (by simp[Value.oneCell']) (by omega) (by unfold maxLen;omega) ?_);intro A5 c5 w5 ho5 hf5 hv5;have O5:=hD ho5;have F5:=hD hf5;have V5:=hD hv5;clear ho5 hf5 hv5)
          have W5:=hD (show CkW G _ w5 _ zs k from ⟨(W4.o.m.no ((fR w4).alloc (.cells #[.int .i64 (t:Nat)] 3))).app (O4.o.alloc _) (by decide) (λb hb=>Nat.le_trans HZ (OB b hb)) F5,
            ⟨(W4.o.q.1.alloc _).fr F5 (λhm=>(O4.o.alloc (.cells #[.int .i64 (t:Nat)] 3)).aD (W4.o.q.1.alloc (.cells #[.int .i64 (t:Nat)] 3)) (by decide) hm),(W4.o.q.2.alloc _).fr F5 (λhm=>(O4.o.alloc (.cells #[.int .i64 (t:Nat)] 3)).aD (W4.o.q.2.alloc (.cells #[.int .i64 (t:Nat)] 3)) (by decide) hm)⟩,W4.o.kp⟩)
          have FK5:=hD ((F4.o.trans (FrK.no ((fR w4).alloc (.cells #[.int .i64 (t:Nat)] 3)))).app F5 (λb hb=>by rw[HC.o];exact OB b hb));have OB5:=hD (show ∀b,blk (.slice A5 (j2+1) c5)=some b->C≤b from λb hb=>by
            rcases V5.o with h9|h9
            . exact OB b (h9 ▸ hb)
            . rw[hb] at h9;injection h9 with h9
              have:=F4.o.size;rw[HC.o] at this;simp at h9;omega)
          go_roundw
          case rel=>
            refine⟨j2+1,tl++[t],A5,c5,by have:=HHJ.o;omega,by go_num,rfl,hD ?_,hD ?_,OB5,hD ?_,FK5⟩
            . have h9:=W5.o
              rw[HT.o,lJ];have e9:((((bH ex (l.take j2) s).map (·.2)).bind (ex a)).map (·.2))=((bH ex (l.take j2) s).bind λr=>(ex a r.2).map λq=>(r.1++[q.1],q.2)).map (·.2):=by
                cases bH ex (l.take j2) s with
                | bad e p=>rfl
                | good u=>
                  simp only[CkR.bK,CkR.aC];cases ex a u.2<;>rfl
              rw[<-e9];exact h9
            . have h9:=O5.o
              rw[show ints (tl++[t])=ints tl++[.int .i64 (t:Nat)] by simp[ints]];exact h9
            . intro q9 hq9
              rw[HT.o,lJ] at hq9;obtain⟨u,hu9,hq9⟩:=CkR.bind_eq hq9;obtain⟨v,hv9,hq9⟩:=CkR.map_eq hq9;subst hq9;have h8:=HG.o u hu9;have h7:=HQ4.o v (by rw[hu9];exact hv9)
              show u.1++[v.1]=_
              rw[h8,h7]
          case measure=>simp[intOf];have:=HHJ.o;omega
        . have EX:=hD (show CkW G (λw=>Blk w C 50 #[.int .i64 21,.int .i64 line,.int .i64 0,.string (bs nm),.slice KA l.length KC]∧Blk w D 48 #[.string (bs f.name),.int .i64 f.line,.slice PA f.params.length PC,.int .i64 f.ret,.int .i64 f.body]) wr ((bH ex l s).map (·.2)) zs k∧(∀q,bH ex l s = .good q->q.1=tl) from by
            by_cases hj9:j2<l.length
            . have he:e≠0:=λh=>hgo ⟨hj9,h⟩
              rcases hm with ⟨h0,_⟩|⟨_,h99,hm⟩
              . exact absurd h0 he
              . have hb:bH ex (l.take j2) s = .bad e p:=by
                  cases hA:bH ex (l.take j2) s with
                  | bad e' p'=>rw[hA] at hm;simpa using hm
                  | good u=>rw[hA] at hm;cases hm
                have hb2:bH ex l s = .bad e p:=by
                  have:=aIh (l.take j2) (l.drop j2) s hb;rwa [List.take_append_drop] at this
                refine⟨⟨?_,W.o.q,W.o.kp⟩,λq hq=>by rw[hb2] at hq;cases hq⟩;rw[hb2];exact⟨he,h99,s',hck⟩
            . have:l.take j2=l:=List.take_of_length_le (by omega)
              have h1:=W.o;have h2:=HG.o;rw[this] at h1 h2;exact⟨h1,h2⟩)
          have HTL:=hD htl;have hj7:(j2:Int)≤300:=by omega
          have d2:wr.cell? ⟨D,2,none⟩=some (.slice PA f.params.length PC):=by simpa using W.o.q.2.cell 2
          have LE:=hD (show ∀r,bH ex l s = .good r->r.1.length=l.length from λr hr=>wU l s hr);have tail:∀(wz:World),Hd (CkW G (λw=>Blk w C 50 #[.int .i64 21,.int .i64 line,.int .i64 0,.string (bs nm),.slice KA l.length KC]∧Blk w D 48 #[.string (bs f.name),.int .i64 f.line,.slice PA f.params.length PC,.int .i64 f.ret,.int .i64 f.body]) wz (eO (bH ex l s) (f.params.map (·.2)) x 0) zs k)->True:=λ_ _=>trivial
          clear tail;by_cases hp:l.length=f.params.length
          case' pos=>
           have hpb:((l.length:Int) != (f.params.length:Int))=false:=by rw[hp];simp
           have W3:=hD (show CkW G _ wr (eO (bH ex l s) (f.params.map (·.2)) x 0) zs k from by
             rw[<-rM (λr hr=>by rw[LE.o r hr,List.length_map];exact hp)];exact EX.o.1)
           by_cases hlt:j2<l.length
           case' pos=>
            have hlt2:(j2:Int)<(l.length:Int):=by omega
            have he:((e:Int)==0)=false:=bN.2 (by intro h;exact hgo ⟨hlt,by omega⟩)
           case' neg=>
            have hle:(l.length:Int)≤(j2:Int):=by omega
           all_goals
            clear hgo hm hck hp hlt htl;go_wp2_with fail
            have WX:=W3;have OX:=O;have FX:=FK;have EX2:=hD EX.o.2;clear W3
          case' neg=>
           have hpb:((l.length:Int) != (f.params.length:Int))=true:=by rw[bne,bN.2 (by omega)];rfl
           have HN:=hD (λr (hr:bH ex l s = .good r)=>show r.1.length≠(f.params.map (·.2)).length by rw[LE.o r hr,List.length_map];exact hp);by_cases hlt:j2<l.length
           case' pos=>
            have hlt2:(j2:Int)<(l.length:Int):=by omega
            have he:((e:Int)==0)=false:=bN.2 (by intro h;exact hgo ⟨hlt,by omega⟩)
           case' neg=>
            have hle:(l.length:Int)≤(j2:Int):=by omega
           all_goals
            clear hgo hm hck hp hlt htl;go_wp2_with fail
            refine dR (EX.o.1.m.fails 43 x (by decide) (by decide)) λw6 h6 f6=>?_;have WX:=hD (show CkW G _ w6 (eO (bH ex l s) (f.params.map (·.2)) x 0) zs k from by rw[<-rJ HN.o];exact EX.o.1.to h6 f6);have OX:=hD (aGx W.o.m.geo (by decide) (λb hb=>Nat.le_trans HZ (OB b hb)) _ _ f6 O);have FX:=hD (FK.o.trans f6);have EX2:=hD EX.o.2;clear h6 f6 W O FK EX c9 d4 d2;go_wp2
          all_goals
           go_loopw [12] (λi wq=>∃i2:Nat,i2≤j2∧i = .int .i64 i2∧Hd (CkW G (λw=>Blk w C 50 #[.int .i64 21,.int .i64 line,.int .i64 0,.string (bs nm),.slice KA l.length KC]∧Blk w D 48 #[.string (bs f.name),.int .i64 f.line,.slice PA f.params.length PC,.int .i64 f.ret,.int .i64 f.body]) wq (eO (bH ex l s) (f.params.map (·.2)) x i2) zs k)∧Hd (Own wq 3 1 (.slice A j2 c) j2 (ints tl))∧Hd (FrK G w wq)) (λi _=>j2 - (intOf i).toNat)
           case atStart=>exact⟨0,Nat.zero_le _,rfl,WX,OX,FX⟩
           case round=>
             clear WX OX FX;try clear W O FK EX c9 d4 d2
             obtain⟨i2,hi2,rfl,W7,O7,F7⟩:=hrel;obtain⟨s7,e7,p7,hck,hm⟩:=W7.o.m.open_;obtain⟨_,_,-,-,-,-,-,-,-,-,-,c9,-⟩:=hck.cells;have d2:wr.cell? ⟨D,2,none⟩=some (.slice PA f.params.length PC):=by simpa using W7.o.q.2.cell 2
             have d3:wr.cell? ⟨D,3,none⟩=some (.int .i64 f.ret):=by simpa using W7.o.q.2.cell 3
             by_cases hgo:i2<j2∧e7=0
             . obtain⟨hlt,rfl⟩:=hgo
               have hlt2:(i2:Int)<(j2:Int):=by omega
               have hR:∃r,bH ex l s = .good r∧r.1.length=f.params.length:=by
                 rcases hm with ⟨_,_,hm⟩|⟨h0,_⟩
                 . obtain⟨r,hr,hm⟩:=CkR.bind_eq hm
                   refine⟨r,hr,?_⟩;split at hm
                   . cases hm
                   . rename_i h9;simpa using h9
                 . exact absurd rfl h0
               obtain⟨r,hr,hrl⟩:=hR;have hrt:=EX2.o r hr;have hi9:i2<f.params.length:=by rw[<-hrl,hrt,HTL.o];exact hlt
               have hi8:(i2:Int)<(f.params.length:Int):=by omega
               obtain⟨qq,hqq⟩:∃qq,f.params[i2]?=some qq:=⟨_,gE hi9⟩;obtain⟨ti,hti⟩:∃ti,tl[i2]?=some ti:=⟨_,gE (by rw[HTL.o];exact hlt)⟩;obtain⟨pb,e,-,p1⟩:=W7.o.m.aLy HQ.o.1 HQ.o.2 hqq;obtain⟨tb,e',hc⟩:=O7.o.some (by omega);have t0:=hc i2 (.int .i64 (ti:Nat)) (by simp[ints,hti]);subst e;subst e';obtain⟨b,hb⟩:∃b,((ti:Int)==(qq.2:Int))=b:=⟨_,rfl⟩;have HS:=hD (show ((eO (bH ex l s) (f.params.map (·.2)) x i2).bind λs=>if b=true then CkR.good s else .bad 42 x)=eO (bH ex l s) (f.params.map (·.2)) x (i2+1) from
                 qW (λr hr _ _=>by
                   rw[EX2.o r hr,hti,List.getElem?_map,hqq,<-hb,Bool.eq_iff_iff];simp only[Option.map_some,Option.some.injEq,beq_iff_eq,decide_eq_true_eq];omega) (λr hr=>by rw[EX2.o r hr,HTL.o];exact hlt))
               have K2:=hD d2;have KP:=hD p1;have KT:=hD t0;have HI:=hD hlt;have HQQ:=hD hqq;have HTI:=hD hti;clear hck hm hr hrl hrt hqq hti hc d3;clear hi9 hlt;go_wp2_with fail
               go_region_held3 (λwx=>wx.cell? ⟨D,2,none⟩=some (.slice (some ⟨pb,0,none⟩) f.params.length PC)∧wx.cell? ⟨tb,i2,none⟩=some (.int .i64 (ti:Nat))∧wx.cell? ⟨pb,i2*2+1,none⟩=some (.int .i64 (qq.2:Nat))) (first|exact⟨K2.o,KT.o,KP.o⟩|exact K8.o) (first|(go_at_call 176;go_loud (with_reducible refine ((W7.o.m.no ((fR wr).drew)).must _ x).mono ?_);go_loud (rintro en w8 ⟨rfl,h8,f8⟩);go_loud (have W8:=hD ((W7.o.no ((fR wr).drew)).to h8 f8));go_loud (have O8:=hD (aGx W8.o.m.geo (by decide) (λb hb=>Nat.le_trans HZ.o (OB.o b hb)) _ _ ((FrK.no ((fR wr).drew)).trans f8) O7.o));go_loud (have F8:=hD (F7.o.trans ((FrK.no ((fR wr).drew)).trans f8)));go_loud (have K8:=hD (W8.o.m.three HQ.o.1 HQ.o.2 HQQ.o W8.o.q.2 rfl O8.o HTI.o));go_loud (clear h8 f8)))
               go_wp2
               go_roundw
               case rel=>exact⟨i2+1,by have:=HI.o;omega,by go_num,hD (by rw[<-HS.o];first|exact W8.o|exact W8.o.no ((fR _).drew)),hD (by first|exact O8.o|exact O8.o.drewN _),hD (by first|exact F8.o|exact F8.o.trans (FrK.no ((fR _).drew)))⟩
               case measure=>simp[intOf];have:=HI.o;omega
             . have HF:=hD (show CkM G wr ((kU G.fs ex x ⟨21,line,0,nm,l⟩ s).map (·.2)) zs k from by
                 rw[E.o,<-aDz (i:=j2) (λr hr=>by rw[EX2.o r hr,HTL.o];exact Nat.le_refl _)];rcases hm with ⟨h0,_,hm⟩|⟨h0,h99,hm⟩
                 . have:i2=j2:=by
                     by_cases h:i2<j2
                     . exact absurd ⟨h,h0⟩ hgo
                     . omega
                   rw[<-this];exact W7.o.m
                 . rw[aEa hm hi2];exact⟨h0,h99,s7,hck⟩)
               by_cases hlt:i2<j2
               . have hlt2:(i2:Int)<(j2:Int):=by omega
                 have he:((e7:Int)==0)=false:=bN.2 (by intro h;exact hgo ⟨hlt,by omega⟩);clear hgo hm hck hlt;go_wp2
                 go_ret;exact⟨f.ret,rfl,HF,F7,λu hu=>by rw[E.o] at hu;exact tL hu⟩
               . have hle:(j2:Int)≤(i2:Int):=by omega
                 clear hgo hm hck hlt;go_wp2
                 go_ret;exact⟨f.ret,rfl,HF,F7,λu hu=>by rw[E.o] at hu;exact tL hu⟩
end
section
variable {G:Geo}{w w':World}{s:CkS}{r:CkR CkS}{zs:List Nat}{k:Nat}{ex:Nat->CkS->CkR (Nat×CkS)}
theorem yY (hu:(G.fs.map (·.name)).Nodup){l:List Nat} (h:Ck G w s zs k 0 0) (hx:G.ns[x]?=some ⟨21,line,0,nm,l⟩) (hl:∀a∈l,gW G zs k ex a):
  Calls prog 194 #[.pointer (some ⟨G.g,0,none⟩),.int .i64 x] w (iJ G zs k (bR G.fs ex x ⟨21,line,0,nm,l⟩ s) w):=by
 have M0:Hd (CkM G w (.good s) zs k):=h;obtain⟨nb,nc,kv,hnv,hkv,hown,nlt,hx3,c0,x0,x1,x2,x3,x4⟩:=M0.o.node hx;dsimp only at hown x0 x1 x2 x3 x4;have hx4:(G.ns.length:Int)≤300:=by have:=h.geo.few;omega
 have glt:=h.jB;have gn:¬G.g=w.heap.size:=by omega
 have nn:¬nb=w.heap.size:=by omega
 obtain⟨KA,KC,rfl,-,-⟩:=hown.cap;have HC:=hD (aHw hu (h.no ((fR w).alloc (.cells #[.int .i64 21,.int .i64 line,.int .i64 0,.string (bs nm),.slice KA l.length KC] 50))) hx hl);clear h hx hkv hown hl hu;rw[show bR G.fs ex x ⟨21,line,0,nm,l⟩ s=kU G.fs ex x ⟨21,line,0,nm,l⟩ s from rfl];go_enter func194,ntmps194;go_wp2_with fail
 refine HC.o.mono ?_;rintro en w2 ⟨t,rfl,h2,f2,hq⟩;have M2:=hD h2;have F2:=hD ((FrK.no ((fR w).alloc _)).trans f2);have HQ:=hD hq;clear h2 f2 hq;go_wp2
 go_ret;exact⟨t,rfl,M2,F2,HQ⟩
theorem aDg (hu:(G.fs.map (·.name)).Nodup){nd:aG} (h:Ck G w s zs k 0 0) (hx:G.ns[x]?=some nd) (hok:dU (G.ns.take x) nd) (hR:oD nd.kind=true) (hl:∀a∈nd.l,gW G zs k ex a):
  Calls prog 194 #[.pointer (some ⟨G.g,0,none⟩),.int .i64 x] w (iJ G zs k (bR G.fs ex x nd s) w):=by
 cases hok with
 | int line n hn=>exact aDe h hx
 | bool line n hn=>exact yZ h hx
 | text line nm=>exact yX h hx
 | var line nm=>exact aCz h hx
 | index line nm a ha=>exact wO h hx (hl a (by simp))
 | len line a ha=>exact aDd h hx (hl a (by simp))
 | neg line a ha=>exact aDc h hx (hl a (by simp))
 | not line a ha=>exact aDa h hx (hl a (by simp))
 | bin line nm a b hs ha hb=>exact aDf h hx hs (hl a (by simp)) (hl b (by simp))
 | input line=>exact wN h hx
 | new line a ha=>exact aDb h hx (hl a (by simp))
 | call line nm l hk=>exact yY hu h hx hl
 | _=>simp[oD,lH] at hR
theorem aDr (hu:(G.fs.map (·.name)).Nodup){f:Nat}{nd:aG} (hx:G.ns[x]?=some nd) (hok:dU (G.ns.take x) nd) (hR:oD nd.kind=true) (hl:∀a∈nd.l,gW G zs k (fD G.ns G.fs k f) a):gW G zs k (fD G.ns G.fs k (f+1)) x:=by
 intro w r h;have hx3:(x:Int)<(G.ns.length:Int):=by have:=(gK hx);omega
 have hx4:(G.ns.length:Int)≤300:=by have:=h.geo.few;omega
 cases r with
 | bad e p=>
  have M0:=hD h;obtain⟨he,h99,s,hck⟩:=h;obtain⟨_,_,-,-,-,-,-,-,-,-,-,c9,-⟩:=hck.cells;have heb:((e:Int) != 0)=true:=by rw[bne,bN.2 (by omega)];rfl
  clear hck he hl hx hok hR hu;go_enter func175,ntmps175;go_wp2
  go_ret;exact⟨0,rfl,M0,FrK.refl _ _,λq hq=>by cases hq⟩
 | good s=>
  have hck:Ck G w s zs k 0 0:=h;obtain⟨_,_,-,-,-,-,-,-,-,-,-,c9,-⟩:=hck.cells;have HT:=hD (aDg hu hck hx hok hR hl);have E:=hD (show (CkR.good s).bind (fD G.ns G.fs k (f+1) x)=(bR G.fs (fD G.ns G.fs k f) x nd s).map λr=>(r.1,{ r.2 with types:=r.2.types.set x r.1,fn:=r.2.fn.set x k }) from by
    show fD G.ns G.fs k (f+1) x s=_
    unfold fD;rw[hx])
  clear h hck hx hok hR hl hu;generalize bR G.fs (fD G.ns G.fs k f) x nd s=q at *;rw[E.o];clear E;go_enter func175,ntmps175;go_wp2_with fail
  refine HT.o.mono ?_;rintro en w1 ⟨t,rfl,h1,f1,hq⟩;have F1:=hD f1;have HQ:=hD hq;obtain⟨s',e,p,hck,hm⟩:=h1.open_;have HM:=hD hm;clear h1 f1 hq hm c9;obtain⟨_,_,-,-,c2,-,-,-,-,-,-,-,-,-⟩:=hck.cells;obtain⟨⟨u,bt⟩,zt⟩:=hck.types.gM (j:=x) (by omega);have S2:=hD (hck.aPr x t);clear hck;go_wp2_with fail
  clear c2 bt zt;generalize w1.setCell ⟨G.bt,x,none⟩ (.int .i64 (t:Nat))=w2 at *;obtain⟨_,_,-,-,-,-,c4,-,c6,-⟩:=S2.o.1.cells;obtain⟨⟨u2,bf⟩,zf⟩:=S2.o.1.fn.gM (j:=x) (by omega);obtain⟨n1,n2,n3⟩:=S2.o.1.gne;have D4:=hD c4;have D6:=hD c6;have e4:=hD ((World.cell?_setCell_other w2.drew ⟨G.bf,x,none⟩ ⟨G.g,4,none⟩ (.int .i64 (k:Nat)) (by intro e;injection e with e;exact n3 e.symm)).trans c4);have e6:=hD ((World.cell?_setCell_other w2.drew ⟨G.bf,x,none⟩ ⟨G.g,6,none⟩ (.int .i64 (k:Nat)) (by intro e;injection e with e;exact n3 e.symm)).trans c6);have S3:=hD (S2.o.1.jS x k);clear n1 n2 n3;go_region_held3 (λwx=>wx.cell? ⟨G.g,4,none⟩=some (.slice (some ⟨G.bf,0,none⟩) G.ns.length G.cf)∧wx.cell? ⟨G.g,6,none⟩=some (.int .i64 (k:Nat))) (first|exact⟨D4,D6⟩|exact⟨e4.o,e6.o⟩) (first|fail)
  clear c4 c6 bf zf D4 D6 e4 e6;generalize w2.setCell ⟨G.bf,x,none⟩ (.int .i64 (k:Nat))=w3 at *;go_wp2
  go_ret;refine⟨t,rfl,?_,((F1.o.trans S2.o.2).trans S3.o.2).trans (FrK.no ((fR w3).drew)),λu hu=>?_⟩
  . refine CkM.no ?_ ((fR w3).drew)
    have hm:=HM.o;cases q with
    | bad e' p'=>
     rcases hm with ⟨_,_,h9⟩|⟨h0,h9,h8⟩
     . cases h9
     . injection h8 with h8 h7
       subst h8;subst h7;exact⟨h0,h9,_,S3.o.1⟩
    | good v=>
     rcases hm with ⟨h0,h8,h9⟩|⟨_,_,h8⟩
     . injection h9 with h9
       subst h9;subst h0;subst h8;have:=HQ.o v rfl;subst this;exact S3.o.1
     . cases h8
  . obtain⟨v,hv,hu⟩:=CkR.map_eq hu
    subst hu;exact HQ v hv
theorem wP (hg:gD G) (hu:(G.fs.map (·.name)).Nodup):∀(f x:Nat) (nd:aG),x<f->G.ns[x]?=some nd->oD nd.kind=true->gW G zs k (fD G.ns G.fs k f) x
 | 0,x,nd,h,_,_=>absurd h (Nat.not_lt_zero _)
 | f+1,x,nd,h,hx,hR=>by
  have hok:=hg.ok.nodes x nd hx;refine aDr hu hx hok hR λa ha=>?_
  have key:∀{cls:Nat->Bool} {a:Nat},(∀n,cls n=true->oD n=true)->Kid (G.ns.take x) cls a->gW G zs k (fD G.ns G.fs k f) a:=λ{cls a} hc hk=>by
   obtain⟨hlt,c,hc1,hc2⟩:=hk.take;exact wP hg hu f a c (by omega) hc1 (hc _ hc2)
  have hE:∀n,lH n=true->oD n=true:=λn h=>by unfold oD;rw[h];rfl
  cases hok with
  | int line n hn=>cases ha
  | bool line n hn=>cases ha
  | text line nm=>cases ha
  | var line nm=>cases ha
  | index line nm b hb=>rw[List.mem_singleton.1 ha];exact key hE hb
  | len line b hb=>rw[List.mem_singleton.1 ha];exact key hE hb
  | neg line b hb=>rw[List.mem_singleton.1 ha];exact key hE hb
  | not line b hb=>rw[List.mem_singleton.1 ha];exact key hE hb
  | bin line nm b c hs hb hc=>
   rcases List.mem_cons.1 ha with e|ha
   . rw[e];exact key hE hb
   . rw[List.mem_singleton.1 ha];exact key hE hc
  | input line=>cases ha
  | new line b hb=>rw[List.mem_singleton.1 ha];exact key hE hb
  | call line nm l hk=>exact key hE (hk a ha)
  | _=>simp[oD,lH] at hR
end
def CkN (G:Geo) (w:World) (r:CkR CkS) (zs:List Nat) (k:Nat):Prop:=match r with
 | .good s=>Ck G w s zs k 0 0
 | .bad e p=>e≠0∧e≤99∧∃s,Ck G.more w s zs k e p
def lM (G:Geo) (zs:List Nat) (k:Nat) (r:CkR CkS) (w:World) (en:Ending) (w':World):Prop:=
 en = .returned (.tuple #[])∧CkN G w' r zs k∧FrK G w w'
section
variable {G:Geo}{w w':World}{s:CkS}{r:CkR CkS}{zs:List Nat}{k e p:Nat}{ex:Nat->CkS->CkR (Nat×CkS)}
theorem CkM.toN (h:CkM G w r zs k) (hM:G.M=24):CkN G w r zs k:=by
 cases r with
 | good s=>exact h
 | bad e p=>obtain⟨h1,h2,s,h3⟩:=h;exact⟨h1,h2,s,h3.more (by omega)⟩
theorem CkN.no (h:CkN G w r zs k) (f:Fr nob w w'):CkN G w' r zs k:=by
 cases r with
 | good s=>exact Ck.no h f
 | bad e p=>obtain⟨h1,h2,s,h3⟩:=h;exact⟨h1,h2,s,h3.no f⟩
theorem Ck.less (h:Ck G.more w s zs k 0 0) (hg:gD G) (hM:G.M=24):Ck G w s zs k 0 0:=
 ⟨hg,h.tree,h.ex,h.types,h.slots,h.fn,h.kk,by have:=h.fine rfl;omega,h.fine,h.vars,h.zs,h.zle⟩
theorem gB.toN {R:CkR CkS} (h:gB R s e p) (hck:Ck G.more w s zs k e p) (hg:gD G) (hM:G.M=24):CkN G w R zs k:=by
 rcases h with ⟨rfl,rfl,rfl⟩|⟨h1,h2,rfl⟩
 . exact hck.less hg hM
 . exact⟨h1,h2,s,hck⟩
theorem aLj (hM:G.M=24){a:Nat} (h:Ck G w s zs k 0 0) (hx:G.ns[x]?=some ⟨10,line,0,nm,[a]⟩) (ha:gW G zs k ex a):
  Calls prog 173 #[.pointer (some ⟨G.g,0,none⟩),.int .i64 x] w (lM G zs k (aIq ex x ⟨10,line,0,nm,[a]⟩ s) w):=by
 have M0:Hd (CkM G w (.good s) zs k):=h;obtain⟨nb,nc,kv,hnv,hkv,hown,nlt,hx3,c0,x0,x1,x2,x3,x4⟩:=M0.o.node hx;dsimp only at hown x0 x1 x2 x3 x4;have hx4:(G.ns.length:Int)≤300:=by have:=h.geo.few;omega
 have glt:=h.jB;have gn:¬G.g=w.heap.size:=by omega
 have nn:¬nb=w.heap.size:=by omega
 obtain⟨kb,kc,rfl,hkc,hcell⟩:=cB hown (by simp);have hkc2:1≤kc:=by simp at hkc;omega
 have k0:=hcell 0 _ rfl;have klt:kb<w.heap.size:=World.block_lt_of_cell? _ _ k0;have kn:¬kb=w.heap.size:=by omega
 have HG:=hD h.geo;have HA:=hD ha;have HM:=hD hM;clear h hx hkv hown hcell ha hkc hM;go_enter func173,ntmps173;go_wp2_with fail
 have C1:=hD (CkC.new M0 50 #[.int .i64 10,.int .i64 line,.int .i64 0,.string (bs nm),.slice (some ⟨kb,0,none⟩) 1 kc] (by decide));have F1:Hd (FrK G w (w.alloc (.cells #[.int .i64 10,.int .i64 line,.int .i64 0,.string (bs nm),.slice (some ⟨kb,0,none⟩) 1 kc] 50))):=FrK.no ((fR w).alloc _);clear c0 x0 x1 x2 x3 x4 glt gn nlt nn k0 klt kn;generalize w.alloc (.cells #[.int .i64 10,.int .i64 line,.int .i64 0,.string (bs nm),.slice (some ⟨kb,0,none⟩) 1 kc] 50)=w1 at *;generalize w.heap.size=C at *;refine (HA w1 _ C1.o.m).mono ?_;rintro en w2 ⟨t,rfl,h2,f2,hq⟩;have C2:=hD (C1.o.to h2 f2);have F2:=hD (F1.o.trans f2);have HQ:=hD hq;clear h2 f2 hq;obtain⟨b0,hb0⟩:∃b,((t:Int) != 0)=b:=⟨_,rfl⟩;go_wp2_with fail
 refine (C2.o.m.must b0 x).mono ?_;rintro en w3 ⟨rfl,h3,f3⟩;have C3:=hD (C2.o.to h3 f3);have F3:=hD (F2.o.trans f3);have hmode:=h3;clear h3 f3;have d3:w3.cell? ⟨C,3,none⟩=some (.string (bs nm)):=by simpa using C3.o.b.cell 3
 obtain⟨s3,e3,p3,hck,hm⟩:=hmode.open_;clear hmode;have K3:=hD hck;have HMO:Hd (gB ((((ex a s).map (·.2)).bind λs=>if b0=true then CkR.good s else .bad 42 x)) s3 e3 p3):=hm;have HFI:=hD (mV hck nm);have sz3:=hck.size;have sz4:(s3.size:Int)≤24:=by have:=HM.o;omega
 clear hm;have E:=hD (show aIq ex x ⟨10,line,0,nm,[a]⟩ s=(((ex a s).map (·.2)).bind λs=>if b0=true then CkR.good s else .bad 42 x).bind λs2=>if (iD s2.vars nm).isSome then .bad 41 x else if 24≤s2.size then .bad 4 x else .good { s2 with slots:=s2.slots.set x s2.size,vars:=s2.vars++[⟨nm,t,s2.size⟩],size:=s2.size+1 } from by
  unfold aIq
  show (ex a s).bind _=_
  have hq:=HQ.o;rw[show (CkR.good s).bind (ex a)=ex a s from rfl] at hq;cases hE:ex a s with
  | bad e p=>rfl
  | good u=>
    have hu:=hq u hE;subst hu;simp only[CkR.aC,CkR.bK,iT];by_cases h0:u.1=0
    . have:b0=false:=by rw[<-hb0,h0];rfl
      rw[if_pos h0,this];rfl
    . have:b0=true:=by rw[<-hb0,bne,bN.2 (by omega)];rfl
      rw[if_neg h0,this];simp only[if_true,CkR.aC];have e1:((iD u.2.vars nm).bind λj=>u.2.vars[j]?).isSome=(iD u.2.vars nm).isSome:=by
       cases hp:iD u.2.vars nm with
       | none=>rfl
       | some j=>
        have:=qA hp;simp[gE this]
      rw[e1])
 clear hck hb0;cases hp:iD s3.vars nm with
 | none=>
  rw[hp] at HFI;have HP:=hD hp;have HFI2:Hd (Calls prog 100 #[.pointer (some ⟨G.g,0,none⟩),.string (bs nm)] w3 (λen w'=>en = .returned (.int .i64 (-1))∧Fr nob w3 w')):=HFI;clear HFI hp;go_wp2_with fail
  refine HFI2.o.mono ?_;rintro en w4 ⟨rfl,hf⟩;have KV1:=hD (K3.o.no hf);have FV1:=hD (F3.o.trans (FrK.no hf));have BV1:=hD (C3.o.b.fr hf (λx=>x));clear hf d3;obtain⟨_,_,-,-,-,-,-,-,-,-,c8,-,-,-,-,-⟩:=KV1.o.cells;by_cases h24:24≤s3.size
  case' pos=>
   have h24':(24:Int)≤(s3.size:Int):=by omega
   have HS:=hD h24;clear h24;go_wp2_with fail
   refine (jM KV1 4 x (by decide)).mono ?_;rintro en wv ⟨rfl,h6,f6⟩;have FV:=hD (FV1.o.trans f6);have BV:=hD (f6.far BV1 C1.o.n0 C1.o.n1 C1.o.n2 C1.o.n3 (by decide));have PK:∃ev pv,Hd (Ck G wv s3 zs k ev pv)∧Hd (gB (aIq ex x ⟨10,line,0,nm,[a]⟩ s) { s3 with slots:=s3.slots.set x s3.size,vars:=s3.vars++[⟨nm,t,s3.size⟩],size:=s3.size+1 } ev pv)∧Hd (ev=0->s3.size≤23):=⟨_,_,h6,hD (by rw[E.o];exact HMO.o.into (by simp[HP.o,HS.o]) (by decide) (by decide) _),hD (λh=>by split at h<;>omega)⟩;clear h6 f6 c8 KV1;go_wp2_with fail
  case' neg=>
   have h24':(s3.size:Int)<24:=by omega
   have FV:=FV1;have BV:=BV1;have HS:=hD h24;clear h24;go_wp2_with fail
   clear c8;generalize w4=wv at *;have PK:∃ev pv,Hd (Ck G wv s3 zs k ev pv)∧Hd (gB (aIq ex x ⟨10,line,0,nm,[a]⟩ s) { s3 with slots:=s3.slots.set x s3.size,vars:=s3.vars++[⟨nm,t,s3.size⟩],size:=s3.size+1 } ev pv)∧Hd (ev=0->s3.size≤23):=⟨_,_,KV1,hD (by rw[E.o];exact HMO.o.pass (by simp[HP.o,HS.o])),hD (λh=>by have:=HS.o;omega)⟩;clear KV1
  all_goals
   obtain⟨ev,pv,KV,HFIN,HS9⟩:=PK;obtain⟨_,_,-,-,-,c3,-,-,-,-,c8,-,-,-,-,-⟩:=KV.o.cells;obtain⟨⟨u2,cs2⟩,zs2⟩:=KV.o.slots.gM (j:=x) (by omega);obtain⟨n1,n2,n3⟩:=KV.o.gne;have D3:=hD c3;have D8:=hD c8;have e3':=hD ((World.cell?_setCell_other wv.drew ⟨G.bs,x,none⟩ ⟨G.g,3,none⟩ (.int .i64 (s3.size:Nat)) (by intro e;injection e with e;exact n2 e.symm)).trans c3);have e8':=hD ((World.cell?_setCell_other wv.drew ⟨G.bs,x,none⟩ ⟨G.g,8,none⟩ (.int .i64 (s3.size:Nat)) (by intro e;injection e with e;exact n2 e.symm)).trans c8);have S8:=hD (KV.o.aNw x (s3.size:Nat));have B8:=hD (S8.o.2.far BV C1.o.n0 C1.o.n1 C1.o.n2 C1.o.n3 (by decide));clear n1 n2 n3;go_region_held3 (λwx=>wx.cell? ⟨G.g,3,none⟩=some (.slice (some ⟨G.bs,0,none⟩) G.ns.length G.cs)∧wx.cell? ⟨G.g,8,none⟩=some (.int .i64 (s3.size:Nat))) (first|exact⟨D3,D8⟩|exact⟨e3'.o,e8'.o⟩) (first|fail)
   clear c3 c8 cs2 zs2 D3 D8 e3' e8';have S9:=hD (S8.o.1.no ((fR _).drew));have F9:=hD ((FV.o.trans S8.o.2).trans (FrK.no ((fR _).drew)));have B9:=hD (B8.o.fr ((fR _).drew) (λx=>x));clear S8 B8;generalize (wv.setCell ⟨G.bs,x,none⟩ (.int .i64 (s3.size:Nat))).drew=w9 at *;obtain⟨zv,vv,hbl,-,-,hvo,-⟩:=S9.o.ex;obtain⟨VA,VC,rfl,-,-⟩:=hvo.cap;dsimp only at hvo hbl;have c7:w9.cell? ⟨G.g,7,none⟩=some (.slice VA s3.vars.length VC):=by rw[hbl.cell];rfl
   have c8:w9.cell? ⟨G.g,8,none⟩=some (.int .i64 (s3.size:Nat)):=by rw[hbl.cell];rfl
   have d3:w9.cell? ⟨C,3,none⟩=some (.string (bs nm)):=by simpa using B9.o.cell 3
   have hvn:s3.vars.length≤24:=by have:=K3.o.vars;omega
   have HV:=hD ((hvo.alloc (.cells #[.string (bs nm),.int .i64 (t:Nat),.int .i64 (s3.size:Nat)] 62)).fr ((fR _).drew) (λ_ _ x=>x));have HR:=hD (Rd.eD (n:=1) (size:=3) (cs:=[.string (bs nm),.int .i64 (t:Nat),.int .i64 (s3.size:Nat)]) ((Blk.new w9 62 [.string (bs nm),.int .i64 (t:Nat),.int .i64 (s3.size:Nat)].toArray).fr ((fR _).drew) (λx=>x)) rfl (by decide));have HB:=hD ((hbl.alloc (.cells #[.string (bs nm),.int .i64 (t:Nat),.int .i64 (s3.size:Nat)] 62)).fr ((fR _).drew) (λx=>x));have C7:=hD c7;have glt:=hbl.lt;have clt:=B9.o.lt;have gn:¬G.g=w9.heap.size:=by omega
   have cn:¬C=w9.heap.size:=by omega
   clear hbl hvo;go_wp2_with fail
   go_region_law (first|(refine step_append (v:= .slice VA s3.vars.length VC) (n:=s3.vars.length) (m:=1) (xs:=aO s3.vars) (news:=[.string (bs nm),.int .i64 (t:Nat),.int .i64 (s3.size:Nat)]) (by rfl) _ _ (by rfl) zF (by rfl) (by rfl) HV HR (by simp[Value.oneCell']) (by omega) (by unfold maxLen;omega) ?_;intro A6 c6 w6 ho6 hf6 hv6;go_loud (have AV:=hD (S9.o.aOa (o:= .cells #[.string (bs nm),.int .i64 (t:Nat),.int .i64 (s3.size:Nat)] 62) C7 ho6 (Fr.trans (M1:=nob) ((fR _).drew) hf6 (λ_ _ x=>x.elim) (λ_ _ x=>x)) (by simpa using hv6) (by have:=HM.o;omega) HS9));go_loud (have HB6:=hD (HB.o.fr hf6 (λhm=>HV.o.aD HB (by decide) hm)));go_loud (have f7:=HB6.o.frozen 7);go_loud (have c7':w6.cell? ⟨G.g,7,none⟩=some (.slice VA s3.vars.length VC):=by rw[HB6.o.cell];rfl);go_loud (have gl6:=HB6.o.lt);clear ho6 hf6 hv6))
   all_goals
     clear c7 c8 d3 C7 glt clt gn cn f7 c7' gl6;have c8:=AV.o.1;have f8:=AV.o.2.1 8;have gl:=World.block_lt_of_cell? _ _ c8;have N:=hD (HFIN.o.toN AV.o.2.2.1 HG HM);have FF:=hD (F9.o.trans AV.o.2.2.2);clear AV HB6;generalize w6.setCell ⟨G.g,7,none⟩ (.slice A6 (s3.vars.length+1) c6)=w10 at *;go_wp2
     exact fE rfl rfl ⟨rfl,by first|exact N.o|exact N.o.no ((fR _).drew),by first|exact FF.o|exact FF.o.trans (FrK.no ((fR _).drew))⟩
 | some j=>
  rw[hp] at HFI;have HP:=hD hp;have HFI2:Hd (Calls prog 100 #[.pointer (some ⟨G.g,0,none⟩),.string (bs nm)] w3 (λen w'=>en = .returned (.int .i64 (j:Nat))∧Fr nob w3 w')):=HFI;clear HFI hp;go_wp2_with fail
  refine HFI2.o.mono ?_;rintro en w4 ⟨rfl,hf⟩;have KV0:=hD (K3.o.no hf);have FV0:=hD (F3.o.trans (FrK.no hf));have BV0:=hD (C3.o.b.fr hf (λx=>x));have hj0:(0:Int)≤(j:Int):=by omega
  clear hf d3;go_wp2_with fail
  refine (jM KV0 41 x (by decide)).mono ?_;rintro en w5 ⟨rfl,h5,f5⟩;have KV1:=hD h5;have FV1:=hD (FV0.o.trans f5);have BV1:=hD (f5.far BV0 C1.o.n0 C1.o.n1 C1.o.n2 C1.o.n3 (by decide));clear h5 f5;obtain⟨_,_,-,-,-,-,-,-,-,-,c8,-,-,-,-,-⟩:=KV1.o.cells;by_cases h24:24≤s3.size
  case' pos=>
   have h24':(24:Int)≤(s3.size:Int):=by omega
   have HS:=hD h24;clear h24;go_wp2_with fail
   refine (jM KV1 4 x (by decide)).mono ?_;rintro en wv ⟨rfl,h6,f6⟩;have FV:=hD (FV1.o.trans f6);have BV:=hD (f6.far BV1 C1.o.n0 C1.o.n1 C1.o.n2 C1.o.n3 (by decide));have e49:¬(if e3=0 then 41 else e3)=0:=by split<;>omega
   rw[if_neg e49,if_neg e49] at h6;have PK:∃ev pv,Hd (Ck G wv s3 zs k ev pv)∧Hd (gB (aIq ex x ⟨10,line,0,nm,[a]⟩ s) { s3 with slots:=s3.slots.set x s3.size,vars:=s3.vars++[⟨nm,t,s3.size⟩],size:=s3.size+1 } ev pv)∧Hd (ev=0->s3.size≤23):=⟨_,_,h6,hD (by rw[E.o];exact HMO.o.into (by simp[HP.o]) (by decide) (by decide) _),hD (λh=>absurd h e49)⟩;clear h6 f6 c8 KV1;go_wp2_with fail
  case' neg=>
   have h24':(s3.size:Int)<24:=by omega
   have FV:=FV1;have BV:=BV1;have HS:=hD h24;clear h24;go_wp2_with fail
   clear c8;generalize w5=wv at *;have PK:∃ev pv,Hd (Ck G wv s3 zs k ev pv)∧Hd (gB (aIq ex x ⟨10,line,0,nm,[a]⟩ s) { s3 with slots:=s3.slots.set x s3.size,vars:=s3.vars++[⟨nm,t,s3.size⟩],size:=s3.size+1 } ev pv)∧Hd (ev=0->s3.size≤23):=⟨_,_,KV1,hD (by rw[E.o];exact HMO.o.into (by simp[HP.o]) (by decide) (by decide) _),hD (λh=>by have:=HS.o;omega)⟩;clear KV1
  all_goals
   obtain⟨ev,pv,KV,HFIN,HS9⟩:=PK;obtain⟨_,_,-,-,-,c3,-,-,-,-,c8,-,-,-,-,-⟩:=KV.o.cells;obtain⟨⟨u2,cs2⟩,zs2⟩:=KV.o.slots.gM (j:=x) (by omega);obtain⟨n1,n2,n3⟩:=KV.o.gne;have D3:=hD c3;have D8:=hD c8;have e3':=hD ((World.cell?_setCell_other wv.drew ⟨G.bs,x,none⟩ ⟨G.g,3,none⟩ (.int .i64 (s3.size:Nat)) (by intro e;injection e with e;exact n2 e.symm)).trans c3);have e8':=hD ((World.cell?_setCell_other wv.drew ⟨G.bs,x,none⟩ ⟨G.g,8,none⟩ (.int .i64 (s3.size:Nat)) (by intro e;injection e with e;exact n2 e.symm)).trans c8);have S8:=hD (KV.o.aNw x (s3.size:Nat));have B8:=hD (S8.o.2.far BV C1.o.n0 C1.o.n1 C1.o.n2 C1.o.n3 (by decide));clear n1 n2 n3;go_region_held3 (λwx=>wx.cell? ⟨G.g,3,none⟩=some (.slice (some ⟨G.bs,0,none⟩) G.ns.length G.cs)∧wx.cell? ⟨G.g,8,none⟩=some (.int .i64 (s3.size:Nat))) (first|exact⟨D3,D8⟩|exact⟨e3'.o,e8'.o⟩) (first|fail)
   clear c3 c8 cs2 zs2 D3 D8 e3' e8';have S9:=hD (S8.o.1.no ((fR _).drew));have F9:=hD ((FV.o.trans S8.o.2).trans (FrK.no ((fR _).drew)));have B9:=hD (B8.o.fr ((fR _).drew) (λx=>x));clear S8 B8;generalize (wv.setCell ⟨G.bs,x,none⟩ (.int .i64 (s3.size:Nat))).drew=w9 at *;obtain⟨zv,vv,hbl,-,-,hvo,-⟩:=S9.o.ex;obtain⟨VA,VC,rfl,-,-⟩:=hvo.cap;dsimp only at hvo hbl;have c7:w9.cell? ⟨G.g,7,none⟩=some (.slice VA s3.vars.length VC):=by rw[hbl.cell];rfl
   have c8:w9.cell? ⟨G.g,8,none⟩=some (.int .i64 (s3.size:Nat)):=by rw[hbl.cell];rfl
   have d3:w9.cell? ⟨C,3,none⟩=some (.string (bs nm)):=by simpa using B9.o.cell 3
   have hvn:s3.vars.length≤24:=by have:=K3.o.vars;omega
   have HV:=hD ((hvo.alloc (.cells #[.string (bs nm),.int .i64 (t:Nat),.int .i64 (s3.size:Nat)] 62)).fr ((fR _).drew) (λ_ _ x=>x));have HR:=hD (Rd.eD (n:=1) (size:=3) (cs:=[.string (bs nm),.int .i64 (t:Nat),.int .i64 (s3.size:Nat)]) ((Blk.new w9 62 [.string (bs nm),.int .i64 (t:Nat),.int .i64 (s3.size:Nat)].toArray).fr ((fR _).drew) (λx=>x)) rfl (by decide));have HB:=hD ((hbl.alloc (.cells #[.string (bs nm),.int .i64 (t:Nat),.int .i64 (s3.size:Nat)] 62)).fr ((fR _).drew) (λx=>x));have C7:=hD c7;have glt:=hbl.lt;have clt:=B9.o.lt;have gn:¬G.g=w9.heap.size:=by omega
   have cn:¬C=w9.heap.size:=by omega
   clear hbl hvo;go_wp2_with fail
   go_region_law (first|(refine step_append (v:= .slice VA s3.vars.length VC) (n:=s3.vars.length) (m:=1) (xs:=aO s3.vars) (news:=[.string (bs nm),.int .i64 (t:Nat),.int .i64 (s3.size:Nat)]) (by rfl) _ _ (by rfl) zF (by rfl) (by rfl) HV HR (by simp[Value.oneCell']) (by omega) (by unfold maxLen;omega) ?_;intro A6 c6 w6 ho6 hf6 hv6;go_loud (have AV:=hD (S9.o.aOa (o:= .cells #[.string (bs nm),.int .i64 (t:Nat),.int .i64 (s3.size:Nat)] 62) C7 ho6 (Fr.trans (M1:=nob) ((fR _).drew) hf6 (λ_ _ x=>x.elim) (λ_ _ x=>x)) (by simpa using hv6) (by have:=HM.o;omega) HS9));go_loud (have HB6:=hD (HB.o.fr hf6 (λhm=>HV.o.aD HB (by decide) hm)));go_loud (have f7:=HB6.o.frozen 7);go_loud (have c7':w6.cell? ⟨G.g,7,none⟩=some (.slice VA s3.vars.length VC):=by rw[HB6.o.cell];rfl);go_loud (have gl6:=HB6.o.lt);clear ho6 hf6 hv6))
   all_goals
     clear c7 c8 d3 C7 glt clt gn cn f7 c7' gl6;have c8:=AV.o.1;have f8:=AV.o.2.1 8;have gl:=World.block_lt_of_cell? _ _ c8;have N:=hD (HFIN.o.toN AV.o.2.2.1 HG HM);have FF:=hD (F9.o.trans AV.o.2.2.2);clear AV HB6;generalize w6.setCell ⟨G.g,7,none⟩ (.slice A6 (s3.vars.length+1) c6)=w10 at *;go_wp2
     exact fE rfl rfl ⟨rfl,by first|exact N.o|exact N.o.no ((fR _).drew),by first|exact FF.o|exact FF.o.trans (FrK.no ((fR _).drew))⟩
end
section
variable {G:Geo}{w w':World}{s:CkS}{r:CkR CkS}{zs:List Nat}{k e p:Nat}{ex:Nat->CkS->CkR (Nat×CkS)}
theorem aHt (hM:G.M=24) (h:Ck G w s zs k 0 0) (hx:G.ns[x]?=some ⟨17,line,0,[],[]⟩):
   Calls prog 177 #[.pointer (some ⟨G.g,0,none⟩),.int .i64 x] w (lM G zs k (xR G.fs k ex x ⟨17,line,0,[],[]⟩ s) w):=by
 have M0:Hd (CkM G w (.good s) zs k):=h;obtain⟨nb,nc,kv,hnv,hkv,hown,nlt,hx3,c0,x0,x1,x2,x3,x4⟩:=M0.o.node hx;dsimp only at hown x0 x1 x2 x3 x4;have hx4:(G.ns.length:Int)≤300:=by have:=h.geo.few;omega
 have glt:=h.jB;have gn:¬G.g=w.heap.size:=by omega
 have nn:¬nb=w.heap.size:=by omega
 obtain⟨KA,KC,rfl,-,-⟩:=hown.cap;obtain⟨fk,hfk⟩:∃f,G.fs[k]?=some f:=⟨_,gE h.kk⟩;have hk3:(k:Int)<(G.fs.length:Int):=by have:=h.kk;omega
 have hk4:(G.fs.length:Int)≤6:=by have:=h.geo.fewf;omega
 have C1:=hD (CkC.new M0 50 #[.int .i64 17,.int .i64 line,.int .i64 0,.string (bs []),.slice KA 0 KC] (by decide));have F1:Hd (FrK G w (w.alloc (.cells #[.int .i64 17,.int .i64 line,.int .i64 0,.string (bs []),.slice KA 0 KC] 50))):=FrK.no ((fR w).alloc _);have HM:=hD hM;have HF:=hD hfk;obtain⟨fb,fc,pv,-,-,c1,-,-,-,-,-,y3,-⟩:=C1.o.m.fnc hfk;obtain⟨_,_,-,-,-,-,-,-,c6,-⟩:=(show Ck G _ s zs k 0 0 from C1.o.m).cells;have d4:(w.alloc (.cells #[.int .i64 17,.int .i64 line,.int .i64 0,.string (bs []),.slice KA 0 KC] 50)).cell? ⟨w.heap.size,4,none⟩=some (.slice KA 0 KC):=by simp
 have K1:=hD c1;have K6:=hD c6;have K3:=hD y3;have D4:=hD d4;clear h hx hkv hown hM hfk c1 c6 y3 d4;by_cases hr:fk.ret=0
 . have E:=hD (show xR G.fs k ex x ⟨17,line,0,[],[]⟩ s = .good s from by unfold xR;rw[HF.o];simp[hr])
   have hb:((fk.ret:Int) != 0)=false:=by rw[hr];rfl
   clear hr;go_enter func177,ntmps177;go_wp2_with fail
   have c1:=K1.o;have c6:=K6.o;have y3:=K3.o;have d4:=D4.o;clear c0 x0 x1 x2 x3 x4 glt gn nlt nn;generalize w.alloc (.cells #[.int .i64 17,.int .i64 line,.int .i64 0,.string (bs []),.slice KA 0 KC] 50)=w1 at *;generalize w.heap.size=C at *;go_quiet (fail)
   go_wp2
   refine fE rfl rfl ⟨rfl,?_,by first|exact F1.o|exact F1.o.trans (FrK.no ((fR _).drewN _))⟩;rw[E.o]
   first|exact (C1.o.m.toN HM)|exact (C1.o.m.toN HM).no ((fR _).drewN _)
 . have E:=hD (show xR G.fs k ex x ⟨17,line,0,[],[]⟩ s = .bad 43 x from by unfold xR;rw[HF.o];simp[hr])
   have hb:((fk.ret:Int) != 0)=true:=by rw[bne,bN.2 (by omega)];rfl
   clear hr;go_enter func177,ntmps177;go_wp2_with fail
   have c1:=K1.o;have c6:=K6.o;have y3:=K3.o;have d4:=D4.o;clear c0 x0 x1 x2 x3 x4 glt gn nlt nn;generalize w.alloc (.cells #[.int .i64 17,.int .i64 line,.int .i64 0,.string (bs []),.slice KA 0 KC] 50)=w1 at *;generalize w.heap.size=C at *;go_quiet (fail)
   go_wp2_with fail
   refine dR ((C1.o.m.no (by first|exact fR w1|exact (fR w1).drewN _)).fails 43 x (by decide) (by decide)) λw3 M3 f3=>?_;have F3:=hD (F1.o.trans (FrK.trans (FrK.no (by first|exact fR w1|exact (fR w1).drewN _)) f3));clear f3;go_wp2
   refine aNl rfl rfl ⟨rfl,?_,F3⟩;rw[E.o];exact M3.o.toN HM.o
theorem aHs (hM:G.M=24){a:Nat} (h:Ck G w s zs k 0 0) (hx:G.ns[x]?=some ⟨17,line,0,[],[a]⟩) (ha:gW G zs k ex a):
   Calls prog 177 #[.pointer (some ⟨G.g,0,none⟩),.int .i64 x] w (lM G zs k (xR G.fs k ex x ⟨17,line,0,[],[a]⟩ s) w):=by
 have M0:Hd (CkM G w (.good s) zs k):=h;obtain⟨nb,nc,kv,hnv,hkv,hown,nlt,hx3,c0,x0,x1,x2,x3,x4⟩:=M0.o.node hx;dsimp only at hown x0 x1 x2 x3 x4;have hx4:(G.ns.length:Int)≤300:=by have:=h.geo.few;omega
 have glt:=h.jB;have gn:¬G.g=w.heap.size:=by omega
 have nn:¬nb=w.heap.size:=by omega
 obtain⟨kb,kc,rfl,hkc,hcell⟩:=cB hown (by simp);have hkc2:1≤kc:=by simp at hkc;omega
 obtain⟨fk,hfk⟩:∃f,G.fs[k]?=some f:=⟨_,gE h.kk⟩;have hk3:(k:Int)<(G.fs.length:Int):=by have:=h.kk;omega
 have hk4:(G.fs.length:Int)≤6:=by have:=h.geo.fewf;omega
 have C1:=hD (CkC.new M0 50 #[.int .i64 17,.int .i64 line,.int .i64 0,.string (bs []),.slice (some ⟨kb,0,none⟩) 1 kc] (by decide));have F1:Hd (FrK G w (w.alloc (.cells #[.int .i64 17,.int .i64 line,.int .i64 0,.string (bs []),.slice (some ⟨kb,0,none⟩) 1 kc] 50))):=FrK.no ((fR w).alloc _);have HM:=hD hM;have HF:=hD hfk;have HA:=hD ha;obtain⟨fb,fc,pv,-,-,c1,-,-,-,-,-,y3,-⟩:=C1.o.m.fnc hfk;obtain⟨_,_,-,-,-,-,-,-,c6,-⟩:=(show Ck G _ s zs k 0 0 from C1.o.m).cells;have d4:(w.alloc (.cells #[.int .i64 17,.int .i64 line,.int .i64 0,.string (bs []),.slice (some ⟨kb,0,none⟩) 1 kc] 50)).cell? ⟨w.heap.size,4,none⟩=some (.slice (some ⟨kb,0,none⟩) 1 kc):=by simp
 have KK:=hD (C1.o.m.kid hx hkv (j:=0) (a:=a) rfl);have K1:=hD c1;have K6:=hD c6;have K3:=hD y3;have D4:=hD d4;clear h hx hkv hown hM hfk c1 c6 y3 d4 hcell hkc ha;by_cases hr:fk.ret=0
 . have E:=hD (show xR G.fs k ex x ⟨17,line,0,[],[a]⟩ s = .bad 43 x from by unfold xR;rw[HF.o];simp[hr])
   have hb:((fk.ret:Int) != 0)=false:=by rw[hr];rfl
   clear hr;go_enter func177,ntmps177;go_wp2_with fail
   have c1:=K1.o;have c6:=K6.o;have y3:=K3.o;have d4:=D4.o;clear c0 x0 x1 x2 x3 x4 glt gn nlt nn;generalize w.alloc (.cells #[.int .i64 17,.int .i64 line,.int .i64 0,.string (bs []),.slice (some ⟨kb,0,none⟩) 1 kc] 50)=w1 at *;generalize w.heap.size=C at *;go_quiet (fail)
   go_wp2_with fail
   refine dR ((C1.o.m.no (by first|exact fR w1|exact (fR w1).drewN _)).fails 43 x (by decide) (by decide)) λw3 M3 f3=>?_;have F3:=hD (F1.o.trans (FrK.trans (FrK.no (by first|exact fR w1|exact (fR w1).drewN _)) f3));clear f3;go_wp2
   refine aNl rfl rfl ⟨rfl,?_,F3⟩;rw[E.o];exact M3.o.toN HM.o
 . have E:=hD (show xR G.fs k ex x ⟨17,line,0,[],[a]⟩ s=(ex a s).bind λr=>if r.1=fk.ret then .good r.2 else .bad 42 x from by unfold xR;rw[HF.o];simp[hr])
   have hb:((fk.ret:Int) != 0)=true:=by rw[bne,bN.2 (by omega)];rfl
   clear hr;go_enter func177,ntmps177;go_wp2_with fail
   have c1:=K1.o;have c6:=K6.o;have y3:=K3.o;have d4:=D4.o;have k0:=KK.o;clear c0 x0 x1 x2 x3 x4 glt gn nlt nn;generalize w.alloc (.cells #[.int .i64 17,.int .i64 line,.int .i64 0,.string (bs []),.slice (some ⟨kb,0,none⟩) 1 kc] 50)=w1 at *;generalize w.heap.size=C at *;go_quiet (fail)
   go_wp2_with fail
   refine (HA _ _ (C1.o.m.no (by first|exact fR w1|exact (fR w1).drewN _))).mono ?_;rintro en w3 ⟨t,rfl,h3,f3,hq⟩;have M3:=hD h3;have F3:=hD (F1.o.trans (FrK.trans (FrK.no (by first|exact fR w1|exact (fR w1).drewN _)) f3));have HQ:=hD hq;clear h3 f3 hq c1 c6 y3 d4 k0;obtain⟨b,hbb⟩:∃b,((t:Int)==(fk.ret:Int))=b:=⟨_,rfl⟩;have HBB:=hD hbb;go_wp2_with fail
   refine dR (M3.o.must b x) λw4 M4 f4=>?_;have F4:=hD (F3.o.trans f4);clear f4;go_wp2
   refine fE rfl rfl ⟨rfl,?_,F4⟩;rw[E.o];have h9:=M4.o.toN HM.o;have e9:((((CkR.good s).bind (ex a)).map (·.2)).bind λs=>if b=true then CkR.good s else .bad 42 x)=(ex a s).bind λr=>if r.1=fk.ret then .good r.2 else .bad 42 x:=by
    have hq:=HQ.o;rw[show (CkR.good s).bind (ex a)=ex a s from rfl] at hq ⊢;cases hE:ex a s with
    | bad e p=>rfl
    | good u=>
     have:=hq u hE;simp only[CkR.bK,CkR.aC,<-HBB.o,beq_iff_eq,this];by_cases h8:t=fk.ret
     . rw[if_pos h8,if_pos (by omega)]
     . rw[if_neg h8,if_neg (by omega)]
   rw[<-e9];exact h9
end
end Go.Proofs.YtlbjicjinnnboaaGreatDoor
