/- MvD: laws and walks for CheckVisible. -/
import Derived.Test.YtlbjicjinnnboaaGreatDoorMvC
set_option maxHeartbeats 8000000
set_option maxRecDepth 100000
set_option linter.unusedVariables false
set_option linter.unusedSimpArgs false
namespace Go.Proofs.YtlbjicjinnnboaaGreatDoor
open Go.RowKit Go.Proofs.Tryz
variable {s:PS}{r:List Nat×PS}{R:Nat->Prop}{w0 w:World}
section
variable {src:ByteArray}{tb tc:Nat}{ts:List Tok}{g:Nat}{n:Nat}
theorem xJ {src:List UInt8}{n:Nat} (h:run src ts n .stmt s=some r):s.nodes.length+1<=r.2.nodes.length:=by
 have key:∀{t:PS},Ext s t->∀(k line m:Nat) (name:List UInt8) (l:List Nat),s.nodes.length+1<=(bR k line m name l t).2.nodes.length:=λh k line m name l=>by
  have:=aV h;simp[bR];omega
 have named:∀{n line:Nat} {r:List Nat×PS},run src ts n (.named line) s=some r->s.nodes.length+1<=r.2.nodes.length:=by
  intro n line r h;cases n with
  | zero=>simp[run] at h
  | succ n=>
    simp only[run] at h
    (repeat' split at h)<;>
    (try simp only[mS,bS] at h)<;>
    (try (obtain⟨q1,h1,h⟩:=h))<;>
    (try (obtain⟨q2,h2,h⟩:=h))<;>
    (try subst h)<;>
    (refine key ?_ _ _ _ _ _)<;>
    (repeat (first
      | exact Ext.refl _
      | apply Ext.up
      | apply Ext.must
      | (refine Ext.trans ?_ (aK _ _ _ _ (by assumption)))
      | apply Ext.named
      | apply Ext.go
      | apply Ext.down
      | dsimp only))
 cases n with
 | zero=>simp[run] at h
 | succ n=>
  simp only[run] at h
  (repeat' split at h)<;>
    (try simp only[mS,bS,aA0] at h)<;>
    (first|exact named h|skip)<;>
    (try (obtain⟨q1,h1,h⟩:=h))<;>
    (try (obtain⟨q2,h2,h⟩:=h))<;>
    (repeat' split at h)<;>
    (try simp only[mS,bS,aA0] at h)<;>
    (try (obtain⟨q3,h3,h⟩:=h))<;>
    (try subst h)<;>
    (refine key ?_ _ _ _ _ _)<;>
    (repeat (first
      | exact Ext.refl _
      | apply Ext.up
      | apply Ext.must
      | (refine Ext.trans ?_ (aK _ _ _ _ (by assumption)))
      | apply Ext.named
      | apply Ext.go
      | apply Ext.down
      | dsimp only))
theorem aMp (ih:Good src tb tc ts g n) (h:St src tb tc ts g R w0 w s) (hw:bQ ts s=[108,101,116]) (hr:((run src.data.toList ts n .right (aA ts [61] (aI ts (pGo s)))).map λr=>bR 10 (bJ src.data.toList ts s) 0 (dZ ts (pGo s)) r.1 (aA ts [59] r.2))=some r) (hn:r.2.nodes.length<=1000000):
  Calls prog 138 #[(g,())] w λe w'=>e = .returned (oneOf r.1)∧St src tb tc ts g R w0 w' r.2:=by
 have IH:=hD ih;have S0:=hD h;have HW:=hD (show bs (bQ ts s)=⟨#[108,101,116]⟩ by rw[hw];rfl);have HO:=hD (h.ok.jG h.toks hw (by decide));simp only[mS] at hr;obtain⟨q,hq,rfl⟩:=hr;have hq1:=aJ _ _ _ _ hq trivial;have hn2:(aA ts [59] q.2).nodes.length+1<=1000000:=by simpa[bR] using hn
 have HN:=hD (show (aA ts [59] q.2).nodes.length<=1000000 by omega);have HN1:=hD (Nat.le_trans (aV ((Ext.refl q.2).must (ts:=ts) [59])) HN);have HQ:=hD hq;rw[hq1];clear h ih hn hn2 hq hq1 hw;go_enter func138,ntmps138;go_wp2_with fail
 refine stepM (S0.o.line rfl) λw1 S1=>?_;go_wp2_with fail
 refine stepM (S1.o.word HW) λw2 S2=>?_;obtain⟨hg2,c12,c22,c42,c52,f22,f42⟩:=S2.o.cells;have hi2:=S2.o.i_le;go_wp2_with fail
 have S3:=hD (S2.o.go HO);clear hg2 c12 c22 c42 c52 f22 f42 hi2;generalize w2.setCell (g,U2) (((s).i:Int)+1:Int)=w3 at *;refine stepM (S3.o.name rfl) λw4 S4=>?_;go_wp2_with fail
 refine stepM (S4.o.must ⟨#[61]⟩) λw5 S5=>?_;go_wp2_with fail
 refine stepM (IH.o.right _ _ _ _ _ S5 HQ HN1) λw6 S6=>?_;go_wp2_with fail
 refine stepM (S6.o.must ⟨#[59]⟩) λw7 S7=>?_;go_wp2_with fail
 refine stepM (S7.o.xA (oneOf q.1) rfl 10 _ 0 rfl rfl (name:=(dZ ts (pGo s))) rfl HN) λw8 S8=>?_;go_wp2
 go_ret;exact⟨rfl,S8⟩
theorem aEo (ih:Good src tb tc ts g n) (h:St src tb tc ts g R w0 w s) (hw:bQ ts s=[112,114,105,110,116]) (hr:((run src.data.toList ts n (.chain 0) (pGo s)).map λr=>bR 14 (bJ src.data.toList ts s) 0 [] r.1 (aA ts [59] r.2))=some r) (hn:r.2.nodes.length<=1000000):
  Calls prog 138 #[(g,())] w λe w'=>e = .returned (oneOf r.1)∧St src tb tc ts g R w0 w' r.2:=by
 have IH:=hD ih;have S0:=hD h;have HW:=hD (show bs (bQ ts s)=⟨#[112,114,105,110,116]⟩ by rw[hw];rfl);have HO:=hD (h.ok.jG h.toks hw (by decide));simp only[mS] at hr;obtain⟨q,hq,rfl⟩:=hr;have hq1:=aJ _ _ _ _ hq trivial;have hn2:(aA ts [59] q.2).nodes.length+1<=1000000:=by simpa[bR] using hn
 have HN:=hD (show (aA ts [59] q.2).nodes.length<=1000000 by omega);have HN1:=hD (Nat.le_trans (aV ((Ext.refl q.2).must (ts:=ts) [59])) HN);have HQ:=hD hq;rw[hq1];clear h ih hn hn2 hq hq1 hw;go_enter func138,ntmps138;go_wp2_with fail
 refine stepM (S0.o.line rfl) λw1 S1=>?_;go_wp2_with fail
 refine stepM (S1.o.word HW) λw2 S2=>?_;obtain⟨hg2,c12,c22,c42,c52,f22,f42⟩:=S2.o.cells;have hi2:=S2.o.i_le;go_wp2_with fail
 have S3:=hD (S2.o.go HO);clear hg2 c12 c22 c42 c52 f22 f42 hi2;generalize w2.setCell (g,U2) (((s).i:Int)+1:Int)=w3 at *;refine stepM (IH.o.expr _ _ _ _ _ S3 HQ HN1) λw4 S4=>?_;go_wp2_with fail
 refine stepM (S4.o.must ⟨#[59]⟩) λw5 S5=>?_;go_wp2_with fail
 refine stepM (S5.o.xA (oneOf q.1) rfl 14 _ 0 rfl rfl (name:=[]) rfl HN) λw6 S6=>?_;go_wp2
 go_ret;exact⟨rfl,S6⟩
theorem aCz (ih:Good src tb tc ts g n) (h:St src tb tc ts g R w0 w s) (hw:bQ ts s=[119,104,105,108,101]) (hr:((run src.data.toList ts n (.chain 0) (pGo s)).bind λr=>(run src.data.toList ts n .block r.2).map λb=>bR 16 (bJ src.data.toList ts s) 0 [] (r.1++b.1) b.2)=some r) (hn:r.2.nodes.length<=1000000):
  Calls prog 138 #[(g,())] w λe w'=>e = .returned (oneOf r.1)∧St src tb tc ts g R w0 w' r.2:=by
 have IH:=hD ih;have S0:=hD h;have HW:=hD (show bs (bQ ts s)=⟨#[119,104,105,108,101]⟩ by rw[hw];rfl);have HO:=hD (h.ok.jG h.toks hw (by decide));simp only[mS,bS] at hr;obtain⟨q,hq,u,hu,rfl⟩:=hr;have hq1:=aJ _ _ _ _ hq trivial;have hu1:=aJ _ _ _ _ hu trivial;have hn2:u.2.nodes.length+1<=1000000:=by simpa[bR] using hn
 have HN:=hD (show u.2.nodes.length<=1000000 by omega);have HN1:=hD (Nat.le_trans (aV (aK _ _ _ _ hu)) HN);have HQ:=hD hq;have HU:=hD hu;rw[hq1,hu1];clear h ih hn hn2 hq hq1 hu hu1 hw;rw[show [oneOf q.1]++[oneOf u.1]=[oneOf q.1,oneOf u.1] from rfl];go_enter func138,ntmps138;go_wp2_with fail
 refine stepM (S0.o.line rfl) λw1 S1=>?_;go_wp2_with fail
 refine stepM (S1.o.word HW) λw2 S2=>?_;obtain⟨hg2,c12,c22,c42,c52,f22,f42⟩:=S2.o.cells;have hi2:=S2.o.i_le;go_wp2_with fail
 have S3:=hD (S2.o.go HO);clear hg2 c12 c22 c42 c52 f22 f42 hi2;generalize w2.setCell (g,U2) (((s).i:Int)+1:Int)=w3 at *;refine stepM (IH.o.expr _ _ _ _ _ S3 HQ HN1) λw4 S4=>?_;go_wp2_with fail
 refine stepM (IH.o.block _ _ _ _ _ S4 HU HN) λw5 S5=>?_;go_wp2_with fail
 refine stepM (S5.o.aOe (oneOf q.1) (oneOf u.1) rfl 16 _ 0 rfl rfl (name:=[]) rfl HN) λw6 S6=>?_;go_wp2
 go_ret;exact⟨rfl,S6⟩
theorem aPq (ih:Good src tb tc ts g n) (h:St src tb tc ts g R w0 w s) (hw:bQ ts s=[105,102]) (hr:((run src.data.toList ts n (.chain 0) (pGo s)).bind λr=>(run src.data.toList ts n .block r.2).bind λb=>
    if pIs ts [101,108,115,101] b.2 then (run src.data.toList ts n .block (pGo b.2)).map λc=>bR 15 (bJ src.data.toList ts s) 0 [] (r.1++b.1++c.1) c.2
    else some (bR 15 (bJ src.data.toList ts s) 0 [] (r.1++b.1) b.2))=some r) (hn:r.2.nodes.length<=1000000):
   Calls prog 138 #[(g,())] w λe w'=>e = .returned (oneOf r.1)∧St src tb tc ts g R w0 w' r.2:=by
 have IH:=hD ih;have S0:=hD h;have HW:=hD (show bs (bQ ts s)=⟨#[105,102]⟩ by rw[hw];rfl);have HO:=hD (h.ok.jG h.toks hw (by decide));simp only[bS] at hr;obtain⟨q,hq,u,hu,hr⟩:=hr;have hq1:=aJ _ _ _ _ hq trivial;have hu1:=aJ _ _ _ _ hu trivial;have hgo:=h.ok.jG h.toks hw (by decide);have hok:=iQ h.toks _ _ _ _ hu (iQ h.toks _ _ _ _ hq hgo);rw[hq1,hu1] at hr;rw[show [oneOf q.1]++[oneOf u.1]=[oneOf q.1,oneOf u.1] from rfl] at hr;split at hr
 . rename_i hm
   simp only[mS] at hr;obtain⟨c,hc,rfl⟩:=hr;have hc1:=aJ _ _ _ _ hc trivial;have hn2:c.2.nodes.length+1<=1000000:=by simpa[bR] using hn
   have HN:=hD (show c.2.nodes.length<=1000000 by omega);have HN1:=hD (Nat.le_trans (aV (((Ext.refl u.2).go).trans (aK _ _ _ _ hc))) HN);have HN2:=hD (Nat.le_trans (aV (aK _ _ _ _ hu)) HN1);have HQ:=hD hq;have HU:=hD hu;have HC:=hD hc;have HM:=hD hm;have HP:=hD (hok.yL h.toks hm);rw[hc1];rw[show [oneOf q.1,oneOf u.1]++[oneOf c.1]=[oneOf q.1,oneOf u.1,oneOf c.1] from rfl];clear h ih hn hn2 hq hq1 hu hu1 hw hc hc1 hm hok hgo;go_enter func138,ntmps138;go_wp2_with fail
   refine stepM (S0.o.line rfl) λw1 S1=>?_;go_wp2_with fail
   refine stepM (S1.o.word HW) λw2 S2=>?_;obtain⟨hg2,c12,c22,c42,c52,f22,f42⟩:=S2.o.cells;have hi2:=S2.o.i_le;go_wp2_with fail
   have HZ3:=hD (show (w2.setCell (g,U2) (((s).i:Int)+1:Int)).heap.size=w2.heap.size by simp);have S3:=hD (S2.o.go HO);clear hg2 c12 c22 c42 c52 f22 f42 hi2;generalize w2.setCell (g,U2) (((s).i:Int)+1:Int)=w3 at *;refine stepM (IH.o.expr _ _ _ _ _ S3 HQ HN2) λw4 S4=>?_;go_wp2_with fail
   refine stepM (IH.o.block _ _ _ _ _ S4 HU HN1) λw5 S5=>?_;go_wp2_with fail
   have S6:=hD (S5.o.aRx (oneOf q.1) (oneOf u.1) rfl);refine stepM (S6.o.step (S6.o.here.is ⟨#[101,108,115,101]⟩ HM)) λw7 S7=>?_;obtain⟨hg7,c17,c27,c47,c57,f27,f47⟩:=S7.o.st.cells;have hi7:=S7.o.st.i_le;go_wp2_with fail
   have S8:=hD (S7.o.go HP);clear hg7 c17 c27 c47 c57 f27 f47 hi7;generalize w7.setCell (g,U2) (((u.2).i:Int)+1:Int)=w8 at *;refine stepM (S8.o.step (IH.o.block _ _ _ _ _ S8.o.here HC HN)) λw9 S9=>?_;go_wp2_with (at_builtin;go_loud (refine aL (m:=1) (news:=[oneOf c.1]) rfl _ _ rfl gW rfl rfl (S9.o.own.alloc _) (Rd.eZ (n:=1) (cs:=[oneOf c.1]) (Blk.new _ _ _) rfl (by decide)) (by simp[Value.oneCell']) (by simp[maxLen]) (by simp[maxLen]) ?_);intro A10 c10 w10 ho10 hf10 hv10;have S10:=hD (S9.o.app (kM ho10) hf10 hv10);clear ho10 hf10 hv10)
   refine stepM (S10.o.put 15 _ 0 rfl rfl (name:=[]) rfl HN) λw11 S11=>?_;go_wp2
   go_ret;exact⟨rfl,S11⟩
 . rename_i hm
   simp only[aA0] at hr;subst hr;have hn2:u.2.nodes.length+1<=1000000:=by simpa[bR] using hn
   have HN:=hD (show u.2.nodes.length<=1000000 by omega);have HN2:=hD (Nat.le_trans (aV (aK _ _ _ _ hu)) HN);have HQ:=hD hq;have HU:=hD hu;have HM:=hD (show pIs ts [101,108,115,101] u.2=false by simpa using hm);clear h ih hn hn2 hq hq1 hu hu1 hw hm hok hgo;go_enter func138,ntmps138;go_wp2_with fail
   refine stepM (S0.o.line rfl) λw1 S1=>?_;go_wp2_with fail
   refine stepM (S1.o.word HW) λw2 S2=>?_;obtain⟨hg2,c12,c22,c42,c52,f22,f42⟩:=S2.o.cells;have hi2:=S2.o.i_le;go_wp2_with fail
   have HZ3:=hD (show (w2.setCell (g,U2) (((s).i:Int)+1:Int)).heap.size=w2.heap.size by simp);have S3:=hD (S2.o.go HO);clear hg2 c12 c22 c42 c52 f22 f42 hi2;generalize w2.setCell (g,U2) (((s).i:Int)+1:Int)=w3 at *;refine stepM (IH.o.expr _ _ _ _ _ S3 HQ HN2) λw4 S4=>?_;go_wp2_with fail
   refine stepM (IH.o.block _ _ _ _ _ S4 HU HN) λw5 S5=>?_;go_wp2_with fail
   have S6:=hD (S5.o.aRx (oneOf q.1) (oneOf u.1) rfl);refine stepM (S6.o.step (S6.o.here.is ⟨#[101,108,115,101]⟩ HM)) λw7 S7=>?_;go_wp2_with fail
   refine stepM (S7.o.put 15 _ 0 rfl rfl (name:=[]) rfl HN) λw8 S8=>?_;go_wp2
   go_ret;exact⟨rfl,S8⟩
theorem zX (ih:Good src tb tc ts g n) (h:St src tb tc ts g R w0 w s) (hw:bQ ts s=[114,101,116,117,114,110]) (hr:(if pIs ts [59] (pGo s) then some (bR 17 (bJ src.data.toList ts s) 0 [] [] (aA ts [59] (pGo s)))
    else (run src.data.toList ts n (.chain 0) (pGo s)).map λr=>bR 17 (bJ src.data.toList ts s) 0 [] r.1 (aA ts [59] r.2))=some r) (hn:r.2.nodes.length<=1000000):
   Calls prog 138 #[(g,())] w λe w'=>e = .returned (oneOf r.1)∧St src tb tc ts g R w0 w' r.2:=by
 have IH:=hD ih;have S0:=hD h;have HW:=hD (show bs (bQ ts s)=⟨#[114,101,116,117,114,110]⟩ by rw[hw];rfl);have HO:=hD (h.ok.jG h.toks hw (by decide));split at hr
 . rename_i hm
   simp only[aA0] at hr;subst hr;have hn2:(aA ts [59] (pGo s)).nodes.length+1<=1000000:=by simpa[bR] using hn
   have HN:=hD (show (aA ts [59] (pGo s)).nodes.length<=1000000 by omega);have HM:=hD hm;clear h ih hn hn2 hw hm;go_enter func138,ntmps138;go_wp2_with fail
   refine stepM (S0.o.line rfl) λw1 S1=>?_;go_wp2_with fail
   refine stepM (S1.o.word HW) λw2 S2=>?_;obtain⟨hg2,c12,c22,c42,c52,f22,f42⟩:=S2.o.cells;have hi2:=S2.o.i_le;go_wp2_with fail
   have HZ3:=hD (show (w2.setCell (g,U2) (((s).i:Int)+1:Int)).heap.size=w2.heap.size by simp);have S3:=hD (S2.o.go HO);clear hg2 c12 c22 c42 c52 f22 f42 hi2;generalize w2.setCell (g,U2) (((s).i:Int)+1:Int)=w3 at *;have S4:=hD (S3.o.row0 (.cells #[] 3) (some (w2.heap.size,())));refine stepM (S4.o.step (S4.o.here.is ⟨#[59]⟩ HM)) λw5 S5=>?_;go_wp2_with fail
   refine stepM (S5.o.step (S5.o.here.must ⟨#[59]⟩)) λw6 S6=>?_;go_wp2_with fail
   refine stepM (S6.o.put 17 _ 0 rfl rfl (name:=[]) rfl HN) λw7 S7=>?_;go_wp2
   go_ret;exact⟨rfl,S7⟩
 . rename_i hm
   simp only[mS] at hr;obtain⟨q,hq,rfl⟩:=hr;have hq1:=aJ _ _ _ _ hq trivial;have hn2:(aA ts [59] q.2).nodes.length+1<=1000000:=by simpa[bR] using hn
   have HN:=hD (show (aA ts [59] q.2).nodes.length<=1000000 by omega);have HN1:=hD (Nat.le_trans (aV ((Ext.refl q.2).must (ts:=ts) [59])) HN);have HQ:=hD hq;have HM:=hD (show pIs ts [59] (pGo s)=false by simpa using hm);rw[hq1];clear h ih hn hn2 hq hq1 hw hm;go_enter func138,ntmps138;go_wp2_with fail
   refine stepM (S0.o.line rfl) λw1 S1=>?_;go_wp2_with fail
   refine stepM (S1.o.word HW) λw2 S2=>?_;obtain⟨hg2,c12,c22,c42,c52,f22,f42⟩:=S2.o.cells;have hi2:=S2.o.i_le;go_wp2_with fail
   have HZ3:=hD (show (w2.setCell (g,U2) (((s).i:Int)+1:Int)).heap.size=w2.heap.size by simp);have S3:=hD (S2.o.go HO);clear hg2 c12 c22 c42 c52 f22 f42 hi2;generalize w2.setCell (g,U2) (((s).i:Int)+1:Int)=w3 at *;have S4:=hD (S3.o.row0 (.cells #[] 3) (some (w2.heap.size,())));refine stepM (S4.o.step (S4.o.here.is ⟨#[59]⟩ HM)) λw5 S5=>?_;go_wp2_with fail
   refine stepM (S5.o.step (IH.o.expr _ _ _ _ _ S5.o.here HQ HN1)) λw6 S6=>?_;go_wp2_with (at_builtin;go_loud (refine aL (m:=1) (news:=[oneOf q.1]) rfl _ _ rfl gW rfl rfl (S6.o.own.alloc _) (Rd.eZ (n:=1) (cs:=[oneOf q.1]) (Blk.new _ _ _) rfl (by decide)) (by simp[Value.oneCell']) (by simp[maxLen]) (by simp[maxLen]) ?_);intro A7 c7 w7 ho7 hf7 hv7;have S7:=hD (S6.o.app (kM ho7) hf7 hv7);clear ho7 hf7 hv7)
   refine stepM (S7.o.step (S7.o.here.must ⟨#[59]⟩)) λw8 S8=>?_;go_wp2_with fail
   refine stepM (S8.o.put 17 _ 0 rfl rfl (name:=[]) rfl HN) λw9 S9=>?_;go_wp2
   go_ret;exact⟨rfl,S9⟩
theorem aGp (ih:∀m,m<n->Good src tb tc ts g m):Does src tb tc ts g n .stmt 138 #[(g,())]:=by
 cases n with
 | zero=>exact Does.zero _ _ _
 | succ n=>
  intro R w0 w s r h hr hn;have ih0:=ih n (Nat.lt_succ_self n);have IH:=hD (ih n (Nat.lt_succ_self n));have S0:=hD h;simp only[run] at hr;by_cases hwlet:bQ ts s=[108,101,116]
  . rw[if_pos hwlet] at hr;exact aMp ih0 h hwlet hr hn
  . rw[if_neg hwlet] at hr
    by_cases hwprint:bQ ts s=[112,114,105,110,116]
    . rw[if_pos hwprint] at hr;exact aEo ih0 h hwprint hr hn
    . rw[if_neg hwprint] at hr
      by_cases hwwhile:bQ ts s=[119,104,105,108,101]
      . rw[if_pos hwwhile] at hr;exact aCz ih0 h hwwhile hr hn
      . rw[if_neg hwwhile] at hr
        by_cases hwif:bQ ts s=[105,102]
        . rw[if_pos hwif] at hr;exact aPq ih0 h hwif hr hn
        . rw[if_neg hwif] at hr
          by_cases hwreturn:bQ ts s=[114,101,116,117,114,110]
          . rw[if_pos hwreturn] at hr;exact zX ih0 h hwreturn hr hn
          . rw[if_neg hwreturn] at hr
            have HN:=hD hn;have HQ:=hD hr;have hX:(bs (bQ ts s)).toList=bQ ts s:=by rw[ByteArray.toList_eq];rfl
            have b0:((bs (bQ ts s)).toList==[108,101,116])=false:=by rw[hX];exact bN.2 hwlet
            have b1:((bs (bQ ts s)).toList==[112,114,105,110,116])=false:=by rw[hX];exact bN.2 hwprint
            have b2:((bs (bQ ts s)).toList==[119,104,105,108,101])=false:=by rw[hX];exact bN.2 hwwhile
            have b3:((bs (bQ ts s)).toList==[105,102])=false:=by rw[hX];exact bN.2 hwif
            have b4:((bs (bQ ts s)).toList==[114,101,116,117,114,110])=false:=by rw[hX];exact bN.2 hwreturn
            obtain⟨X,hXX⟩:∃X,bs (bQ ts s)=X:=⟨_,rfl⟩;rw[hXX] at b0 b1 b2 b3 b4;have HW:=hD hXX;clear h ih ih0 hn hr hX hXX hwlet hwprint hwwhile hwif hwreturn;go_enter func138,ntmps138;go_wp2_with fail
            refine stepM (S0.o.line rfl) λw1 S1=>?_;go_wp2_with fail
            refine stepM (S1.o.word HW) λw2 S2=>?_;go_wp2_with fail
            refine stepM (IH.o.named _ _ _ _ _ _ S2 HQ HN) λw3 S3=>?_;go_wp2
            go_ret;exact⟨rfl,S3⟩
end
section
variable {src:ByteArray}{tb tc:Nat}{ts:List Tok}{g:Nat}{n:Nat}
theorem aFu (ih:∀m,m<n->Good src tb tc ts g m) (lv:Nat) (z:Int) (hz:((lv:Nat):Int)=z) (hlv:lv<=5):Does src tb tc ts g n (.chain lv) 192 #[(g,()),z]:=by
 subst hz;cases n with
 | zero=>exact Does.zero _ _ _
 | succ n=>
  intro R w0 w s r h hr hn;have IH:=hD (ih n (Nat.lt_succ_self n));have S0:=hD h;simp only[run] at hr;by_cases h5:lv=5
  . subst h5
    rw[if_pos rfl] at hr;have HQ:=hD hr;have HN:=hD hn;clear h ih hn hr;go_enter func192,ntmps192;go_wp2_with fail
    refine stepM (IH.o.factor _ _ _ _ _ S0 HQ HN) λw1 S1=>?_;go_wp2
    go_ret;exact⟨rfl,S1⟩
  . rw[if_neg h5] at hr
    have lv4:lv<=4:=by omega
    have l0:((lv:Int)==5)=false:=bN.2 (by omega);have l1:(lv:Int)<=4:=by omega
    simp only[bS] at hr;obtain⟨q,hq,hm⟩:=hr;have HN:=hD hn;have HN1:=hD (Nat.le_trans (aV (aK _ _ _ _ hm)) hn);have HQ:=hD hq;have HM:=hD hm;have HL:=hD lv4;have HI:=hD ih;clear h ih hn hq hm hlv h5 lv4;obtain⟨line,hline⟩:∃line,bJ src.data.toList ts s=line:=⟨_,rfl⟩;rw[hline] at HM;have HLN:=hD hline;clear hline;go_enter func192,ntmps192;go_wp2_with fail
    refine stepM (S0.o.line HLN) λw1 S1=>?_;go_wp2_with fail
    refine stepM (IH.o.chain (lv+1) _ rfl (by have:=HL.o;omega) _ _ _ _ _ S1 HQ HN1) λw2 S2=>?_;go_wp2
    go_loopg [6] n (λk x wr=>∃(xv:Nat) (s':PS),x = .int .i64 (xv:Nat)∧Hd (k<=n)∧Hd (St src tb tc ts g R w0 wr s')∧Hd (run src.data.toList ts k (.more lv line xv) s'=some r))
    case atStart=>exact⟨oneOf q.1,q.2,rfl,hD (aA1 n),S2,HM⟩
    case round=>
     obtain⟨xv,s',rfl,HK,S3,HR⟩:=hrel;clear S0 S1 S2 HQ HM HN1 IH;have hr:=HR.o;cases gk with
     | zero=>simp[run] at hr
     | succ k=>
      simp only[run] at hr;have IH:=hD (HI k (by have:=HK.o;omega));obtain⟨X,hX⟩:∃X,bs (fQ ts lv s')=X:=⟨_,rfl⟩;have HX:=hD hX;by_cases hp:fQ ts lv s'=[]
      . rw[if_pos hp] at hr
        simp only[aA0] at hr;subst hr;obtain rfl:X=⟨#[]⟩:=by rw[<-hX,hp];rfl
        clear hX hp HR;go_wp2_with fail
        refine stepM (S3.o.next lv HL HX) λw4 S4=>?_;go_wp2
        go_ret;exact⟨rfl,S4⟩
      . rw[if_neg hp] at hr
        simp only[bS] at hr;obtain⟨u,hu,hr⟩:=hr;have hu1:=aJ _ _ _ _ hu trivial;have b1:(X.toList==[])=false:=by rw[<-hX,ByteArray.toList_eq];exact bN.2 hp
        have b2:X.toList.isEmpty=false:=by rw[<-hX,ByteArray.toList_eq];exact List.isEmpty_eq_false_iff.2 hp
        have HO:=hD (S3.o.ok.vC S3.o.toks hp);have HU:=hD hu;clear hX hu HR hp;by_cases h2:lv=2
        . subst h2
          rw[if_pos rfl] at hr;simp only[aA0] at hr;subst hr
          have HN2 := hD (show u.2.nodes.length ≤ 1000000 by have : u.2.nodes.length + 1 ≤ 1000000 := by simpa [bR] using HN.o
                                                             omega)
          clear hu1 l0 l1;go_wp2_with fail
          refine stepM (S3.o.next _ HL HX) λw4 S4=>?_;obtain⟨hg4,c14,c24,c44,c54,f24,f44⟩:=S4.o.cells;have hi4:=S4.o.i_le;go_wp2_with fail
          have HZ5:=hD (show (w4.setCell (g,U2) (((s').i:Int)+1:Int)).heap.size=w4.heap.size by simp);have S5:=hD (S4.o.go HO);clear hg4 c14 c24 c44 c54 f24 f44 hi4;generalize w4.setCell (g,U2) (((s').i:Int)+1:Int)=w5 at *;refine stepM (IH.o.chain 3 _ rfl (by decide) _ _ _ _ _ S5 HU HN2) λw6 S6=>?_;go_wp2_with fail
          refine stepM (S6.o.aOe xv (oneOf u.1) rfl 9 _ 0 rfl rfl (name:=(fQ ts 2 s')) HX HN2) λw7 S7=>?_;go_wp2
          go_ret;exact⟨rfl,S7⟩
        . rw[if_neg h2] at hr
          have l2:((lv:Int)==2)=false:=bN.2 (by omega);have hpe:=aK _ _ _ _ hr
          have HN2 := hD (show u.2.nodes.length ≤ 1000000 by have h7 := aV hpe
                                                             have h8 := HN.o
                                                             have : u.2.nodes.length + 1 ≤ r.2.nodes.length := by simpa [bR] using h7
                                                             omega)
          have HR2:=hD hr;clear hr hpe h2 hu1;go_wp2_with fail
          refine stepM (S3.o.next lv HL HX) λw4 S4=>?_;obtain⟨hg4,c14,c24,c44,c54,f24,f44⟩:=S4.o.cells;have hi4:=S4.o.i_le;go_wp2_with fail
          have HZ5:=hD (show (w4.setCell (g,U2) (((s').i:Int)+1:Int)).heap.size=w4.heap.size by simp);have S5:=hD (S4.o.go HO);clear hg4 c14 c24 c44 c54 f24 f44 hi4;generalize w4.setCell (g,U2) (((s').i:Int)+1:Int)=w5 at *;refine stepM (IH.o.chain (lv+1) _ rfl (by have:=HL.o;omega) _ _ _ _ _ S5 HU HN2) λw6 S6=>?_;go_wp2_with fail
          refine stepM (S6.o.aOe xv (oneOf u.1) rfl 9 _ 0 rfl rfl (name:=(fQ ts lv s')) HX HN2) λw7 S7=>?_;go_wp2
          go_roundg k
          case measure=>omega
          case rel=>exact⟨u.2.nodes.length,(bR 9 line 0 (fQ ts lv s') [xv,oneOf u.1] u.2).2,rfl,hD (by have:=HK.o;omega),S7,HR2⟩
end
section
variable {src:ByteArray}{tb tc:Nat}{ts:List Tok}{g:Nat}{n:Nat}
def aCw (src:List UInt8) (ts:List Tok) (k:Nat) (l:List Nat) (s:PS) (q:List Nat×PS):Bool->Prop
 | true=>run src ts k (.args l) s=some q
 | false=>q=(l,s)
theorem aKg (ih:∀m,m<n->Good src tb tc ts g m):Does src tb tc ts g n .call 191 #[(g,())]:=by
 cases n with
 | zero=>exact Does.zero _ _ _
 | succ n=>
  intro R w0 w s r h hr hn;have IH:=hD (ih n (Nat.lt_succ_self n));have S0:=hD h;simp only[run] at hr;simp only[mS] at hr;obtain⟨q,hq,rfl⟩:=hr;obtain⟨s2,hs2⟩:∃s2,aA ts [40] (aI ts s)=s2:=⟨_,rfl⟩;rw[hs2] at hq;have hn2:(aA ts [41] q.2).nodes.length+1<=1000000:=by simpa[bR] using hn
  have HN:=hD (show (aA ts [41] q.2).nodes.length<=1000000 by omega);have HN1:=hD (Nat.le_trans (aV ((Ext.refl q.2).must (ts:=ts) [41])) HN);have HI:=hD ih;have HS2:=hD hs2;obtain⟨line,hline⟩:∃line,bJ src.data.toList ts s=line:=⟨_,rfl⟩;have HLN:=hD hline;obtain⟨NM,hname⟩:∃NM,bs (dZ ts s)=NM:=⟨_,rfl⟩;have HNM:=hD hname;rw[hline];clear h ih hn hn2 hs2 hline hname;by_cases he1:pIs ts [41] s2=true
  case' pos=>
   rw[if_neg (by rw[he1];simp)] at hq
   simp only[aA0] at hq;have HA:Hd (aCw src.data.toList ts n [] s2 q false):=hq.symm;have HE:=hD he1;clear he1 hq;go_enter func191,ntmps191;go_wp2_with fail
   refine stepM (S0.o.line HLN) λw1 S1=>?_;go_wp2_with fail
   refine stepM (S1.o.name HNM) λw2 S2=>?_;go_wp2_with fail
   refine stepM (S2.o.must ⟨#[40]⟩) λw3 S3=>?_;have S4:=hD (show St src tb tc ts g R w0 w3 s2 by have h4:=S3.o;rw[<-HS2.o];exact h4);clear S3;go_wp2_with fail
   have S5:=hD (S4.o.row0 (.cells #[] 3) (some (w3.heap.size,())));refine stepM (S5.o.step (S5.o.here.is ⟨#[41]⟩ HE)) λw6 S6=>?_;clear S0 S1 S2 S4 S5;obtain⟨hg6,c16,c26,c46,c56,f26,f46⟩:=S6.o.st.cells;go_wp2
   clear hg6 c16 c26 c46 c56 f26 f46
  case' neg=>
   have he2:pIs ts [41] s2=false:=by simpa using he1
   have HE:=hD he2;by_cases h0:s2.e=0
   case' pos=>
    rw[if_pos ⟨he2,h0⟩] at hq
    have HA:Hd (aCw src.data.toList ts n [] s2 q true):=hq;have he:((s2.e:Int)==0)=true:=by rw[h0];rfl
   case' neg=>
    rw[if_neg (by rintro⟨_,h⟩;exact h0 h)] at hq
    simp only[aA0] at hq;have HA:Hd (aCw src.data.toList ts n [] s2 q false):=hq.symm;have he:((s2.e:Int)==0)=false:=bN.2 (by omega)
   all_goals
    clear he1 he2 h0 hq;go_enter func191,ntmps191;go_wp2_with fail
    refine stepM (S0.o.line HLN) λw1 S1=>?_;go_wp2_with fail
    refine stepM (S1.o.name HNM) λw2 S2=>?_;go_wp2_with fail
    refine stepM (S2.o.must ⟨#[40]⟩) λw3 S3=>?_;have S4:=hD (show St src tb tc ts g R w0 w3 s2 by have h4:=S3.o;rw[<-HS2.o];exact h4);clear S3;go_wp2_with fail
    have S5:=hD (S4.o.row0 (.cells #[] 3) (some (w3.heap.size,())));refine stepM (S5.o.step (S5.o.here.is ⟨#[41]⟩ HE)) λw6 S6=>?_;clear S0 S1 S2 S4 S5;obtain⟨hg6,c16,c26,c46,c56,f26,f46⟩:=S6.o.st.cells;go_wp2
    clear hg6 c16 c26 c46 c56 f26 f46 he
  all_goals
   go_loopg [5,7] n (λk v more wr=>∃(l:List Nat) (s':PS) (b:Bool),more = .bool b∧Hd (k<=n)∧Hd (StR src tb tc ts g R w0 wr s' v l)∧Hd (aCw src.data.toList ts k l s' q b)∧Hd (b=true->l.length<=s'.i))
   case atStart=>exact⟨[],s2,_,rfl,hD (aA1 n),S6,HA,hD (λ_=>aA4 _)⟩
   case round=>
     obtain⟨l,s',b,rfl,HK,S3,HR,HB⟩:=hrel;clear S6 HA HE;cases b with
     | false=>
      have hr:q=(l,s'):=HR.o;subst hr;clear HR HB;have S3:Hd (StR src tb tc ts g R w0 wr s' _ l):=S3;go_wp2_with fail
      refine stepM (S3.o.step (S3.o.here.must ⟨#[41]⟩)) λw4 S4=>?_;go_wp2_with fail
      refine stepM (S4.o.put 21 _ 0 rfl rfl (name:=(dZ ts s)) HNM HN) λw5 S5=>?_;go_wp2
      go_ret;exact⟨rfl,S5⟩
     | true=>
      have hr:run src.data.toList ts gk (.args l) s'=some q:=HR.o;cases gk with
      | zero=>simp[run] at hr
      | succ k=>
       simp only[run,bS] at hr;obtain⟨u,hu,hr⟩:=hr;have IH:=hD (HI k (by have:=HK.o;omega));have hu1:=aJ _ _ _ _ hu trivial;rw[hu1] at hr;have hok:=iQ S3.o.st.toks _ _ _ _ hu S3.o.st.ok;have hle:=(aK _ _ _ _ hu).i;have hb:=HB.o rfl;have hri:=S3.o.st.i_le;have HU:=hD hu;have HB2:=hD (show l.length<=1000 by omega);have HLE:=hD (show l.length<=u.2.i by omega);clear hu hu1 hle hb hri HB HR;by_cases hm:pIs ts [44] u.2=true
       . rw[if_pos hm] at hr
         have HN2:=hD (Nat.le_trans (aV (((Ext.refl u.2).go).trans (aK _ _ _ _ hr))) HN1);have HM:=hD hm;have HO:=hD (hok.yL S3.o.st.toks hm);have HR2:=hD hr;clear hr hm hok;go_wp2_with fail
         refine stepM (S3.o.step (IH.o.expr _ _ _ _ _ S3.o.here HU HN2)) λw4 S4=>?_;go_wp2_with (at_builtin;go_loud (refine aL (m:=1) (news:=[oneOf u.1]) rfl _ _ rfl gW rfl rfl (S4.o.own.alloc _) (Rd.eZ (n:=1) (cs:=[oneOf u.1]) (Blk.new _ _ _) rfl (by decide)) (by simp[Value.oneCell']) (by have h9:=HB2.o;first|omega|(unfold maxLen;omega)) (by have h9:=HB2.o;first|omega|(unfold maxLen;omega)) ?_);intro A5 c5 w5 ho5 hf5 hv5;have S5:=hD (S4.o.app (kM ho5) hf5 hv5);clear ho5 hf5 hv5)
         refine stepM (S5.o.step (S5.o.here.is ⟨#[44]⟩ HM)) λw6 S6=>?_;obtain⟨hg6,c16,c26,c46,c56,f26,f46⟩:=S6.o.st.cells;have hi6:=S6.o.st.i_le;go_wp2_with fail
         have HZ7:=hD (show (w6.setCell (g,U2) (((u.2).i:Int)+1:Int)).heap.size=w6.heap.size by simp);have S7:=hD (S6.o.go HO);clear hg6 c16 c26 c46 c56 f26 f46 hi6;generalize w6.setCell (g,U2) (((u.2).i:Int)+1:Int)=w7 at *;go_roundg k
         case measure=>omega
         case rel=>exact⟨l++[oneOf u.1],pGo u.2,true,rfl,hD (by have:=HK.o;omega),S7,HR2,hD (λ_=>by have h9:=HLE.o;rw[aA3];show l.length+1<=u.2.i+1;omega)⟩
       . rw[if_neg hm] at hr
         simp only[aA0] at hr;have HN2:=hD (show u.2.nodes.length<=1000000 by rw[<-hr] at HN1;exact HN1);have HM:=hD (show pIs ts [44] u.2=false by simpa using hm);have HR2:=hD hr.symm;clear hr hm hok;go_wp2_with fail
         refine stepM (S3.o.step (IH.o.expr _ _ _ _ _ S3.o.here HU HN2)) λw4 S4=>?_;go_wp2_with (at_builtin;go_loud (refine aL (m:=1) (news:=[oneOf u.1]) rfl _ _ rfl gW rfl rfl (S4.o.own.alloc _) (Rd.eZ (n:=1) (cs:=[oneOf u.1]) (Blk.new _ _ _) rfl (by decide)) (by simp[Value.oneCell']) (by have h9:=HB2.o;first|omega|(unfold maxLen;omega)) (by have h9:=HB2.o;first|omega|(unfold maxLen;omega)) ?_);intro A5 c5 w5 ho5 hf5 hv5;have S5:=hD (S4.o.app (kM ho5) hf5 hv5);clear ho5 hf5 hv5)
         refine stepM (S5.o.step (S5.o.here.is ⟨#[44]⟩ HM)) λw6 S6=>?_;go_wp2
         go_roundg k
         case measure=>omega
         case rel=>exact⟨l++[oneOf u.1],u.2,false,rfl,hD (by have:=HK.o;omega),S6,HR2,hD (λh=>by cases h)⟩
theorem aFy (ih:∀m,m<n->Good src tb tc ts g m):Does src tb tc ts g n .block 93 #[(g,())]:=by
 cases n with
 | zero=>exact Does.zero _ _ _
 | succ n=>
  intro R w0 w s r h hr hn;have IH:=hD (ih n (Nat.lt_succ_self n));have S0:=hD h;simp only[run] at hr;by_cases hm:pIs ts [123] s=true
  case neg=>
   rw[if_neg hm] at hr;simp only[aA0] at hr;subst hr;have HM:=hD (show pIs ts [123] s=false by simpa using hm);clear h ih hn hm;go_enter func93,ntmps93;go_wp2_with fail
   refine stepM (S0.o.line rfl) λw1 S1=>?_;go_wp2_with fail
   refine stepM (S1.o.is ⟨#[123]⟩ HM) λw2 S2=>?_;go_wp2_with fail
   refine stepM (S2.o.fails 20 (by decide) (by decide)) λw3 S3=>?_;go_wp2
   go_ret;exact⟨rfl,S3⟩
  case pos=>
   rw[if_pos hm] at hr;simp only[mS] at hr;obtain⟨q,hq,rfl⟩:=hr;obtain⟨s2,hs2⟩:∃s2,aA ts [123] (aX ts s)=s2:=⟨_,rfl⟩;rw[hs2] at hq;have hd:=iG _ _ _ _ hq;rw[<-hs2,bH,dO] at hd;have hdl:=h.ok.fine (aM hm).1;have HDB:=hD (show (1:Int)<=((aA ts [125] q.2).deep:Int)∧((aA ts [125] q.2).deep:Int)<=20 by rw[bH];omega);have HD:=hD (show 1<=(aA ts [125] q.2).deep by rw[bH];omega);have hn2:(aA ts [125] q.2).nodes.length+1<=1000000:=by simpa[bR,pUp] using hn
   have HN:=hD (show (aA ts [125] q.2).nodes.length<=1000000 by omega);have HN1:=hD (Nat.le_trans (aV ((Ext.refl q.2).must (ts:=ts) [125])) HN);have HI:=hD ih;have HS2:=hD hs2;obtain⟨line,hline⟩:∃line,bJ src.data.toList ts s=line:=⟨_,rfl⟩;have HLN:=hD hline;have HM:=hD hm;have H0:=hD (aM hm).1;have HA:=hD hq;rw[hline];clear h ih hn hn2 hs2 hline hm hd hdl hq;go_enter func93,ntmps93;go_wp2_with fail
   refine stepM (S0.o.line HLN) λw1 S1=>?_;go_wp2_with fail
   refine stepM (S1.o.is ⟨#[123]⟩ HM) λw2 S2=>?_;go_wp2_with fail
   refine stepM (S2.o.down H0) λw3 S3=>?_;go_wp2_with fail
   refine stepM (S3.o.must ⟨#[123]⟩) λw4 S4=>?_;have S5:=hD (show St src tb tc ts g R w0 w4 s2 by have h4:=S4.o;rw[<-HS2.o];exact h4);clear S0 S1 S2 S3 S4;go_wp2_with fail
   have S6:=hD (S5.o.row0 (.cells #[] 3) (some (w4.heap.size,())));go_loopg [5] n (λk v wr=>∃(l:List Nat) (s':PS),Hd (k<=n)∧Hd (StR src tb tc ts g R w0 wr s' v l)∧Hd (run src.data.toList ts k (.stmts l) s'=some q)∧Hd (l.length<=s'.nodes.length))
   case atStart=>exact⟨[],s2,hD (aA1 n),S6,HA,hD (aA4 _)⟩
   case round=>
    obtain⟨l,s',HK,S3,HR,HB⟩:=hrel;clear S5 S6 HA;have hr:=HR.o;cases gk with
    | zero=>simp[run] at hr
    | succ k=>
     simp only[run] at hr;by_cases h0:s'.e=0
     case neg=>
      rw[if_pos h0] at hr;simp only[aA0] at hr;subst hr;have he:((s'.e:Int)==0)=false:=bN.2 (by omega);clear h0 HR HB;obtain⟨hg3,c13,c23,c43,c53,f23,f43⟩:=S3.o.st.cells;go_wp2_with fail
      clear hg3 c13 c23 c43 c53 f23 f43 he;refine stepM (S3.o.step (S3.o.here.must ⟨#[125]⟩)) λw4 S4=>?_;obtain⟨hg4,c14,c24,c44,c54,f24,f44⟩:=S4.o.st.cells;have hi4:=S4.o.st.i_le;obtain⟨hl4,hu4⟩:=HDB.o;go_wp2_with fail
      have S5:=hD (S4.o.up HD);clear hg4 c14 c24 c44 c54 f24 f44 hi4 hl4 hu4;generalize w4.setCell (g,U4) (((aA ts [125] (s')).deep:Int) - 1:Int)=w5 at *;refine stepM (S5.o.put 18 _ 0 rfl rfl (name:=[]) rfl HN) λw6 S6=>?_;go_wp2
      go_ret;exact⟨rfl,S6⟩
     case pos=>
      rw[if_neg (by omega)] at hr;have he:((s'.e:Int)==0)=true:=by rw[h0];rfl
      obtain⟨hg3,c13,c23,c43,c53,f23,f43⟩:=S3.o.st.cells;by_cases hm:pIs ts [125] s'=true
      . rw[if_pos hm] at hr
        simp only[aA0] at hr;subst hr;have HM2:=hD hm;clear h0 HR HB hm;go_wp2_with fail
        clear hg3 c13 c23 c43 c53 f23 f43 he;refine stepM (S3.o.step (S3.o.here.is ⟨#[125]⟩ HM2)) λw4 S4=>?_;go_wp2_with fail
        refine stepM (S4.o.step (S4.o.here.must ⟨#[125]⟩)) λw5 S5=>?_;obtain⟨hg5,c15,c25,c45,c55,f25,f45⟩:=S5.o.st.cells;have hi5:=S5.o.st.i_le;obtain⟨hl5,hu5⟩:=HDB.o;go_wp2_with fail
        have S6:=hD (S5.o.up HD);clear hg5 c15 c25 c45 c55 f25 f45 hi5 hl5 hu5;generalize w5.setCell (g,U4) (((aA ts [125] (s')).deep:Int) - 1:Int)=w6 at *;refine stepM (S6.o.put 18 _ 0 rfl rfl (name:=[]) rfl HN) λw7 S7=>?_;go_wp2
        go_ret;exact⟨rfl,S7⟩
      . rw[if_neg hm] at hr
        simp only[bS] at hr;obtain⟨u,hu,hr⟩:=hr;have IH:=hD (HI k (by have:=HK.o;omega));have hu1:=aJ _ _ _ _ hu trivial;have hp:=xJ hu;rw[hu1] at hr;have HN2:=hD (Nat.le_trans (aV (aK _ _ _ _ hr)) HN1);have HB2:=hD (show l.length<=1000000 by have:=HB.o;have:=HN2.o;omega);have HB3:=hD (show l.length+1<=u.2.nodes.length by have:=HB.o;omega);have HU:=hD hu;have HR2:=hD hr;have HM2:=hD (show pIs ts [125] s'=false by simpa using hm);clear h0 HR HB hm hu hu1 hp hr;go_wp2_with fail
        clear hg3 c13 c23 c43 c53 f23 f43 he;refine stepM (S3.o.step (S3.o.here.is ⟨#[125]⟩ HM2)) λw4 S4=>?_;go_wp2_with fail
        refine stepM (S4.o.step (IH.o.stmt _ _ _ _ _ S4.o.here HU HN2)) λw5 S5=>?_;go_wp2_with (at_builtin;go_loud (refine aL (m:=1) (news:=[oneOf u.1]) rfl _ _ rfl gW rfl rfl (S5.o.own.alloc _) (Rd.eZ (n:=1) (cs:=[oneOf u.1]) (Blk.new _ _ _) rfl (by decide)) (by simp[Value.oneCell']) (by have h9:=HB2.o;first|omega|(unfold maxLen;omega)) (by have h9:=HB2.o;first|omega|(unfold maxLen;omega)) ?_);intro A6 c6 w6 ho6 hf6 hv6;have S6:=hD (S5.o.app (kM ho6) hf6 hv6);clear ho6 hf6 hv6)
        go_roundg k
        case measure=>omega
        case rel=>exact⟨l++[oneOf u.1],u.2,hD (by have:=HK.o;omega),S6,HR2,hD (by have h9:=HB3.o;rw[aA3];exact h9)⟩
end
end Go.Proofs.YtlbjicjinnnboaaGreatDoor
