/-
  CheckRefuses: for every input the call returns true, and the arguments read as they read before.
  Condition: the seven listed library variables hold what the program's text lays (the card ties them).
-/
import Derived.Test.YtlbjicjinnnboaaGreatDoorMrs
import Derived.Test.YtlbjicjinnnboaaGreatDoorMrU
import Derived.Test.YtlbjicjinnnboaaGreatDoorTie
import Derived.Test.YtlbjicjinnnboaaGreatDoorCards
import Derived.ChangeOld
import Derived.ChangeMaps5
import Derived.SevenTiedAt
set_option maxRecDepth 100000
set_option linter.unusedVariables false
namespace Go.Proofs.YtlbjicjinnnboaaGreatDoor.checkRefuses
open Go.ChangeShapes Go.WideShapes Go.ChangeAt Go.RowKit
open Go.ChangeMaps (open_string shut_string)
theorem lifted (os:Os) (started:os.Started) (H:Type) (enc:TypeId×Value→H):
  ReturnsInHanded {} Tryz.checked os 10 .any (fun w args=>(Rows.checkRefusesSpec.pre enc Tryz.prog Tryz.f10 Rows.checkRefusesRow.domain false w args∧laidMetH Tryz.prog Rows.checkRefusesRow.laid w)∧sizedMet enc Tryz.prog Tryz.f10 (OpenSpec.ofChange Rows.checkRefusesSpec) false w args)
    (Rows.checkRefusesSpec.post enc Tryz.prog Tryz.f10 false true false false):=by
 refine oW (C:=Tryz.checked) (X:=fun w _=>laidMetH Tryz.prog Rows.checkRefusesRow.laid w) (fun _ _ _ hh h=>h.of_heap hh) aSq started (by kernel_rfl) Tryz.func10
  (ChangeSpec.witness_shaped (enc:=enc) (C:=Tryz.checked) (os:=os) (X:=fun w _=>laidMetH Tryz.prog Rows.checkRefusesRow.laid w) false (World.laidAll Tryz.prog os Rows.checkRefusesRow.laid) #[.string ⟨#[]⟩] 8 (World.laidAll_os _ _ _)
    (World.shaped_of_ZipB (by kernel_rfl) (by kernel_rfl)) (by kernel_rfl) (by kernel_rfl) (by kernel_rfl)
    (by rw[MakeChecks.laidMetH_plain _ _ _ (by kernel_rfl)];exact laidMet_laidAll _ (by kernel_rfl) (by kernel_rfl))) ?_
 intro W base args ds gs before hval0 hW hsz hL hsh;have hval:∀(j:Nat) t v,Tryz.f10.params[j]?=some t→args[j]?=some v→Value.okWide Tryz.prog W .any base t v:=hval0;have hW':=hW;obtain⟨p,q,hA0,hV,rfl,hfz,hnd⟩:=hW;have hA:DataW.TrodAll enc Tryz.prog W 0 (fun _=>true) true Tryz.f10.params.toList args.toList ds p:=hA0;rw[Tryz.params10] at hA hval;obtain⟨v0,d0,rfl,rfl,h0⟩:=trodAll_one hA;obtain⟨rfl,rfl⟩:=trodVars_none hV;obtain⟨s0,rfl,rfl,rfl,hs0⟩:=open_string Tryz.underlying9 (hval 0 9 v0 rfl rfl) h0;have hb0:s0.data.toList.length≤reachBytes:=sized_string hsz (j:=0) (t:=9) rfl rfl;have b0:s0.size≤281474976710656:=by
  have:s0.data.toList.length=s0.size:=by simp
  have:reachBytes≤281474976710656:=by decide
  omega
 clear hA0 hval0;have V:=xU (by exact hL) hsh;refine (oI aRs aRr s0 _ V).mono fun e W' ⟨he,hf⟩=>?_
 have bel:=hf.below;subst he;exact⟨_,rfl,_,_,_,[],_,[],hW',trodAll_mk1 (shut_bool Tryz.underlying4 _),trodAll_mk1 (shut_string Tryz.underlying9 hs0),rfl,bel.frame _,fun h=>by cases h⟩
theorem over:Rows.checkRefusesRow.holds Tryz.pinned (OpenSpec.ofChange Rows.checkRefusesSpec):=
 OpenClaim.holds_of_wide 10 Tryz.f10 rfl rfl rfl rfl rfl rfl rfl ⟨rfl,rfl,rfl,rfl,rfl⟩ rfl rfl rfl rfl rfl (by kernel_rfl) Tryz.func10 (by kernel_rfl)
  (of_decide_eq_true (by kernel_rfl)) (by unfold Func.isWrapper;first|(rw[if_pos (by decide +kernel)];kernel_rfl)|(rw[if_neg (by decide +kernel)];exact⟨rfl,rfl⟩))
  (fun os started H enc _=>lifted os started H enc)
theorem proved:Rows.CheckRefusesCardSaid:=
 Claim7.holds_tied_plain_at .later [] [.data,.data,.data,.data,.sentinel,.sentinel,.pinned] true Rows.checkRefusesCard.stood.harness true over (fun _ h=>by cases h) (by kernel_rfl) (fun _ h=>by cases h) checkRefuses_row_tie rfl ⟨rfl,rfl⟩ (by kernel_rfl) rfl
  (fun f fn hf hfn=>by
    obtain rfl : f = 10 := Option.some.inj ((show Tryz.prog.funcNamed "furcate/furcatelaw04.CheckRefuses" = some 10 by kernel_rfl).symm.trans hf) |>.symm
    obtain rfl:fn=Tryz.f10:=(Option.some.inj (Tryz.func10.symm.trans hfn)).symm;exact⟨by kernel_rfl,fun j t ht=>by
     rw[Tryz.params10] at ht;have hm:t∈[9]:=by simpa using Array.mem_of_getElem? ht
     have hall:([9].all fun u=> !Tryz.prog.wantsStandIn u)=true:=by kernel_rfl
     exact (show Tryz.prog.wantsStandIn t=false by simpa using List.all_eq_true.1 hall t hm)⟩)
  (by kernel_rfl)
#print axioms proved
end Go.Proofs.YtlbjicjinnnboaaGreatDoor.checkRefuses
