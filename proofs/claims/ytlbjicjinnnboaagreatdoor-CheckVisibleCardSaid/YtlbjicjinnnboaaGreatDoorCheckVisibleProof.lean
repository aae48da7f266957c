/-
  CheckVisible: for every input the call returns true, and the arguments read as they read before.
  Condition: the seven listed library variables hold what the program's text lays (the card ties them).
-/
import Derived.Test.YtlbjicjinnnboaaGreatDoorMvR
import Derived.Test.YtlbjicjinnnboaaGreatDoorMvV
import Derived.Test.YtlbjicjinnnboaaGreatDoorMvs
import Derived.Test.YtlbjicjinnnboaaGreatDoorMvW
import Derived.Test.YtlbjicjinnnboaaGreatDoorTie
import Derived.Test.YtlbjicjinnnboaaGreatDoorCards
import Derived.ChangeOld
import Derived.ChangeMaps5
import Derived.SevenTiedAt
set_option maxRecDepth 100000
set_option linter.unusedVariables false
namespace Go.Proofs.YtlbjicjinnnboaaGreatDoor.checkVisible
open Go.ChangeShapes Go.WideShapes Go.ChangeAt Go.RowKit
open Go.ChangeMaps (open_string shut_string)
theorem lifted (os:Os) (started:os.Started) (H:Type) (enc:TypeId×Value→H):
  ReturnsInHanded {} Tryz.checked os 8 .any (fun w args=>(Rows.checkVisibleSpec.pre enc Tryz.prog Tryz.f8 Rows.checkVisibleRow.domain false w args∧laidMetH Tryz.prog Rows.checkVisibleRow.laid w)∧sizedMet enc Tryz.prog Tryz.f8 (OpenSpec.ofChange Rows.checkVisibleSpec) false w args)
    (Rows.checkVisibleSpec.post enc Tryz.prog Tryz.f8 false true false false):=by
 refine qE (C:=Tryz.checked) (X:=fun w _=>laidMetH Tryz.prog Rows.checkVisibleRow.laid w) (fun _ _ _ hh h=>h.of_heap hh) aTg started (by kernel_rfl) Tryz.func8
  (ChangeSpec.witness_shaped (enc:=enc) (C:=Tryz.checked) (os:=os) (X:=fun w _=>laidMetH Tryz.prog Rows.checkVisibleRow.laid w) false (World.laidAll Tryz.prog os Rows.checkVisibleRow.laid) #[.string ⟨#[]⟩] 8 (World.laidAll_os _ _ _)
    (World.shaped_of_ZipB (by kernel_rfl) (by kernel_rfl)) (by kernel_rfl) (by kernel_rfl) (by kernel_rfl)
    (by rw[MakeChecks.laidMetH_plain _ _ _ (by kernel_rfl)];exact laidMet_laidAll _ (by kernel_rfl) (by kernel_rfl))) ?_
 intro W base args ds gs before hval0 hW hsz hL hsh;have hval:∀(j:Nat) t v,Tryz.f8.params[j]?=some t→args[j]?=some v→Value.okWide Tryz.prog W .any base t v:=hval0;have hW':=hW;obtain⟨p,q,hA0,hV,rfl,hfz,hnd⟩:=hW;have hA:DataW.TrodAll enc Tryz.prog W 0 (fun _=>true) true Tryz.f8.params.toList args.toList ds p:=hA0;rw[Tryz.params8] at hA hval;obtain⟨v0,d0,rfl,rfl,h0⟩:=trodAll_one hA;obtain⟨rfl,rfl⟩:=trodVars_none hV;obtain⟨s0,rfl,rfl,rfl,hs0⟩:=open_string Tryz.underlying9 (hval 0 9 v0 rfl rfl) h0;have hb0:s0.data.toList.length<=reachBytes:=sized_string hsz (j:=0) (t:=9) rfl rfl;have b0:s0.size<=281474976710656:=by
  have:s0.data.toList.length=s0.size:=by simp
  have:reachBytes<=281474976710656:=by decide
  omega
 clear hA0 hval0;have V:=zK (by exact hL) hsh;refine (pQ aSk (fun src w hs _ hr=>aDi src w hs hr) s0 _ V).mono fun e W' ⟨he,hf⟩=>?_
 have bel:=hf.below;subst he;exact⟨_,rfl,_,_,_,[],_,[],hW',trodAll_mk1 (shut_bool Tryz.underlying4 _),trodAll_mk1 (shut_string Tryz.underlying9 hs0),rfl,bel.frame _,fun h=>by cases h⟩
theorem over:Rows.checkVisibleRow.holds Tryz.pinned (OpenSpec.ofChange Rows.checkVisibleSpec):=
 OpenClaim.holds_of_wide 8 Tryz.f8 rfl rfl rfl rfl rfl rfl rfl ⟨rfl,rfl,rfl,rfl,rfl⟩ rfl rfl rfl rfl rfl (by kernel_rfl) Tryz.func8 (by kernel_rfl)
  (of_decide_eq_true (by kernel_rfl)) (by unfold Func.isWrapper;first|(rw[if_pos (by decide +kernel)];kernel_rfl)|(rw[if_neg (by decide +kernel)];exact⟨rfl,rfl⟩))
  (fun os started H enc _=>lifted os started H enc)
theorem proved:Rows.CheckVisibleCardSaid:=
 Claim7.holds_tied_plain_at .later [] [.data,.data,.data,.data,.sentinel,.sentinel,.pinned] true Rows.checkVisibleCard.stood.harness true over (fun _ h=>by cases h) (by kernel_rfl) (fun _ h=>by cases h) checkVisible_row_tie rfl ⟨rfl,rfl⟩ (by kernel_rfl) rfl
  (fun f fn hf hfn=>by
    obtain rfl : f = 8 := Option.some.inj ((show Tryz.prog.funcNamed "furcate/furcatelaw04.CheckVisible" = some 8 by kernel_rfl).symm.trans hf) |>.symm
    obtain rfl:fn=Tryz.f8:=(Option.some.inj (Tryz.func8.symm.trans hfn)).symm;exact⟨by kernel_rfl,fun j t ht=>by
     rw[Tryz.params8] at ht;have hm:t∈[9]:=by simpa using Array.mem_of_getElem? ht
     have hall:([9].all fun u=> !Tryz.prog.wantsStandIn u)=true:=by kernel_rfl
     exact (show Tryz.prog.wantsStandIn t=false by simpa using List.all_eq_true.1 hall t hm)⟩)
  (by kernel_rfl)
#print axioms proved
end Go.Proofs.YtlbjicjinnnboaaGreatDoor.checkVisible
