/-
  CompileBehind: for every input the call returns true, and the arguments read as they read before.
  Condition: the five listed library variables hold what the program's text lays (the card ties them).
-/
import Derived.Test.YtlbjicjinnnboaaDoorMBw
import Derived.Test.YtlbjicjinnnboaaDoorMK5
import Derived.Test.YtlbjicjinnnboaaDoorCLaid
import Derived.Test.YtlbjicjinnnboaaDoorTie
import Derived.Test.YtlbjicjinnnboaaDoorCards
import Derived.ChangeOld
import Derived.ChangeMaps5
import Derived.SevenTiedAt
set_option linter.unusedVariables false
namespace Go.Proofs.YtlbjicjinnnboaaDoor.compileBehind
open Go.ChangeShapes Go.WideShapes Go.ChangeAt Go.RowKit
open Go.ChangeMaps (open_string shut_string)
set_option maxRecDepth 100000 in
theorem lifted (os : Os) (started : os.Started) (H : Type) (enc : TypeId × Value → H) :
  ReturnsInHanded {} Tryd.checked os 3 .any (fun w args => (Rows.compileBehindSpec.pre enc Tryd.prog Tryd.f3 Rows.compileBehindRow.domain false w args ∧ laidMetH Tryd.prog Rows.compileBehindRow.laid w) ∧ sizedMet enc Tryd.prog Tryd.f3 (OpenSpec.ofChange Rows.compileBehindSpec) false w args)
    (Rows.compileBehindSpec.post enc Tryd.prog Tryd.f3 false true false false) := by
 refine wrap_laid_shaped (C := Tryd.checked) (X := fun w _ => laidMetH Tryd.prog Rows.compileBehindRow.laid w) (fun _ _ _ hh h => h.of_heap hh) ownK started (by kernel_rfl) Tryd.func3
  (ChangeSpec.witness_shaped (enc := enc) (C := Tryd.checked) (os := os) (X := fun w _ => laidMetH Tryd.prog Rows.compileBehindRow.laid w) false (World.laidAll Tryd.prog os Rows.compileBehindRow.laid) #[.string ⟨#[]⟩] 8 (World.laidAll_os _ _ _)
    (World.shaped_of_ZipB (by kernel_rfl) (by kernel_rfl)) (by kernel_rfl) (by kernel_rfl) (by kernel_rfl)
    (by rw [MakeChecks.laidMetH_plain _ _ _ (by kernel_rfl)]; exact laidMet_laidAll _ (by kernel_rfl) (by kernel_rfl))) ?_
 intro W base args ds gs before hval0 hW hsz hL hsh
 have hval : ∀ (j : Nat) t v, Tryd.f3.params[j]? = some t → args[j]? = some v → Value.okWide Tryd.prog W .any base t v := hval0
 have hW' := hW
 obtain ⟨p, q, hA0, hV, rfl, hfz, hnd⟩ := hW
 have hA : DataW.TrodAll enc Tryd.prog W 0 (fun _ => true) true Tryd.f3.params.toList args.toList ds p := hA0
 rw [Tryd.params3] at hA hval
 obtain ⟨v0, d0, rfl, rfl, h0⟩ := trodAll_one hA
 obtain ⟨rfl, rfl⟩ := trodVars_none hV
 obtain ⟨s0, rfl, rfl, rfl, hs0⟩ := open_string Tryd.underlying9 (hval 0 9 v0 rfl rfl) h0
 have hb0 : s0.data.toList.length ≤ reachBytes := sized_string hsz (j := 0) (t := 9) rfl rfl
 have b0 : s0.size ≤ 281474976710656 := by
  have : s0.data.toList.length = s0.size := by simp
  have : reachBytes ≤ 281474976710656 := by decide
  omega
 clear hA0 hval0
 refine (compileBehind_walk (fun src w hs r hr => source_any src w hs hr) s0 _).mono fun e W' ⟨he, hf⟩ => ?_
 have bel := hf.below
 subst he
 exact ⟨_, rfl, _, _, _, [], _, [], hW', trodAll_mk1 (shut_bool Tryd.underlying4 _), trodAll_mk1 (shut_string Tryd.underlying9 hs0), rfl, bel.frame _, fun h => by cases h⟩
theorem over : Rows.compileBehindRow.holds Tryd.pinned (OpenSpec.ofChange Rows.compileBehindSpec) :=
 OpenClaim.holds_of_wide 3 Tryd.f3 rfl rfl rfl rfl rfl rfl rfl ⟨rfl, rfl, rfl, rfl, rfl⟩ rfl rfl rfl rfl rfl (by kernel_rfl) Tryd.func3 (by kernel_rfl)
  (of_decide_eq_true (by kernel_rfl)) (by unfold Func.isWrapper; first | (rw [if_pos (by decide +kernel)]; kernel_rfl) | (rw [if_neg (by decide +kernel)]; exact ⟨rfl, rfl⟩))
  (fun os started H enc _ => lifted os started H enc)
theorem proved : Rows.CompileBehindCardSaid :=
 Claim7.holds_tied_plain_at .later [] [.data, .data, .data, .sentinel, .sentinel] true Rows.compileBehindCard.stood.harness true over (fun _ h => by cases h) (by kernel_rfl) (fun _ h => by cases h) compileBehind_row_tie rfl ⟨rfl, rfl⟩ (by kernel_rfl) rfl
  (fun f fn hf hfn => by
    obtain rfl : f = 3 := Option.some.inj ((show Tryd.prog.funcNamed "furcate/furcatelaw09.CompileBehind" = some 3 by kernel_rfl).symm.trans hf) |>.symm
    obtain rfl : fn = Tryd.f3 := (Option.some.inj (Tryd.func3.symm.trans hfn)).symm
    exact ⟨by kernel_rfl, fun j t ht => by
     rw [Tryd.params3] at ht
     have hm : t ∈ [9] := by simpa using Array.mem_of_getElem? ht
     have hall : ([9].all fun u => !Tryd.prog.wantsStandIn u) = true := by kernel_rfl
     exact (show Tryd.prog.wantsStandIn t = false by simpa using List.all_eq_true.1 hall t hm)⟩)
  (by kernel_rfl)
#print axioms proved
end Go.Proofs.YtlbjicjinnnboaaDoor.compileBehind
