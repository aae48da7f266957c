/-
  WordsOnce: for every input the call returns true, and the arguments read as they read before.
  Condition: the listed library variables hold what the program's text lays (the card ties them).
-/
import Derived.Test.YtngnipjfjhackaaDoorWdOL
import Derived.Test.YtngnipjfjhackaaDoorWdLaid
import Derived.Test.YtngnipjfjhackaaDoorTie
import Derived.Test.YtngnipjfjhackaaDoorCards
import Derived.ChangeOld
import Derived.ChangeMaps5
import Derived.SevenTiedAt
namespace Go.Proofs.YtngnipjfjhackaaDoor.wordsOnce
open Go.ChangeShapes Go.WideShapes Go.ChangeAt Go.RowKit
open Go.ChangeMaps (open_string shut_string)
set_option linter.unusedVariables false

set_option maxRecDepth 100000 in
theorem lifted (os : Os) (started : os.Started) (H : Type) (enc : TypeId × Value → H) :
    ReturnsInHanded {} Tryd.checked os 5 .any (fun w args => (Rows.wordsOnceSpec.pre enc Tryd.prog Tryd.f5 Rows.wordsOnceRow.domain false w args ∧ laidMetH Tryd.prog Rows.wordsOnceRow.laid w) ∧ sizedMet enc Tryd.prog Tryd.f5 (OpenSpec.ofChange Rows.wordsOnceSpec) false w args)
      (Rows.wordsOnceSpec.post enc Tryd.prog Tryd.f5 false true false false) := by
  refine wrap_laid_shaped (C := Tryd.checked) (X := fun w _ => laidMetH Tryd.prog Rows.wordsOnceRow.laid w) (fun _ _ _ hh h => h.of_heap hh) ownK started (by kernel_rfl) Tryd.func5
    (ChangeSpec.witness_shaped (enc := enc) (C := Tryd.checked) (os := os) (X := fun w _ => laidMetH Tryd.prog Rows.wordsOnceRow.laid w) false (World.laidAll Tryd.prog os Rows.wordsOnceRow.laid) #[.agg #[.string ⟨#[]⟩, .string ⟨#[]⟩, .string ⟨#[]⟩, .int .i64 0, .int .i64 0, .int .i64 0, .string ⟨#[]⟩], .agg #[.string ⟨#[]⟩, .string ⟨#[]⟩, .string ⟨#[]⟩, .int .i64 0, .int .i64 0, .int .i64 0, .string ⟨#[]⟩]] 8 (World.laidAll_os _ _ _)
      (World.shaped_of_ZipB (by kernel_rfl) (by kernel_rfl)) (by kernel_rfl) (by kernel_rfl) (by kernel_rfl)
      (by rw [MakeChecks.laidMetH_plain _ _ _ (by kernel_rfl)]; exact laidMet_laidAll _ (by kernel_rfl) (by kernel_rfl))) ?_
  intro W base args ds gs before hval0 hW hsz hL hsh
  have hval : ∀ (j : Nat) t v, Tryd.f5.params[j]? = some t → args[j]? = some v → Value.okWide Tryd.prog W .any base t v := hval0
  have hW' := hW
  obtain ⟨p, q, hA0, hV, rfl, hfz, hnd⟩ := hW
  have hA : DataW.TrodAll enc Tryd.prog W 0 (fun _ => true) true Tryd.f5.params.toList args.toList ds p := hA0
  rw [Tryd.params5] at hA hval
  obtain ⟨v0, v1, d0, d1, p0, p1, rfl, rfl, rfl, h0, h1⟩ := trodAll_two hA
  obtain ⟨rfl, rfl⟩ := trodVars_none hV
  obtain ⟨s0, rfl, rfl, rfl, i0, l0⟩ := open_cmd (hval 0 28 v0 rfl rfl) h0
  obtain ⟨s1, rfl, rfl, rfl, i1, l1⟩ := open_cmd (hval 1 28 v1 rfl rfl) h1
  clear hA0 hval0
  have V := vars_shaped (by exact hL) hsh
  refine (once_walk s0 s1 i0 i1 W V).mono fun e W' ⟨he, hf⟩ => ?_
  have bel := hf.below
  subst he
  exact ⟨_, rfl, _, _, _, [], _, [], hW', trodAll_mk1 (shut_bool Tryd.underlying4 _), trodAll_mk2 (shut_cmd i0 l0) (shut_cmd i1 l1), rfl, bel.frame _, fun h => by cases h⟩

theorem over : Rows.wordsOnceRow.holds Tryd.pinned (OpenSpec.ofChange Rows.wordsOnceSpec) :=
  OpenClaim.holds_of_wide 5 Tryd.f5 rfl rfl rfl rfl rfl rfl rfl ⟨rfl, rfl, rfl, rfl, rfl⟩ rfl rfl rfl rfl rfl (by kernel_rfl) Tryd.func5 (by kernel_rfl)
    (of_decide_eq_true (by kernel_rfl)) (by unfold Func.isWrapper; first | (rw [if_pos (by decide +kernel)]; kernel_rfl) | (rw [if_neg (by decide +kernel)]; exact ⟨rfl, rfl⟩))
    (fun os started H enc _ => lifted os started H enc)

theorem proved : Rows.WordsOnceCardSaid :=
  Claim7.holds_tied_plain_at .later [] [.data, .data, .data, .data, .sentinel, .sentinel, .pinned] true Rows.wordsOnceCard.stood.harness true over (fun _ h => by cases h) (by kernel_rfl) (fun _ h => by cases h) wordsOnce_row_tie rfl ⟨rfl, rfl⟩ (by kernel_rfl) rfl
    (fun f fn hf hfn => by
      obtain rfl : f = 5 := Option.some.inj ((show Tryd.prog.funcNamed "furcate/furcatelaw22.WordsOnce" = some 5 by kernel_rfl).symm.trans hf) |>.symm
      obtain rfl : fn = Tryd.f5 := (Option.some.inj (Tryd.func5.symm.trans hfn)).symm
      exact ⟨by kernel_rfl, fun j t ht => by
        rw [Tryd.params5] at ht
        have hm : t ∈ [28, 28] := by simpa using Array.mem_of_getElem? ht
        have hall : ([28, 28].all fun u => !Tryd.prog.wantsStandIn u) = true := by kernel_rfl
        exact (show Tryd.prog.wantsStandIn t = false by simpa using List.all_eq_true.1 hall t hm)⟩)
    (by kernel_rfl)
#print axioms proved
end Go.Proofs.YtngnipjfjhackaaDoor.wordsOnce
