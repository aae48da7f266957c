/-
  ParseSides: for every input the call returns true, and the arguments read as they read before.
  Condition: the seven listed library variables hold what the program's text lays (the card ties them).
-/
import Derived.Test.YtjhhlmonomeofaaGreatDoorParseSidesX
import Derived.Test.YtjhhlmonomeofaaGreatDoorQLaid
import Derived.Test.YtjhhlmonomeofaaGreatDoorTie
import Derived.Test.YtjhhlmonomeofaaGreatDoorCards
import Derived.ChangeOld
import Derived.ChangeMaps5
import Derived.SevenTiedAt
namespace Go.Proofs.YtjhhlmonomeofaaGreatDoor.parseSides
open Go.ChangeShapes Go.WideShapes Go.ChangeAt Go.RowKit
open Go.ChangeMaps (open_string shut_string)
set_option linter.unusedVariables false

set_option maxRecDepth 100000 in
theorem lifted (os : Os) (started : os.Started) (H : Type) (enc : TypeId × Value → H) :
    ReturnsInHanded {} Tryz.checked os 9 .any (fun w args => (Rows.parseSidesSpec.pre enc Tryz.prog Tryz.f9 Rows.parseSidesRow.domain false w args ∧ laidMetH Tryz.prog Rows.parseSidesRow.laid w) ∧ sizedMet enc Tryz.prog Tryz.f9 (OpenSpec.ofChange Rows.parseSidesSpec) false w args)
      (Rows.parseSidesSpec.post enc Tryz.prog Tryz.f9 false true false false) := by
  refine wrap_laid_shaped (C := Tryz.checked) (X := fun w _ => laidMetH Tryz.prog Rows.parseSidesRow.laid w) (fun _ _ _ hh h => h.of_heap hh) ownK started (by kernel_rfl) Tryz.func9
    (ChangeSpec.witness_shaped (enc := enc) (C := Tryz.checked) (os := os) (X := fun w _ => laidMetH Tryz.prog Rows.parseSidesRow.laid w) false (World.laidAll Tryz.prog os Rows.parseSidesRow.laid) #[.int .u8 0, .int .u8 0] 8 (World.laidAll_os _ _ _)
      (World.shaped_of_ZipB (by kernel_rfl) (by kernel_rfl)) (by kernel_rfl) (by kernel_rfl) (by kernel_rfl)
      (by rw [MakeChecks.laidMetH_plain _ _ _ (by kernel_rfl)]; exact laidMet_laidAll _ (by kernel_rfl) (by kernel_rfl))) ?_
  intro W base args ds gs before hval0 hW hsz hL hsh
  have hval : ∀ (j : Nat) t v, Tryz.f9.params[j]? = some t → args[j]? = some v → Value.okWide Tryz.prog W .any base t v := hval0
  have hW' := hW
  obtain ⟨p, q, hA0, hV, rfl, hfz, hnd⟩ := hW
  have hA : DataW.TrodAll enc Tryz.prog W 0 (fun _ => true) true Tryz.f9.params.toList args.toList ds p := hA0
  rw [Tryz.params9] at hA hval
  obtain ⟨v0, v1, d0, d1, p0, p1, rfl, rfl, rfl, h0, h1⟩ := trodAll_two hA
  obtain ⟨rfl, rfl⟩ := trodVars_none hV
  obtain ⟨n0, rfl, rfl, rfl, w0⟩ := open_int Tryz.underlying5 (hval 0 5 v0 rfl rfl) h0
  have k0 := bounds_u8 w0
  obtain ⟨n1, rfl, rfl, rfl, w1⟩ := open_int Tryz.underlying5 (hval 1 5 v1 rfl rfl) h1
  have k1 := bounds_u8 w1
  clear hA0 hval0
  have V := vars_shaped (by exact hL) hsh
  refine (parsesides_walk n0 n1 k0 k1 _ V).mono fun e W' ⟨he, hf⟩ => ?_
  have bel := hf.below
  subst he
  exact ⟨_, rfl, _, _, _, [], _, [], hW', trodAll_mk1 (shut_bool Tryz.underlying4 _), trodAll_mk2 (shut_int Tryz.underlying5 w0) (shut_int Tryz.underlying5 w1), rfl, bel.frame _, fun h => by cases h⟩

theorem over : Rows.parseSidesRow.holds Tryz.pinned (OpenSpec.ofChange Rows.parseSidesSpec) :=
  OpenClaim.holds_of_wide 9 Tryz.f9 rfl rfl rfl rfl rfl rfl rfl ⟨rfl, rfl, rfl, rfl, rfl⟩ rfl rfl rfl rfl rfl (by kernel_rfl) Tryz.func9 (by kernel_rfl)
    (of_decide_eq_true (by kernel_rfl)) (by unfold Func.isWrapper; first | (rw [if_pos (by decide +kernel)]; kernel_rfl) | (rw [if_neg (by decide +kernel)]; exact ⟨rfl, rfl⟩))
    (fun os started H enc _ => lifted os started H enc)

theorem proved : Rows.ParseSidesCardSaid :=
  Claim7.holds_tied_plain_at .later [] [.data, .data, .data, .data, .sentinel, .sentinel, .pinned] true Rows.parseSidesCard.stood.harness true over (fun _ h => by cases h) (by kernel_rfl) (fun _ h => by cases h) parseSides_row_tie rfl ⟨rfl, rfl⟩ (by kernel_rfl) rfl
    (fun f fn hf hfn => by
      obtain rfl : f = 9 := Option.some.inj ((show Tryz.prog.funcNamed "furcate/furcatelaw02.ParseSides" = some 9 by kernel_rfl).symm.trans hf) |>.symm
      obtain rfl : fn = Tryz.f9 := (Option.some.inj (Tryz.func9.symm.trans hfn)).symm
      exact ⟨by kernel_rfl, fun j t ht => by
        rw [Tryz.params9] at ht
        have hm : t ∈ [5, 5] := by simpa using Array.mem_of_getElem? ht
        have hall : ([5, 5].all fun u => !Tryz.prog.wantsStandIn u) = true := by kernel_rfl
        exact (show Tryz.prog.wantsStandIn t = false by simpa using List.all_eq_true.1 hall t hm)⟩)
    (by kernel_rfl)
#print axioms proved
end Go.Proofs.YtjhhlmonomeofaaGreatDoor.parseSides
