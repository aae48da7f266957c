/- Words: values that are made. -/
import Derived.Test.YtngnipjfjhackaaDoorWdD
namespace Go.Proofs.YtngnipjfjhackaaDoor
open Go.RowKit
set_option linter.unusedVariables false
set_option linter.unusedSimpArgs false
set_option maxRecDepth 100000 in
theorem vint_any (n : Int) (w : World) : Calls Tryd.prog 56 #[.int .i64 n] w fun e w' => e = .returned (valV 1 n ⟨#[]⟩) ∧ Fr nob w w' := by
  go_enter Tryd.func56, Tryd.ntmps56
  go_wp2_with fail
  refine bodyPost_ret (v := valV 1 n ⟨#[]⟩) (by simp [results, Tryd.results56, go_sem, valV]; try rfl) rfl ⟨rfl, ?_⟩
  first | exact (Fr.refl nob w).alloc _ | exact (((Fr.refl nob w).alloc _).setCell _ _ (fun h => absurd h (by simp))) | exact ((((Fr.refl nob w).alloc _).setCell _ _ (fun h => absurd h (by simp))).setCell _ _ (fun h => absurd h (by simp))).setCell _ _ (fun h => absurd h (by simp))
set_option maxRecDepth 100000 in
theorem vtext_any (s : ByteArray) (w : World) : Calls Tryd.prog 55 #[.string s] w fun e w' => e = .returned (valV 3 0 s) ∧ Fr nob w w' := by
  go_enter Tryd.func55, Tryd.ntmps55
  go_wp2_with fail
  refine bodyPost_ret (v := valV 3 0 s) (by simp [results, Tryd.results55, go_sem, valV]; try rfl) rfl ⟨rfl, ?_⟩
  first | exact (Fr.refl nob w).alloc _ | exact (((Fr.refl nob w).alloc _).setCell _ _ (fun h => absurd h (by simp))) | exact ((((Fr.refl nob w).alloc _).setCell _ _ (fun h => absurd h (by simp))).setCell _ _ (fun h => absurd h (by simp))).setCell _ _ (fun h => absurd h (by simp))
set_option maxRecDepth 100000 in
theorem vzero_any (t : Int) (w : World) : Calls Tryd.prog 69 #[.int .i64 t] w fun e w' => e = .returned (valV t 0 ⟨#[]⟩) ∧ Fr nob w w' := by
  go_enter Tryd.func69, Tryd.ntmps69
  go_wp2_with fail
  refine bodyPost_ret (v := valV t 0 ⟨#[]⟩) (by simp [results, Tryd.results69, go_sem, valV]; try rfl) rfl ⟨rfl, ?_⟩
  first | exact (Fr.refl nob w).alloc _ | exact (((Fr.refl nob w).alloc _).setCell _ _ (fun h => absurd h (by simp))) | exact ((((Fr.refl nob w).alloc _).setCell _ _ (fun h => absurd h (by simp))).setCell _ _ (fun h => absurd h (by simp))).setCell _ _ (fun h => absurd h (by simp))
end Go.Proofs.YtngnipjfjhackaaDoor
