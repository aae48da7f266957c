/- Words: the laws' head. -/
import Derived.Test.YtngnipjfjhackaaDoorWdT
namespace Go.Proofs.YtngnipjfjhackaaDoor
open Go.RowKit Go.MapKept
set_option linter.unusedVariables false
set_option linter.unusedSimpArgs false
set_option maxHeartbeats 1000000 in
set_option maxRecDepth 100000 in
theorem shown_any (w : World) (hv : VarsM w) : Calls Tryd.prog 7 #[] w fun e w' => e = .returned (.bool true) ∧ Fr nob w w' := by
  have HR := hid (read_line ⟨#[102, 111, 114, 107, 32, 98, 32, 97, 32, 45, 53]⟩ (by decide) w hv)
  rw [shown_read] at HR
  unfold cmdV cmdC at HR
  dsimp only at HR
  clear hv
  go_enter Tryd.func7, Tryd.ntmps7
  go_wp2_with fail
  refine HR.out.mono ?_
  rintro e w2 ⟨rfl, hf⟩
  have F2 := hid (hf.alloc (.cells #[.string ⟨#[102, 111, 114, 107]⟩, .string ⟨#[98]⟩, .string ⟨#[97]⟩, .int .i64 0, .int .i64 1, .int .i64 (-5), .string ⟨#[]⟩] 28))
  clear hf
  go_wp2_with fail
  go_ret
  exact ⟨rfl, F2.out⟩
end Go.Proofs.YtngnipjfjhackaaDoor
