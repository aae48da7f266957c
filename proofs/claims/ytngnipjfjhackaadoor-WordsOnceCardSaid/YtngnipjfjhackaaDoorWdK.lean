/- Words: the small functions that words hold. -/
import Derived.Test.YtngnipjfjhackaaDoorWdJ
namespace Go.Proofs.YtngnipjfjhackaaDoor
open Go.RowKit
set_option linter.unusedVariables false
set_option linter.unusedSimpArgs false
/-- What is asked for, in memory. -/
structure CmdM where
  verb : ByteArray
  a : ByteArray
  b : ByteArray
  n : Int
  t : Int
  vn : Int
  vs : ByteArray
def cmdC (c : CmdM) : Array Value := #[.string c.verb, .string c.a, .string c.b, .int .i64 c.n, .int .i64 c.t, .int .i64 c.vn, .string c.vs]
def CmdAt (w : World) (g : Nat) (c : CmdM) : Prop := Blk w g 28 (cmdC c)
set_option maxRecDepth 100000 in
theorem ofA_any (g : Nat) (w : World) : Calls Tryd.prog 16 #[.pointer (some ⟨g, 0, none⟩)] w fun e w' => e = .returned (.pointer (some ⟨g, 1, none⟩)) ∧ w' = w := by
  go_enter Tryd.func16, Tryd.ntmps16
  go_wp2_with fail
  go_ret
  exact ⟨rfl, rfl⟩
set_option maxRecDepth 100000 in
theorem ofB_any (g : Nat) (w : World) : Calls Tryd.prog 17 #[.pointer (some ⟨g, 0, none⟩)] w fun e w' => e = .returned (.pointer (some ⟨g, 2, none⟩)) ∧ w' = w := by
  go_enter Tryd.func17, Tryd.ntmps17
  go_wp2_with fail
  go_ret
  exact ⟨rfl, rfl⟩
/-- A word that is a name. -/
def fineB (s : ByteArray) : Bool := decide (1 ≤ s.size) && decide (s.size ≤ 20) && plainB s.data.toList
set_option maxRecDepth 100000 in
theorem fine_any (s : ByteArray) (w : World) : Calls Tryd.prog 26 #[.string s] w fun e w' => e = .returned (.bool (fineB s)) ∧ Fr nob w w' := by
  have HP := hid (fun wx => plain_any s wx)
  unfold fineB
  by_cases h1 : 1 ≤ s.size
  · have c1 : (1 : Int) ≤ (s.size : Int) := by omega
    have c1' : ¬ (s.size : Int) < 1 := by omega
    rw [decide_eq_true h1, Bool.true_and]
    by_cases h2 : s.size ≤ 20
    · have c2 : (s.size : Int) ≤ 20 := by omega
      rw [decide_eq_true h2, Bool.true_and]
      go_enter Tryd.func26, Tryd.ntmps26
      go_wp2_with fail
      refine (HP.out _).mono ?_
      rintro e w2 ⟨rfl, hf⟩
      go_wp2_with fail
      go_ret
      exact ⟨by simp, hf⟩
    · have c2 : ¬ (s.size : Int) ≤ 20 := by omega
      rw [decide_eq_false h2, Bool.false_and]
      go_enter Tryd.func26, Tryd.ntmps26
      go_wp2_with fail
      go_ret
      exact ⟨rfl, Fr.refl _ _⟩
  · have c1 : ¬ (1 : Int) ≤ (s.size : Int) := by omega
    rw [decide_eq_false h1, Bool.false_and, Bool.false_and]
    go_enter Tryd.func26, Tryd.ntmps26
    go_wp2_with fail
    go_ret
    exact ⟨rfl, Fr.refl _ _⟩
end Go.Proofs.YtngnipjfjhackaaDoor
