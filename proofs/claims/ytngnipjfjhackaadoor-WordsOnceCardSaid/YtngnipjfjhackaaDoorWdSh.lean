/- Words: what is asked for, cut short. -/
import Derived.Test.YtngnipjfjhackaaDoorWdU
namespace Go.Proofs.YtngnipjfjhackaaDoor
open Go.RowKit Go.MapKept
set_option linter.unusedVariables false
set_option linter.unusedSimpArgs false
def cutN (n : Nat) (v : ByteArray) : ByteArray := if n < v.size then v.extract 0 n else v
theorem cutN_size (n : Nat) (v : ByteArray) : (cutN n v).size ≤ n := by
  unfold cutN; split
  · rw [ByteArray.size_extract]; omega
  · omega
def shortC (c : CmdM) : CmdM := { c with verb := cutN 30 c.verb, a := cutN 30 c.a, b := cutN 30 c.b, vs := cutN 60 c.vs }
theorem CmdAt.set0 {w : World} {g : Nat} {c : CmdM} (h : CmdAt w g c) (x : ByteArray) : CmdAt (w.setCell ⟨g, 0, none⟩ (.string x)) g { c with verb := x } := Blk.setCell h 0 (.string x)
theorem CmdAt.set1 {w : World} {g : Nat} {c : CmdM} (h : CmdAt w g c) (x : ByteArray) : CmdAt (w.setCell ⟨g, 1, none⟩ (.string x)) g { c with a := x } := Blk.setCell h 1 (.string x)
theorem CmdAt.set2 {w : World} {g : Nat} {c : CmdM} (h : CmdAt w g c) (x : ByteArray) : CmdAt (w.setCell ⟨g, 2, none⟩ (.string x)) g { c with b := x } := Blk.setCell h 2 (.string x)
theorem CmdAt.set6 {w : World} {g : Nat} {c : CmdM} (h : CmdAt w g c) (x : ByteArray) : CmdAt (w.setCell ⟨g, 6, none⟩ (.string x)) g { c with vs := x } := Blk.setCell h 6 (.string x)
theorem cut_pos {n : Nat} {v : ByteArray} (h : n < v.size) : cutN n v = v.extract 0 n := if_pos h
theorem cut_neg {n : Nat} {v : ByteArray} (h : ¬ n < v.size) : cutN n v = v := if_neg h
set_option maxHeartbeats 8000000 in
set_option maxRecDepth 100000 in
theorem short_any (c : CmdM) (w : World) : Calls Tryd.prog 9 #[cmdV c] w fun e w' => e = .returned (cmdV (shortC c)) ∧ Fr nob w w' := by
  obtain ⟨v, a, b, n, t, vn, s⟩ := c
  unfold shortC cmdV cmdC
  dsimp only
  by_cases h1 : 30 < v.size <;> by_cases h2 : 30 < a.size <;> by_cases h3 : 30 < b.size <;> by_cases h4 : 60 < s.size
  all_goals
    first | rw [cut_pos h1] | rw [cut_neg h1]
    first | rw [cut_pos h2] | rw [cut_neg h2]
    first | rw [cut_pos h3] | rw [cut_neg h3]
    first | rw [cut_pos h4] | rw [cut_neg h4]
    have i1 : (30 : Int) < (v.size : Int) ∨ ¬ (30 : Int) < (v.size : Int) := by omega
    have i2 : (30 : Int) < (a.size : Int) ∨ ¬ (30 : Int) < (a.size : Int) := by omega
    have i3 : (30 : Int) < (b.size : Int) ∨ ¬ (30 : Int) < (b.size : Int) := by omega
    have i4 : (60 : Int) < (s.size : Int) ∨ ¬ (60 : Int) < (s.size : Int) := by omega
    rcases i1 with i1 | i1 <;> first | omega | skip
    rcases i2 with i2 | i2 <;> first | omega | skip
    rcases i3 with i3 | i3 <;> first | omega | skip
    rcases i4 with i4 | i4 <;> first | omega | skip
    have j1 : (30 : Int) ≤ (v.size : Int) ∨ True := .inr trivial
    try (have k1 : (30 : Int) ≤ (v.size : Int) := by omega)
    try (have k2 : (30 : Int) ≤ (a.size : Int) := by omega)
    try (have k3 : (30 : Int) ≤ (b.size : Int) := by omega)
    try (have k4 : (60 : Int) ≤ (s.size : Int) := by omega)
    clear h1 h2 h3 h4 j1
    go_enter Tryd.func9, Tryd.ntmps9
    go_wp2_with fail
    refine bodyPost_ret (v := .agg _) (by simp [results, Tryd.results9, go_sem]; try rfl) rfl ⟨rfl, ((Fr.refl nob w).alloc _).alloc _⟩
end Go.Proofs.YtngnipjfjhackaaDoor
