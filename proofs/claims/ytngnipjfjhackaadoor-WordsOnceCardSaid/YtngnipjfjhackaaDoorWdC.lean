/- Words: values. -/
import Derived.Test.YtngnipjfjhackaaDoorWdB
namespace Go.Proofs.YtngnipjfjhackaaDoor
open Go.RowKit
set_option linter.unusedVariables false
set_option linter.unusedSimpArgs false
/-- A value that may be. -/
def mayV (t n : Int) (s : ByteArray) : Bool :=
  if t = 3 then decide (n = 0) && decide (s.size ≤ 40) else if t = 2 then decide (0 ≤ n) && decide (n ≤ 1) && (s.toList == []) else if t = 4 then decide (0 ≤ n) && (s.toList == []) else if t = 1 then (s.toList == []) else false
def valV (t n : Int) (s : ByteArray) : Value := .agg #[.int .i64 t, .int .i64 n, .string s]
set_option maxHeartbeats 1000000 in
set_option maxRecDepth 100000 in
theorem vmay_any (t n : Int) (s : ByteArray) (w : World) : Calls Tryd.prog 50 #[valV t n s] w fun e w' => e = .returned (.bool (mayV t n s)) ∧ Fr nob w w' := by
  unfold valV mayV
  have F := hid (show Fr nob w (w.alloc (.cells #[.int .i64 t, .int .i64 n, .string s] 26)) from (Fr.refl nob w).alloc _)
  by_cases h3 : t = 3
  · subst h3
    rw [if_pos rfl]
    by_cases hn : n = 0
    · subst hn
      by_cases hs : s.size ≤ 40
      · have c1 : (s.size : Int) ≤ 40 := by omega
        rw [decide_eq_true hs]
        go_enter Tryd.func50, Tryd.ntmps50
        go_wp2_with fail
        go_ret
        exact ⟨rfl, F.out⟩
      · have c1 : ¬ (s.size : Int) ≤ 40 := by omega
        rw [decide_eq_false hs]
        go_enter Tryd.func50, Tryd.ntmps50
        go_wp2_with fail
        go_ret
        exact ⟨rfl, F.out⟩
    · have c1 : ¬ n = 0 := hn
      have c2 : (n == 0) = false := beq_eq_false_iff_ne.2 hn
      rw [decide_eq_false hn]
      go_enter Tryd.func50, Tryd.ntmps50
      go_wp2_with fail
      go_ret
      exact ⟨rfl, F.out⟩
  · rw [if_neg h3]
    have b3 : (t == 3) = false := beq_eq_false_iff_ne.2 h3
    by_cases h2 : t = 2
    · subst h2
      rw [if_pos rfl]
      by_cases hn : 1 < n
      · have hn2 : ¬ n ≤ 1 := by omega
        rw [decide_eq_false hn2, Bool.and_false, Bool.false_and]
        go_enter Tryd.func50, Tryd.ntmps50
        go_wp2_with fail
        go_ret
        exact ⟨rfl, F.out⟩
      · have hn2 : n ≤ 1 := by omega
        rw [decide_eq_true hn2, Bool.and_true]
        by_cases h0 : n < 0
        · have h02 : ¬ 0 ≤ n := by omega
          rw [decide_eq_false h02, Bool.false_and]
          go_enter Tryd.func50, Tryd.ntmps50
          go_wp2_with fail
          go_ret
          exact ⟨rfl, F.out⟩
        · have h02 : 0 ≤ n := by omega
          rw [decide_eq_true h02, Bool.true_and]
          go_enter Tryd.func50, Tryd.ntmps50
          go_wp2_with fail
          go_ret
          exact ⟨by simp, F.out⟩
    · rw [if_neg h2]
      have b2 : (t == 2) = false := beq_eq_false_iff_ne.2 h2
      by_cases h4 : t = 4
      · subst h4
        rw [if_pos rfl]
        by_cases h0 : n < 0
        · have h02 : ¬ 0 ≤ n := by omega
          rw [decide_eq_false h02, Bool.false_and]
          go_enter Tryd.func50, Tryd.ntmps50
          go_wp2_with fail
          go_ret
          exact ⟨rfl, F.out⟩
        · have h02 : 0 ≤ n := by omega
          rw [decide_eq_true h02, Bool.true_and]
          go_enter Tryd.func50, Tryd.ntmps50
          go_wp2_with fail
          go_ret
          exact ⟨by simp, F.out⟩
      · rw [if_neg h4]
        have b4 : (t == 4) = false := beq_eq_false_iff_ne.2 h4
        by_cases h1 : t = 1
        · subst h1
          rw [if_pos rfl]
          go_enter Tryd.func50, Tryd.ntmps50
          go_wp2_with fail
          go_ret
          exact ⟨by simp, F.out⟩
        · rw [if_neg h1]
          have b1 : (t == 1) = false := beq_eq_false_iff_ne.2 h1
          go_enter Tryd.func50, Tryd.ntmps50
          go_wp2_with fail
          go_ret
          exact ⟨rfl, F.out⟩
end Go.Proofs.YtngnipjfjhackaaDoor
