/- Small facts on Make. -/
import Derived.Test.YtddogcpakefdpaaHeapU
namespace Go.Proofs.Ytddogcpakefdpaa
open Go.RowKit
set_option linter.unusedVariables false
set_option linter.unusedSimpArgs false
theorem mk_room {L : List (List Int)} {n : Int} (h0 : 0 ≤ n) (h1 : n ≤ 16) (h2 : (cellsN L : Int) + n + 1 ≤ 40) : mkA L n = L.length + 1 ∧ mkT L n = 0 ∧ (mkL L n).length = L.length + 1 ∧ (cellsN (mkL L n) : Int) = cellsN L + n + 1 := by
  have e : 0 ≤ n ∧ n ≤ 16 ∧ (cellsN L : Int) + n + 1 ≤ 40 := ⟨h0, h1, h2⟩
  have e0 : ¬ (n < 0 ∨ 16 < n) := by omega
  simp only [mkA, mkT, mkL, if_pos e, if_neg e0, if_pos h2]
  refine ⟨trivial, trivial, by simp, ?_⟩
  unfold cellsN
  rw [List.flatten_append, List.length_append, List.length_append]
  simp; omega
theorem mk_none {L : List (List Int)} {n : Int} (h0 : 0 ≤ n) (h : ¬ (n ≤ 16 ∧ (cellsN L : Int) + n + 1 ≤ 40)) : mkA L n = 0 ∧ (mkT L n == 0) = false ∧ (mkT L n != 0) = true ∧ mkL L n = L := by
  have e : ¬ (0 ≤ n ∧ n ≤ 16 ∧ (cellsN L : Int) + n + 1 ≤ 40) := by omega
  simp only [mkA, mkT, mkL, if_neg e]
  have key : mkT L n = 7 ∨ mkT L n = 4 := by
    unfold mkT
    by_cases h7 : n < 0 ∨ 16 < n
    · rw [if_pos h7]; exact .inl rfl
    · rw [if_neg h7, if_neg (by omega)]; exact .inr rfl
  unfold mkT at key
  rcases key with k | k <;> rw [k] <;> exact ⟨trivial, by decide, by decide, trivial⟩


end Go.Proofs.Ytddogcpakefdpaa
