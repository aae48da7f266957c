/- LexNumbers: digits are one number. -/
import Derived.Test.YtcodonidmopodaaDoorLexTextsW
namespace Go.Proofs.YtcodonidmopodaaDoor
open Go.RowKit
set_option linter.unusedVariables false
set_option linter.unusedSimpArgs false

theorem digitsVal_add (l : List UInt8) (a : Nat) : digitsVal a l = a * 10 ^ l.length + digitsVal 0 l := by
  induction l generalizing a with
  | nil => simp [digitsVal]
  | cons c l ih =>
    rw [digitsVal_cons, ih, digitsVal_cons, ih (0 * 10 + (c.toNat - 48)), List.length_cons, Nat.pow_succ]
    simp only [Nat.add_mul, Nat.zero_mul, Nat.zero_add, Nat.mul_assoc, Nat.mul_comm 10, Nat.add_assoc]
theorem digitsVal_noughts (j : Nat) (l : List UInt8) : digitsVal 0 (List.replicate j 48 ++ l) = digitsVal 0 l := by
  induction j with
  | zero => rfl
  | succ j ih => rw [List.replicate_succ, List.cons_append, digitsVal_cons]; exact ih
theorem allDigits.noughts {l : List UInt8} (h : allDigits l) (j : Nat) : allDigits (List.replicate j 48 ++ l) := by
  intro c hc
  rcases List.mem_append.1 hc with hc | hc
  · rw [List.eq_of_mem_replicate hc]; decide
  · exact h c hc
theorem digit_all {l : List UInt8} (h : allDigits l) : ∀ b ∈ l, digitI b.toNat = true := by
  intro b hb
  have := h b hb
  simp [digitI]; omega
/-- A digit at the beginning of a text. -/
theorem first_digit {c : UInt8} {r : List UInt8} (hd : 48 ≤ c.toNat ∧ c.toNat ≤ 57) : blankI (byteAt (c :: r) 0) = false ∧ remarkB (c :: r) = false ∧ firstM (c :: r) = numberM (c :: r) := by
  refine ⟨by rw [byteAt_zero]; exact blank_not (by omega), remark_not (by omega), ?_⟩
  unfold firstM
  rw [if_pos (by rw [byteAt_zero]; simp [digitI]; omega)]
theorem lex_semi (p : Nat) : lexFrom [59] p = .good [⟨5, [59], p⟩, ⟨0, [], p + 1⟩] := by
  rw [lex_ok (l := [59]) (k := 5) (o := 0) (m := 1) (n := 1) (by simp) (by kernel_rfl) (by kernel_rfl) (by kernel_rfl)]
  rw [show ([59] : List UInt8).drop 1 = [] from rfl, lex_nil]
  rfl
theorem lex_digits {d : List UInt8} (h : allDigits d) (h0 : 0 < d.length) (h6 : d.length ≤ 500) (hv : digitsVal 0 d ≤ 9223372036854775807) :
    lexM (d ++ [59]) = if 19 < d.length then .bad 0 12 else .good [⟨1, d, 0⟩, ⟨5, [59], d.length⟩, ⟨0, [], d.length + 1⟩] := by
  obtain ⟨g1, g2, g3⟩ : blankI (byteAt (d ++ [59]) 0) = false ∧ remarkB (d ++ [59]) = false ∧ firstM (d ++ [59]) = numberM (d ++ [59]) := by
    cases d with
    | nil => simp at h0
    | cons c r => exact first_digit (h c (by simp))
  have hr : runN digitI (d ++ [59]) = d.length := by
    rw [runN_append digitI d _ (digit_all h), runN_zero digitI 59 _ (by decide)]; rfl
  have hn : numberM (d ++ [59]) = if 19 < d.length then .err 12 else .ok 1 0 d.length d.length := by
    unfold numberM numOk
    rw [hr, List.take_left, decide_eq_true hv, Bool.and_true]
    by_cases h19 : 19 < d.length
    · rw [if_pos h19, decide_eq_false (by omega)]; rfl
    · rw [if_neg h19, decide_eq_true (by omega)]; rfl
  rw [hn] at g3
  unfold lexM
  rw [if_neg (by simp; omega)]
  by_cases h19 : 19 < d.length
  · rw [if_pos h19] at g3 ⊢
    rw [lex_err (by simp) g1 g2 g3]
  · rw [if_neg h19] at g3 ⊢
    rw [lex_ok (by simp) g1 g2 g3, List.drop_left, lex_semi]
    simp [LexR.pre]
theorem lex_over : lexM [57, 50, 50, 51, 51, 55, 50, 48, 51, 54, 56, 53, 52, 55, 55, 53, 56, 48, 56] = .bad 0 12 := by
  unfold lexM
  rw [if_neg (by decide), ← lexFuel_eq 20 _ _ (by decide)]
  kernel_rfl
theorem lex_most : lexM [57, 50, 50, 51, 51, 55, 50, 48, 51, 54, 56, 53, 52, 55, 55, 53, 56, 48, 55] = .good [⟨1, [57, 50, 50, 51, 51, 55, 50, 48, 51, 54, 56, 53, 52, 55, 55, 53, 56, 48, 55], 0⟩, ⟨0, [], 19⟩] := by
  unfold lexM
  rw [if_neg (by decide), ← lexFuel_eq 20 _ _ (by decide)]
  kernel_rfl
/-- The digits so far. -/
structure DigL (n q k : Nat) (l : List UInt8) : Prop where
  all : allDigits l
  len : l.length = k
  sum : q * 10 ^ k + digitsVal 0 l = n
theorem DigL.next {n q k : Nat} {l : List UInt8} (h : DigL n q k l) (c : UInt8) (hc : c.toNat = 48 + q % 10) : DigL n (q / 10) (k + 1) (c :: l) := by
  have hs := h.sum
  refine ⟨fun b hb => ?_, by rw [List.length_cons, h.len], ?_⟩
  · rcases List.mem_cons.1 hb with rfl | hb
    · omega
    · exact h.all b hb
  · rw [digitsVal_cons, digitsVal_add l, h.len, show 0 * 10 + (c.toNat - 48) = q % 10 by omega, Nat.pow_succ, Nat.mul_comm (10 ^ k) 10, ← Nat.mul_assoc, ← Nat.add_assoc, ← Nat.add_mul,
      show q / 10 * 10 + q % 10 = q by omega]
    exact hs
theorem DigL.short {n q k : Nat} {l : List UInt8} (h : DigL n q k l) (hn : n ≤ 9223372036854775807) (hq : 0 < q) : k ≤ 18 := by
  have hs := h.sum
  by_cases hk : k ≤ 18
  · exact hk
  · have h1 : 10 ^ 19 ≤ 10 ^ k := Nat.pow_le_pow_right (by decide) (by omega)
    have h2 : 1 * 10 ^ k ≤ q * 10 ^ k := Nat.mul_le_mul_right _ hq
    omega
theorem DigL.done {n k : Nat} {l : List UInt8} (h : DigL n 0 k l) : digitsVal 0 l = n := by have := h.sum; omega
end Go.Proofs.YtcodonidmopodaaDoor
