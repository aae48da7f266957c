/- The lexer's numbers. -/
import Derived.Test.YtcodonidmopodaaDoorLexA
namespace Go.Proofs.YtcodonidmopodaaDoor
open Go.RowKit
set_option linter.unusedVariables false
set_option linter.unusedSimpArgs false

/-- What a text begins with: a token, where its text lies, and how many bytes it has; or why there is none. -/
inductive One where
  | ok (kind off len n : Nat)
  | err (e : Nat)
def tokV (k : Nat) (t : ByteArray) (p : Nat) : Value := .agg #[.int .i64 k, .string t, .int .i64 p]
def oneV (s : ByteArray) : One → Value
  | .ok k o m n => .tuple #[tokV k (s.extract o (m + o)) 0, .int .i64 n, .int .i64 0]
  | .err e => .tuple #[tokV 0 ByteArray.empty 0, .int .i64 0, .int .i64 e]

def digitsVal (a : Nat) (l : List UInt8) : Nat := l.foldl (fun a c => a * 10 + (c.toNat - 48)) a
def allDigits (l : List UInt8) : Prop := ∀ c ∈ l, 48 ≤ c.toNat ∧ c.toNat ≤ 57
def numOk (d : List UInt8) : Bool := decide (d.length ≤ 19) && decide (digitsVal 0 d ≤ 9223372036854775807)
def numberM (l : List UInt8) : One := if numOk (l.take (runN digitI l)) then .ok 1 0 (runN digitI l) (runN digitI l) else .err 12

theorem digitsVal_ge (a : Nat) (l : List UInt8) : a ≤ digitsVal a l := by
  induction l generalizing a with
  | nil => exact Nat.le_refl _
  | cons c l ih =>
    show a ≤ digitsVal (a * 10 + (c.toNat - 48)) l
    have := ih (a * 10 + (c.toNat - 48)); omega
theorem digitsVal_cons (a : Nat) (c : UInt8) (l : List UInt8) : digitsVal a (c :: l) = digitsVal (a * 10 + (c.toNat - 48)) l := by unfold digitsVal; rw [List.foldl_cons]
theorem parse_digits (M : Nat) (hM : M < 18446744073709551616) (l : List UInt8) (h : allDigits l) (a : Nat) (ha : a ≤ M) :
    Lib.parseUintM M a l = if M < digitsVal a l then .range else .ok (digitsVal a l) := by
  induction l generalizing a with
  | nil =>
    have : ¬ M < digitsVal a [] := by show ¬ M < a; omega
    rw [Lib.parseUintM, if_neg this]; rfl
  | cons c l ih =>
    have hc := h c (by simp)
    have hg := digitsVal_ge (a * 10 + (c.toNat - 48)) l
    rw [Lib.parseUintM, if_pos hc, digitsVal_cons]
    by_cases h1 : 1844674407370955162 ≤ a
    · rw [if_pos h1, if_pos (by omega)]
    · rw [if_neg h1]
      by_cases h2 : M < a * 10 + (c.toNat - 48)
      · rw [if_pos h2, if_pos (by omega)]
      · rw [if_neg h2]
        exact ih (fun x hx => h x (by simp [hx])) _ (by omega)
theorem parseInt_digits (l : List UInt8) (h : allDigits l) (hne : l ≠ []) :
    Lib.parseIntB 64 l = if digitsVal 0 l ≤ 9223372036854775807 then .ok (digitsVal 0 l : Int) else .range := by
  cases l with
  | nil => exact absurd rfl hne
  | cons c r =>
    have hc := h c (by simp)
    have e : Lib.parseUintB 64 (c :: r) = if 18446744073709551615 < digitsVal 0 (c :: r) then .range else .ok (digitsVal 0 (c :: r)) := by
      unfold Lib.parseUintB
      rw [if_neg (by simp)]
      generalize hM : 2 ^ 64 - 1 = M
      have hM2 : M = 18446744073709551615 := by omega
      rw [parse_digits M (by omega) (c :: r) h 0 (by omega), hM2]
    unfold Lib.parseIntB
    simp only
    rw [if_neg (by omega), e]
    by_cases h1 : 18446744073709551615 < digitsVal 0 (c :: r)
    · rw [if_pos h1, if_neg (by omega)]
    · rw [if_neg h1]
      simp only
      by_cases h2 : digitsVal 0 (c :: r) ≤ 9223372036854775807
      · rw [if_pos h2, if_neg (by omega), if_neg (by omega), if_neg (by omega)]
      · rw [if_neg h2, if_pos (by omega)]
theorem take_run (p : Int → Bool) (l : List UInt8) : l.take (runN p l) = l.takeWhile fun b => p b.toNat := by
  unfold runN
  induction l with
  | nil => rfl
  | cons a l ih => rw [List.takeWhile_cons]; split <;> simp_all
theorem run_digits (l : List UInt8) : allDigits (l.take (runN digitI l)) := by
  rw [take_run]
  intro c hc
  induction l with
  | nil => simp at hc
  | cons a l ih =>
    rw [List.takeWhile_cons] at hc
    split at hc
    · rename_i hd
      rcases List.mem_cons.1 hc with rfl | hc
      · simp [digitI] at hd; omega
      · exact ih hc
    · simp at hc

/-- What the lexer needs of the world. -/
structure Vars (w : World) : Prop where
  most : ∃ m, w.cell? ⟨0, 0, none⟩ = some (.int .i64 m)
  rng : ∃ tp p, w.var? Tryd.prog "strconv.ErrRange" = some #[.iface tp p]
end Go.Proofs.YtcodonidmopodaaDoor
