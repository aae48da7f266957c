/- LexBlanks: what stands ahead moves the tokens, and nothing else. -/
import Derived.Test.YtcodonidmopodaaDoorLexTextsW
namespace Go.Proofs.YtcodonidmopodaaDoor
open Go.RowKit
set_option linter.unusedVariables false
set_option linter.unusedSimpArgs false

/-- One step of the lexer. -/
theorem lex_step {Mo : List UInt8 → Nat → Prop} (l : List UInt8) (p : Nat)
    (hnil : l = [] → Mo [] p)
    (hblank : 0 < l.length → blankI (byteAt l 0) = true → Mo l p)
    (hremark : 0 < l.length → blankI (byteAt l 0) = false → remarkB l = true → 1 ≤ runN lineI l → Mo l p)
    (herr : ∀ e, 0 < l.length → blankI (byteAt l 0) = false → remarkB l = false → firstM l = .err e → Mo l p)
    (hok : ∀ k o m n, 0 < l.length → blankI (byteAt l 0) = false → remarkB l = false → firstM l = .ok k o m n → Mo l p) : Mo l p := by
  cases l with
  | nil => exact hnil rfl
  | cons c r =>
    by_cases hb : blankI (byteAt (c :: r) 0) = true
    · exact hblank (by simp) hb
    · have hb' : blankI (byteAt (c :: r) 0) = false := by simpa using hb
      by_cases hr : remarkB (c :: r) = true
      · refine hremark (by simp) hb' hr ?_
        refine runN_pos lineI _ (by simp) ?_
        unfold remarkB Lib.hasPrefix at hr
        simp at hr
        simp [lineI, byteAt, ← hr.1]
      · have hr' : remarkB (c :: r) = false := by simpa using hr
        cases hf : firstM (c :: r) with
        | err e => exact herr e (by simp) hb' hr' hf
        | ok k o m n => exact hok k o m n (by simp) hb' hr' hf
def Tok.up (d : Nat) (t : Tok) : Tok := ⟨t.kind, t.text, t.place + d⟩
def LexR.up (d : Nat) : LexR → LexR
  | .good ts => .good (ts.map (Tok.up d))
  | .bad p e => .bad (p + d) e
theorem up_pre (d : Nat) (K : List Tok) (r : LexR) : (r.pre K).up d = (r.up d).pre (K.map (Tok.up d)) := by
  cases r <;> simp [LexR.pre, LexR.up]
theorem lex_up (d : Nat) : ∀ (n : Nat) (l : List UInt8) (p : Nat), l.length ≤ n → lexFrom l (p + d) = (lexFrom l p).up d := by
  intro n
  induction n with
  | zero =>
    intro l p h
    have : l = [] := List.eq_nil_of_length_eq_zero (by omega)
    subst this
    rw [lex_nil, lex_nil]; rfl
  | succ n ih =>
    intro l p h
    refine lex_step (Mo := fun l p => l.length ≤ n + 1 → lexFrom l (p + d) = (lexFrom l p).up d) l p ?_ ?_ ?_ ?_ ?_ h
    · intro _ _; rw [lex_nil, lex_nil]; rfl
    · intro h0 hb h
      rw [lex_blank h0 hb, lex_blank h0 hb, ← ih _ _ (by rw [List.length_drop]; omega)]
      congr 1; omega
    · intro h0 hb hr h1 h
      rw [lex_remark h0 hb hr, lex_remark h0 hb hr, ← ih _ _ (by rw [List.length_drop]; omega)]
      congr 1; omega
    · intro e h0 hb hr hf h
      rw [lex_err h0 hb hr hf, lex_err h0 hb hr hf]; rfl
    · intro k o m n' h0 hb hr hf h
      have h1 := (firstM_ok h0 hf).1
      rw [lex_ok h0 hb hr hf, lex_ok h0 hb hr hf, up_pre, ← ih _ _ (by rw [List.length_drop]; omega), show p + d + n' = p + n' + d by omega]
      rfl
/-- The four blanks. -/
def blankL : Nat → List UInt8
  | 0 => [32]
  | 1 => [9]
  | 2 => [10]
  | _ => [47, 47, 32, 120, 32, 34, 10]
theorem blankL_len (b : Nat) : (blankL b).length ≤ 7 := by
  unfold blankL; split <;> decide
theorem lex_gap (b : Nat) (r : List UInt8) (p : Nat) : lexFrom (blankL b ++ r) p = lexFrom r (p + (blankL b).length) := by
  unfold blankL
  split
  · rw [lex_blank (by simp) (by rw [List.cons_append, byteAt_zero]; decide)]; rfl
  · rw [lex_blank (by simp) (by rw [List.cons_append, byteAt_zero]; decide)]; rfl
  · rw [lex_blank (by simp) (by rw [List.cons_append, byteAt_zero]; decide)]; rfl
  · have hr : runN lineI ([47, 47, 32, 120, 32, 34, 10] ++ r) = 6 := by
      have := runN_append lineI [47, 47, 32, 120, 32, 34] (10 :: r) (by decide)
      rw [runN_zero lineI 10 _ (by decide)] at this
      exact this
    rw [lex_remark (by simp) (by rw [List.cons_append, byteAt_zero]; decide) rfl, hr]
    have e : List.drop 6 ([47, 47, 32, 120, 32, 34, 10] ++ r) = (10 : UInt8) :: r := rfl
    rw [e, lex_blank (by simp) (by rw [byteAt_zero]; decide)]
    rfl
def gapL (b n : Nat) : List UInt8 := 32 :: (List.replicate n (blankL b)).flatten
theorem gapL_len (b n : Nat) : (gapL b n).length = 1 + n * (blankL b).length := by
  unfold gapL
  rw [List.length_cons, List.length_flatten, List.map_replicate, List.sum_replicate_nat]; omega
theorem gapL_succ (b n : Nat) : gapL b n ++ blankL b = gapL b (n + 1) := by
  unfold gapL
  rw [List.replicate_succ', List.flatten_append]
  simp
theorem lex_gaps (b n : Nat) (r : List UInt8) (p : Nat) : lexFrom ((List.replicate n (blankL b)).flatten ++ r) p = lexFrom r (p + n * (blankL b).length) := by
  induction n generalizing p with
  | zero => simp
  | succ n ih =>
    rw [List.replicate_succ, List.flatten_cons, List.append_assoc, lex_gap, ih, Nat.add_mul]
    congr 1; omega
theorem lex_blanks (b n : Nat) (r : List UInt8) (h : (gapL b n).length + r.length ≤ 600) : lexM (gapL b n ++ r) = (lexM r).up (gapL b n).length := by
  unfold lexM
  rw [if_neg (by rw [List.length_append]; omega), if_neg (by omega), ← lex_up _ _ _ _ (Nat.le_refl _), gapL_len]
  unfold gapL
  rw [List.cons_append, lex_blank (by simp) (by rw [byteAt_zero]; decide)]
  rw [show ∀ x : List UInt8, (32 :: x).drop 1 = x from fun _ => rfl, lex_gaps]
  congr 1; omega
theorem lex_big {l : List UInt8} (h : 600 < l.length) : lexM l = .bad 0 4 := by unfold lexM; rw [if_pos h]
/-- What is refused has a reason. -/
theorem lex_bad_pos : ∀ (n : Nat) (l : List UInt8) (p : Nat), l.length ≤ n → ∀ i e, lexFrom l p = .bad i e → 1 ≤ e := by
  intro n
  induction n with
  | zero =>
    intro l p h i e hb
    have : l = [] := List.eq_nil_of_length_eq_zero (by omega)
    subst this
    rw [lex_nil] at hb; cases hb
  | succ n ih =>
    intro l p h i e
    refine lex_step (Mo := fun l p => l.length ≤ n + 1 → lexFrom l p = .bad i e → 1 ≤ e) l p ?_ ?_ ?_ ?_ ?_ h
    · intro _ _ hl; rw [lex_nil] at hl; cases hl
    · intro h0 hb h hl
      rw [lex_blank h0 hb] at hl
      exact ih _ _ (by rw [List.length_drop]; omega) _ _ hl
    · intro h0 hb hr h1 h hl
      rw [lex_remark h0 hb hr] at hl
      exact ih _ _ (by rw [List.length_drop]; omega) _ _ hl
    · intro e' h0 hb hr hf h hl
      rw [lex_err h0 hb hr hf] at hl
      injection hl with h1 h2
      subst h2
      exact firstM_err hf
    · intro k o m n' h0 hb hr hf h hl
      have hn1 := (firstM_ok h0 hf).1
      rw [lex_ok h0 hb hr hf] at hl
      cases hx : lexFrom (l.drop n') (p + n') with
      | good K => rw [hx] at hl; cases hl
      | bad i' e' =>
        rw [hx] at hl
        injection hl with e1 e2
        subst e2
        exact ih _ _ (by rw [List.length_drop]; omega) _ _ hx
theorem lexM_bad {l : List UInt8} {i e : Nat} (h : lexM l = .bad i e) : 1 ≤ e := by
  unfold lexM at h
  split at h
  · injection h with _ h; omega
  · exact lex_bad_pos _ _ _ (Nat.le_refl _) _ _ h
end Go.Proofs.YtcodonidmopodaaDoor
