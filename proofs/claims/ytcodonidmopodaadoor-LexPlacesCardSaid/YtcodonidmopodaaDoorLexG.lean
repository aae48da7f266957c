/- The tokens of a source: the model, and how the walk goes along it. -/
import Derived.Test.YtcodonidmopodaaDoorLexF
namespace Go.Proofs.YtcodonidmopodaaDoor
open Go.RowKit
set_option linter.unusedVariables false
set_option linter.unusedSimpArgs false

structure Tok where
  kind : Nat
  text : List UInt8
  place : Nat
  deriving DecidableEq
inductive LexR where
  | good (ts : List Tok)
  | bad (p e : Nat)
def LexR.pre (K : List Tok) : LexR → LexR
  | .good ts => .good (K ++ ts)
  | .bad p e => .bad p e
def blankI (c : Int) : Bool := decide (0 ≤ Lib.indexByte [32, 9, 13, 10] c.toNat.toUInt8)
def remarkB (l : List UInt8) : Bool := Lib.hasPrefix l [47, 47]

def lexFrom (l : List UInt8) (p : Nat) : LexR :=
  match l with
  | [] => .good [⟨0, [], p⟩]
  | c :: r =>
    if blankI (byteAt (c :: r) 0) then lexFrom r (p + 1)
    else if remarkB (c :: r) then lexFrom (r.drop (runN lineI (c :: r) - 1)) (p + runN lineI (c :: r))
    else match firstM (c :: r) with
      | .err e => .bad p e
      | .ok k o m n => (lexFrom (r.drop (n - 1)) (p + n)).pre [⟨k, ((c :: r).drop o).take m, p⟩]
termination_by l.length
decreasing_by
  all_goals simp
  all_goals omega

def lexM (l : List UInt8) : LexR := if 600 < l.length then .bad 0 4 else lexFrom l 0

theorem pre_pre (K J : List Tok) (r : LexR) : (r.pre J).pre K = r.pre (K ++ J) := by
  cases r <;> simp [LexR.pre]
theorem pre_nil (r : LexR) : r.pre [] = r := by cases r <;> simp [LexR.pre]

theorem runN_pos (q : Int → Bool) (l : List UInt8) (h : 0 < l.length) (hq : q (byteAt l 0) = true) : 1 ≤ runN q l := by
  have := runN_step q l 0 h
  rw [List.drop_zero, if_pos hq] at this; omega

/-- What the first token is like. -/
theorem firstM_ok {l : List UInt8} {k o m n : Nat} (h0 : 0 < l.length) (h : firstM l = .ok k o m n) : 1 ≤ n ∧ n ≤ l.length ∧ o + m ≤ l.length := by
  unfold firstM at h
  split at h
  · rename_i hd
    unfold numberM at h
    split at h
    · injection h with h1 h2 h3 h4
      have := runN_pos digitI l h0 hd
      have := runN_le digitI l
      omega
    · cases h
  · split at h
    · rename_i hd
      have hw : withinI (byteAt l 0) = true := by unfold withinI; rw [hd]; rfl
      have := runN_pos withinI l h0 hw
      have := runN_le withinI l
      unfold nameM at h
      split at h
      · injection h with h1 h2 h3 h4; omega
      · split at h
        · cases h
        · injection h with h1 h2 h3 h4; omega
    · split at h
      · unfold textM at h
        split at h
        · cases h
        · rename_i hn
          split at h
          · cases h
          · injection h with h1 h2 h3 h4; omega
      · unfold signM at h
        split at h
        · injection h with h1 h2 h3 h4; omega
        · split at h
          · injection h with h1 h2 h3 h4; omega
          · cases h

section
variable {l : List UInt8} {p : Nat}
theorem lex_nil : lexFrom [] p = .good [⟨0, [], p⟩] := by rw [lexFrom]
theorem lex_blank (h0 : 0 < l.length) (h : blankI (byteAt l 0) = true) : lexFrom l p = lexFrom (l.drop 1) (p + 1) := by
  cases l with
  | nil => simp at h0
  | cons c r => rw [lexFrom, if_pos h]; rfl
theorem lex_remark (h0 : 0 < l.length) (h : blankI (byteAt l 0) = false) (h2 : remarkB l = true) : lexFrom l p = lexFrom (l.drop (runN lineI l)) (p + runN lineI l) := by
  cases l with
  | nil => simp at h0
  | cons c r =>
    have hl : lineI (byteAt (c :: r) 0) = true := by
      unfold remarkB Lib.hasPrefix at h2
      simp at h2
      simp [lineI, byteAt, ← h2.1]
    have hp := runN_pos lineI (c :: r) (by simp) hl
    rw [lexFrom, if_neg (by rw [h]; simp), if_pos h2]
    conv => rhs; rw [show runN lineI (c :: r) = (runN lineI (c :: r) - 1) + 1 by omega]
    rw [List.drop_succ_cons]
    congr 1
    omega
theorem lex_err (h0 : 0 < l.length) (h : blankI (byteAt l 0) = false) (h2 : remarkB l = false) {e : Nat} (h3 : firstM l = .err e) : lexFrom l p = .bad p e := by
  cases l with
  | nil => simp at h0
  | cons c r => rw [lexFrom, if_neg (by rw [h]; simp), if_neg (by rw [h2]; simp), h3]
theorem lex_ok (h0 : 0 < l.length) (h : blankI (byteAt l 0) = false) (h2 : remarkB l = false) {k o m n : Nat} (h3 : firstM l = .ok k o m n) :
    lexFrom l p = (lexFrom (l.drop n) (p + n)).pre [⟨k, (l.drop o).take m, p⟩] := by
  have hn := firstM_ok h0 h3
  cases l with
  | nil => simp at h0
  | cons c r =>
    rw [lexFrom, if_neg (by rw [h]; simp), if_neg (by rw [h2]; simp), h3]
    simp only
    congr 2
    conv => rhs; rw [show n = (n - 1) + 1 by omega]
    rw [List.drop_succ_cons]
end
def bs (l : List UInt8) : ByteArray := ⟨l.toArray⟩
theorem bs_data (s : ByteArray) : bs s.data.toList = s := rfl
def tokCells (K : List Tok) : List Value := K.flatMap fun t => [.int .i64 t.kind, .string (bs t.text), .int .i64 t.place]
theorem tokCells_len (K : List Tok) : (tokCells K).length = K.length * 3 := by
  induction K with
  | nil => rfl
  | cons a K ih => simp [tokCells] at ih ⊢; omega
end Go.Proofs.YtcodonidmopodaaDoor
