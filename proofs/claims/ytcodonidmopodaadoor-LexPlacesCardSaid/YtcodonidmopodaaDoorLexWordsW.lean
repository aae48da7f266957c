/- LexWords: a name's bytes are one token. -/
import Derived.Test.YtcodonidmopodaaDoorLexI
namespace Go.Proofs.YtcodonidmopodaaDoor
open Go.RowKit
set_option linter.unusedVariables false
set_option linter.unusedSimpArgs false

theorem run_all (q : Int → Bool) (l : List UInt8) (h : ∀ b ∈ l, q b.toNat = true) : runN q l = l.length := by
  unfold runN
  induction l with
  | nil => rfl
  | cons a l ih => rw [List.takeWhile_cons, if_pos (h a (by simp)), List.length_cons, List.length_cons, ih (fun b hb => h b (by simp [hb]))]
theorem byteAt_range (l : List UInt8) (k : Nat) : 0 ≤ byteAt l k ∧ byteAt l k ≤ 255 := by
  unfold byteAt
  have := (l.getD k 0).toNat_lt
  omega
theorem letter_range {c : Int} (h : letterI c = true) : 65 ≤ c ∧ c ≤ 122 ∧ (c ≤ 90 ∨ 97 ≤ c) := by
  simp [letterI] at h; omega
theorem idx_mem (l : List UInt8) (c : UInt8) : 0 ≤ Lib.indexByte l c ↔ c ∈ l := by
  induction l with
  | nil => simp [Lib.indexByte]
  | cons b l ih =>
    have hg := Lib.indexByte_ge l c
    rw [Lib.indexByte, List.mem_cons]
    by_cases h : b = c
    · subst h; simp
    · rw [if_neg (by simpa using h)]
      by_cases h1 : Lib.indexByte l c = -1
      · rw [if_pos (by simpa using h1)]
        have : ¬ c ∈ l := fun e => by have := ih.2 e; omega
        simp [this]; exact fun e => h e.symm
      · rw [if_neg (by simpa using h1)]
        have : c ∈ l := ih.1 (by omega)
        simp [this]; omega
theorem blank_eq (c : UInt8) : blankI c.toNat = decide (c ∈ [32, 9, 13, 10]) := by
  unfold blankI
  rw [show ((c.toNat : Int)).toNat.toUInt8 = c by simp]
  exact decide_eq_decide.2 (idx_mem _ _)
theorem byteAt_zero (c : UInt8) (r : List UInt8) : byteAt (c :: r) 0 = (c.toNat : Int) := rfl
theorem blank_not {c : UInt8} (h : 33 ≤ c.toNat) : blankI c.toNat = false := by
  rw [blank_eq]
  apply decide_eq_false
  intro hm
  simp at hm
  rcases hm with rfl | rfl | rfl | rfl <;> simp at h
theorem remark_not {c : UInt8} {r : List UInt8} (h : c.toNat ≠ 47) : remarkB (c :: r) = false := by
  unfold remarkB Lib.hasPrefix
  have : ¬ c = 47 := fun e => h (by subst e; rfl)
  simp [List.isPrefixOf]
  exact fun e => absurd e.symm this

/-- Letters, digits and bars, a letter first. -/
structure NameL (l : List UInt8) : Prop where
  all : ∀ b ∈ l, withinI b.toNat = true
  first : 0 < l.length → letterI (byteAt l 0) = true

/-- A name at the beginning of a text. -/
theorem first_name {l : List UInt8} (h0 : 0 < l.length) (hl : letterI (byteAt l 0) = true) : blankI (byteAt l 0) = false ∧ remarkB l = false ∧ firstM l = nameM l := by
  cases l with
  | nil => simp at h0
  | cons c r =>
    have hr := letter_range hl
    rw [byteAt_zero] at hr
    refine ⟨by rw [byteAt_zero]; exact blank_not (by omega), remark_not (by omega), ?_⟩
    unfold firstM
    rw [if_neg (by rw [byteAt_zero]; simp [digitI]; omega), if_pos hl]

theorem lex_name {l : List UInt8} (h : NameL l) (h0 : 0 < l.length) (h6 : l.length ≤ 600) :
    lexM l = if wordB l then .good [⟨4, l, 0⟩, ⟨0, [], l.length⟩] else if 8 < l.length then .bad 0 13 else .good [⟨3, l, 0⟩, ⟨0, [], l.length⟩] := by
  obtain ⟨h1, h2, h3⟩ := first_name h0 (h.first h0)
  have hn : nameM l = if wordB l then .ok 4 0 l.length l.length else if 8 < l.length then .err 13 else .ok 3 0 l.length l.length := by
    unfold nameM
    rw [run_all withinI l h.all, List.take_length]
  rw [hn] at h3
  unfold lexM
  rw [if_neg (by omega)]
  by_cases hw : wordB l = true
  · rw [if_pos hw] at h3 ⊢
    rw [lex_ok h0 h1 h2 h3, List.drop_length, lex_nil]
    simp [LexR.pre]
  · rw [if_neg hw] at h3 ⊢
    by_cases h8 : 8 < l.length
    · rw [if_pos h8] at h3 ⊢
      rw [lex_err h0 h1 h2 h3]
    · rw [if_neg h8] at h3 ⊢
      rw [lex_ok h0 h1 h2 h3, List.drop_length, lex_nil]
      simp [LexR.pre]
end Go.Proofs.YtcodonidmopodaaDoor
