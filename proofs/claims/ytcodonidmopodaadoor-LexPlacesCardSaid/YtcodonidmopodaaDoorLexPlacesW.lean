/- LexPlaces: tokens stand where they say. -/
import Derived.Test.YtcodonidmopodaaDoorLexBlanksW
namespace Go.Proofs.YtcodonidmopodaaDoor
open Go.RowKit
set_option linter.unusedVariables false
set_option linter.unusedSimpArgs false

theorem word_letter {l : List UInt8} (h : wordB l = true) : letterI (byteAt l 0) = true := by
  unfold wordB isIn at h
  have h := of_decide_eq_true h
  simp [wordsS] at h
  rcases h with rfl | rfl | rfl | rfl | rfl | rfl | rfl | rfl | rfl | rfl | rfl | rfl | rfl | rfl | rfl | rfl <;> decide
theorem byteAt_take0 (l : List UInt8) {n : Nat} (h : 0 < n) : byteAt (l.take n) 0 = byteAt l 0 := by
  unfold byteAt
  rw [List.getD, List.getD, List.getElem?_take, if_pos h]
theorem firstM_like {l : List UInt8} {k o m n : Nat} (h0 : 0 < l.length) (h : firstM l = .ok k o m n) :
    k ≠ 0 ∧ k ≤ 5 ∧ (k = 2 → o = 1 ∧ n = m + 2) ∧ (k ≠ 2 → o = 0 ∧ n = m ∧ decide (k = 4) = wordB (l.take m)) := by
  obtain ⟨hn1, hn2, hom⟩ := firstM_ok h0 h
  unfold firstM at h
  split at h
  · rename_i hd
    unfold numberM at h
    split at h
    · injection h with h1 h2 h3 h4
      refine ⟨by omega, by omega, fun e => by omega, fun _ => ⟨by omega, by omega, ?_⟩⟩
      rw [decide_eq_false (by omega)]
      symm
      by_cases hw : wordB (l.take m) = true
      · have := word_letter hw
        rw [byteAt_take0 l (by omega)] at this
        simp [digitI] at hd
        simp [letterI] at this
        omega
      · simpa using hw
    · cases h
  · rename_i hd
    split at h
    · rename_i hl
      unfold nameM at h
      split at h
      · rename_i hw
        injection h with h1 h2 h3 h4
        refine ⟨by omega, by omega, fun e => by omega, fun _ => ⟨by omega, by omega, ?_⟩⟩
        rw [decide_eq_true h1.symm, ← h3, hw]
      · rename_i hw
        split at h
        · cases h
        · injection h with h1 h2 h3 h4
          refine ⟨by omega, by omega, fun e => by omega, fun _ => ⟨by omega, by omega, ?_⟩⟩
          rw [decide_eq_false (by omega), ← h3]
          symm; simpa using hw
    · rename_i hl
      have nw : ∀ j, 0 < j → wordB (l.take j) = false := fun j hj => by
        by_cases hw : wordB (l.take j) = true
        · have := word_letter hw
          rw [byteAt_take0 l hj] at this
          exact absurd this hl
        · simpa using hw
      split at h
      · unfold textM at h
        split at h
        · cases h
        · split at h
          · cases h
          · injection h with h1 h2 h3 h4
            exact ⟨by omega, by omega, fun e => ⟨by omega, by omega⟩, fun e => absurd h1.symm e⟩
      · unfold signM at h
        split at h
        · injection h with h1 h2 h3 h4
          refine ⟨by omega, by omega, fun e => by omega, fun _ => ⟨by omega, by omega, ?_⟩⟩
          rw [decide_eq_false (by omega), nw m (by omega)]
        · split at h
          · injection h with h1 h2 h3 h4
            refine ⟨by omega, by omega, fun e => by omega, fun _ => ⟨by omega, by omega, ?_⟩⟩
            rw [decide_eq_false (by omega), nw m (by omega)]
          · cases h
/-- Blanks, and remarks, between two places. -/
def Gap (s : List UInt8) (a b : Nat) : Prop := ∀ k, a ≤ k → k < b → (∀ j, a ≤ j → j < k → byteAt s j ≠ 47) → byteAt s k = 47 ∨ blankI (byteAt s k) = true
theorem Gap.none (s : List UInt8) (a : Nat) : Gap s a a := fun k h1 h2 => by omega
theorem Gap.blank {s : List UInt8} {a b : Nat} (h : Gap s a b) (hb : blankI (byteAt s b) = true) : Gap s a (b + 1) := fun k h1 h2 h3 => by
  by_cases e : k = b
  · subst e; exact .inr hb
  · exact h k h1 (by omega) h3
theorem Gap.remark {s : List UInt8} {a b c : Nat} (h : Gap s a b) (hb : byteAt s b = 47) (hab : a ≤ b) : Gap s a c := fun k h1 h2 h3 => by
  by_cases e : k < b
  · exact h k h1 e h3
  · by_cases e2 : k = b
    · subst e2; exact .inl hb
    · exact absurd hb (h3 b hab (by omega))
def Tok.from (t : Tok) : Nat := if t.kind = 2 then t.place + 1 else t.place
def Tok.till (t : Tok) : Nat := if t.kind = 2 then t.place + 1 + t.text.length + 1 else t.place + t.text.length
structure TokAt (s : List UInt8) (t : Tok) : Prop where
  kind : t.kind ≠ 0 ∧ t.kind ≤ 5
  room : t.from + t.text.length ≤ s.length
  text : (s.drop t.from).take t.text.length = t.text
  word : t.kind ≠ 2 → decide (t.kind = 4) = wordB t.text
inductive Placed (s : List UInt8) : Nat → List Tok → Prop
  | last (e : Nat) : e ≤ s.length → Gap s e s.length → Placed s e [⟨0, [], s.length⟩]
  | more (e : Nat) (t : Tok) (K : List Tok) : e ≤ t.place → Gap s e t.place → TokAt s t → Placed s t.till K → Placed s e (t :: K)
theorem byteAt_drop (s : List UInt8) (p k : Nat) : byteAt (s.drop p) k = byteAt s (p + k) := by
  unfold byteAt
  rw [List.getD, List.getD, List.getElem?_drop]
theorem placed_of (s : List UInt8) : ∀ (n p e : Nat) (K : List Tok), s.length - p ≤ n → e ≤ p → p ≤ s.length → Gap s e p → lexFrom (s.drop p) p = .good K → Placed s e K := by
  intro n
  induction n with
  | zero =>
    intro p e K h he hp hg hl
    have : p = s.length := by omega
    subst this
    rw [List.drop_length, lex_nil] at hl
    injection hl with hl
    subst hl
    exact .last e he hg
  | succ n ih =>
    intro p e K h he hp hg
    have hb0 := byteAt_drop s p 0
    rw [Nat.add_zero] at hb0
    have hlen : (s.drop p).length = s.length - p := List.length_drop ..
    refine lex_step (Mo := fun l p => ∀ (_ : l = s.drop p) (_ : s.length - p ≤ n + 1) (_ : e ≤ p) (_ : p ≤ s.length) (_ : Gap s e p) (_ : l.length = s.length - p) (_ : byteAt l 0 = byteAt s p), lexFrom l p = .good K → Placed s e K) (s.drop p) p ?_ ?_ ?_ ?_ ?_ rfl h he hp hg hlen hb0
    · intro hnil _ _ _ _ _ h2 _ hl
      rw [lex_nil] at hl
      injection hl with hl
      subst hl
      have : p = s.length := by simp at h2; omega
      subst this
      exact .last e he hg
    · intro h0 hb _ h he hp hg h2 hb0 hl
      rw [lex_blank h0 hb, List.drop_drop] at hl
      rw [hb0] at hb
      exact ih (p + 1) e K (by omega) (by omega) (by omega) (hg.blank hb) hl
    · intro h0 hb hr h1 _ h he hp hg h2 hb0 hl
      have hle := runN_le lineI (s.drop p)
      rw [lex_remark h0 hb hr, List.drop_drop] at hl
      have h47 : byteAt s p = 47 := by
        rw [← hb0]
        unfold remarkB Lib.hasPrefix at hr
        revert hr
        cases s.drop p with
        | nil => intro hr; simp at hr
        | cons c r => intro hr; simp at hr; simp [byteAt, ← hr.1]
      exact ih _ e K (by omega) (by omega) (by omega) (hg.remark h47 he) hl
    · intro e' h0 hb hr hf _ _ _ _ _ _ _ hl
      rw [lex_err h0 hb hr hf] at hl; cases hl
    · intro k o m n' h0 hb hr hf _ h he hp hg h2 hb0 hl
      obtain ⟨hn1, hn2, hom⟩ := firstM_ok h0 hf
      obtain ⟨hk, hk5, hk2, hkn⟩ := firstM_like h0 hf
      rw [lex_ok h0 hb hr hf, List.drop_drop, List.drop_drop] at hl
      cases hx : lexFrom (s.drop (p + n')) (p + n') with
      | bad i e' => rw [hx] at hl; cases hl
      | good J =>
        rw [hx] at hl
        injection hl with hl
        subst hl
        have htl : ((s.drop (p + o)).take m).length = m := by rw [List.length_take, List.length_drop]; omega
        have hfrom : Tok.from ⟨k, (s.drop (p + o)).take m, p⟩ = p + o := by
          unfold Tok.from
          by_cases e2 : k = 2
          · rw [if_pos e2, (hk2 e2).1]
          · rw [if_neg e2, (hkn e2).1]; rfl
        have htill : Tok.till ⟨k, (s.drop (p + o)).take m, p⟩ = p + n' := by
          unfold Tok.till
          rw [htl]
          by_cases e2 : k = 2
          · rw [if_pos e2, (hk2 e2).2]; show p + 1 + m + 1 = p + (m + 2); omega
          · rw [if_neg e2, (hkn e2).2.1]
        refine .more e _ J he hg ⟨⟨hk, hk5⟩, ?_, ?_, fun e2 => ?_⟩ ?_
        · rw [hfrom, htl]; omega
        · rw [hfrom, htl]
        · have h4 := (hkn e2).2.2
          have ho := (hkn e2).1
          show decide (k = 4) = wordB ((s.drop (p + o)).take m)
          rw [h4, ho]; rfl
        · rw [htill]
          exact ih (p + n') (p + n') J (by omega) (by omega) (by omega) (Gap.none _ _) hx
theorem Placed.head {s : List UInt8} {e : Nat} {K : List Tok} (h : Placed s e K) : ∃ t, K[0]? = some t ∧ e ≤ t.place ∧ t.place ≤ s.length ∧ Gap s e t.place := by
  cases h with
  | last _ h1 h2 => exact ⟨_, rfl, h1, Nat.le_refl _, h2⟩
  | more _ t J h1 h2 h3 h4 =>
    refine ⟨t, rfl, h1, ?_, h2⟩
    have := h3.room
    unfold Tok.from at this
    split at this <;> omega
theorem Placed.end_ {s : List UInt8} {e : Nat} {K : List Tok} (h : Placed s e K) : 0 < K.length ∧ K[K.length - 1]? = some ⟨0, [], s.length⟩ := by
  induction h with
  | last e _ _ => exact ⟨by simp, rfl⟩
  | more e t J h1 h2 h3 h4 ih =>
    refine ⟨by simp, ?_⟩
    obtain ⟨i1, i2⟩ := ih
    rw [List.length_cons, show J.length + 1 - 1 = (J.length - 1) + 1 by omega, List.getElem?_cons_succ]
    exact i2
theorem Placed.at_ {s : List UInt8} {e : Nat} {K : List Tok} (h : Placed s e K) : ∀ i, i + 1 < K.length → ∃ t t', K[i]? = some t ∧ K[i + 1]? = some t' ∧ TokAt s t ∧ t.till ≤ t'.place ∧ t'.place ≤ s.length ∧ Gap s t.till t'.place := by
  induction h with
  | last e _ _ => intro i hi; simp at hi
  | more e t J h1 h2 h3 h4 ih =>
    intro i hi
    cases i with
    | zero =>
      obtain ⟨t', ht', a1, a2, a3⟩ := h4.head
      exact ⟨t, t', rfl, by rw [List.getElem?_cons_succ]; exact ht', h3, a1, a2, a3⟩
    | succ i =>
      obtain ⟨u, u', b1, b2, b3⟩ := ih i (by simp at hi; omega)
      exact ⟨u, u', by rw [List.getElem?_cons_succ]; exact b1, by rw [List.getElem?_cons_succ]; exact b2, b3⟩
theorem lex_placed {l : List UInt8} {K : List Tok} (h : lexM l = .good K) : l.length ≤ 600 ∧ Placed l 0 K := by
  unfold lexM at h
  split at h
  · cases h
  · exact ⟨by omega, placed_of l _ 0 0 K (Nat.le_refl _) (Nat.le_refl _) (Nat.zero_le _) (Gap.none _ _) h⟩
end Go.Proofs.YtcodonidmopodaaDoor
