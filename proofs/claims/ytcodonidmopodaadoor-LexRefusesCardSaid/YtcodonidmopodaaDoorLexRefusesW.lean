/- LexRefuses: what stands ahead of what is refused has tokens. -/
import Derived.Test.YtcodonidmopodaaDoorLexBlanksW
namespace Go.Proofs.YtcodonidmopodaaDoor
open Go.RowKit
set_option linter.unusedVariables false
set_option linter.unusedSimpArgs false

theorem runN_take (q : Int → Bool) (l : List UInt8) (n : Nat) : runN q (l.take n) = min (runN q l) n := by
  unfold runN
  induction l generalizing n with
  | nil => simp
  | cons a l ih =>
    cases n with
    | zero => simp
    | succ n =>
      rw [List.take_succ_cons, List.takeWhile_cons, List.takeWhile_cons]
      by_cases h : q a.toNat = true
      · rw [if_pos h, if_pos h, List.length_cons, List.length_cons, ih]; omega
      · rw [if_neg h, if_neg h]; simp
theorem byteAt_take (l : List UInt8) {n k : Nat} (h : k < n) : byteAt (l.take n) k = byteAt l k := by
  unfold byteAt
  rw [List.getD, List.getD, List.getElem?_take, if_pos h]
theorem firstM_take {l : List UInt8} {k o m n q : Nat} (h0 : 0 < l.length) (h : firstM l = .ok k o m n) (hq : n ≤ q) : firstM (l.take q) = .ok k o m n := by
  obtain ⟨hn1, hn2, hom⟩ := firstM_ok h0 h
  unfold firstM at h ⊢
  rw [byteAt_take l (by omega : 0 < q)]
  split at h
  · rename_i hd
    rw [if_pos hd]
    unfold numberM at h ⊢
    split at h
    · rename_i hok
      have hr : runN digitI l ≤ q := by injection h with h1 h2 h3 h4; omega
      rw [runN_take, Nat.min_eq_left hr, List.take_take, Nat.min_eq_left hr, if_pos hok]
      exact h
    · cases h
  · rename_i hd
    rw [if_neg hd]
    split at h
    · rename_i hl
      rw [if_pos hl]
      unfold nameM at h ⊢
      rw [runN_take, List.take_take]
      have hr : runN withinI l ≤ q := by
        split at h
        · injection h with h1 h2 h3 h4; omega
        · split at h
          · cases h
          · injection h with h1 h2 h3 h4; omega
      rw [show min (runN withinI l) q = runN withinI l by omega, show min (runN withinI l) q = runN withinI l by omega]
      exact h
    · rename_i hl
      rw [if_neg hl]
      split at h
      · rename_i ht
        rw [if_pos ht]
        unfold textM at h ⊢
        rw [List.drop_take, runN_take]
        split at h
        · cases h
        · rename_i hne
          have hr : runN plainI (l.drop 1) + 2 ≤ q := by
            split at h
            · cases h
            · injection h with h1 h2 h3 h4; omega
          rw [show min (runN plainI (l.drop 1)) (q - 1) = runN plainI (l.drop 1) by omega, if_neg]
          · exact h
          · rintro (h' | h')
            · exact hne (.inl (by rw [List.length_take] at h'; omega))
            · exact hne (.inr (by rw [byteAt_take l (by omega)] at h'; exact h'))
      · rename_i ht
        rw [if_neg ht]
        unfold signM at h ⊢
        rw [byteAt_take l (by omega : 0 < q), List.take_take, List.length_take]
        split at h
        · rename_i h2
          have hq2 : 2 ≤ q := by injection h with h1 h2' h3 h4; omega
          rw [Nat.min_eq_left hq2, if_pos ⟨by omega, h2.2⟩]
          exact h
        · rename_i h2
          split at h
          · rename_i h1'
            rw [if_neg, if_pos h1']
            · exact h
            · rintro ⟨h3, h4⟩
              rw [show min 2 q = 2 by omega] at h4
              exact h2 ⟨by omega, h4⟩
          · cases h
theorem firstM_why {l : List UInt8} {e : Nat} (h : firstM l = .err e) : e = 10 ∨ e = 11 ∨ e = 12 ∨ e = 13 ∨ e = 4 := by
  unfold firstM numberM nameM textM signM at h
  repeat' split at h
  all_goals first | (cases h; done) | (injection h with h; omega)
theorem lex_cut : ∀ (n : Nat) (l : List UInt8) (p : Nat), l.length ≤ n → ∀ i e, lexFrom l p = .bad i e →
    p ≤ i ∧ i < p + l.length ∧ (e = 10 ∨ e = 11 ∨ e = 12 ∨ e = 13 ∨ e = 4) ∧ ∃ K, lexFrom (l.take (i - p)) p = .good K := by
  intro n
  induction n with
  | zero =>
    intro l p h i e hb
    have : l = [] := List.eq_nil_of_length_eq_zero (by omega)
    subst this
    rw [lex_nil] at hb; cases hb
  | succ n ih =>
    intro l p h i e
    refine lex_step (Mo := fun l p => l.length ≤ n + 1 → lexFrom l p = .bad i e → p ≤ i ∧ i < p + l.length ∧ (e = 10 ∨ e = 11 ∨ e = 12 ∨ e = 13 ∨ e = 4) ∧ ∃ K, lexFrom (l.take (i - p)) p = .good K) l p ?_ ?_ ?_ ?_ ?_ h
    · intro _ _ hb; rw [lex_nil] at hb; cases hb
    · intro h0 hb h hl
      rw [lex_blank h0 hb] at hl
      obtain ⟨h1, h2, h3, K, hK⟩ := ih _ _ (by rw [List.length_drop]; omega) _ _ hl
      rw [List.length_drop] at h2
      refine ⟨by omega, by omega, h3, K, ?_⟩
      rw [lex_blank (by rw [List.length_take]; omega) (by rw [byteAt_take l (by omega)]; exact hb), List.drop_take, show i - p - 1 = i - (p + 1) by omega]
      exact hK
    · intro h0 hb hr hp h hl
      rw [lex_remark h0 hb hr] at hl
      obtain ⟨h1, h2, h3, K, hK⟩ := ih _ _ (by rw [List.length_drop]; omega) _ _ hl
      have hle := runN_le lineI l
      rw [List.length_drop] at h2
      have hr2 : remarkB (l.take (i - p)) = true ∧ runN lineI (l.take (i - p)) = runN lineI l := by
        have h2 : 2 ≤ runN lineI l := by
          unfold remarkB Lib.hasPrefix at hr
          match l, hr with
          | [], hr => simp at hr
          | [a], hr => simp at hr
          | a :: b :: r, hr =>
            simp at hr
            obtain ⟨rfl, rfl⟩ := hr
            have := runN_append lineI [47, 47] r (by decide)
            simp at this; omega
        refine ⟨?_, by rw [runN_take]; omega⟩
        unfold remarkB Lib.hasPrefix at hr ⊢
        match l, hr with
        | [], hr => simp at hr
        | [a], hr => simp at hr
        | a :: b :: r, hr =>
          rw [show i - p = (i - p - 2) + 1 + 1 by omega, List.take_succ_cons, List.take_succ_cons]
          simpa using hr
      refine ⟨by omega, by omega, h3, K, ?_⟩
      rw [lex_remark (by rw [List.length_take]; omega) (by rw [byteAt_take l (by omega)]; exact hb) hr2.1, hr2.2, List.drop_take, show i - p - runN lineI l = i - (p + runN lineI l) by omega]
      exact hK
    · intro e' h0 hb hr hf h hl
      rw [lex_err h0 hb hr hf] at hl
      injection hl with h1 h2
      subst h1; subst h2
      exact ⟨by omega, by omega, firstM_why hf, _, by rw [Nat.sub_self, List.take_zero, lex_nil]⟩
    · intro k o m n' h0 hb hr hf h hl
      obtain ⟨hn1, hn2, hom⟩ := firstM_ok h0 hf
      rw [lex_ok h0 hb hr hf] at hl
      cases hx : lexFrom (l.drop n') (p + n') with
      | good K => rw [hx] at hl; cases hl
      | bad i' e' =>
        rw [hx] at hl
        injection hl with e1 e2
        subst e1; subst e2
        obtain ⟨h1, h2, h3, K, hK⟩ := ih _ _ (by rw [List.length_drop]; omega) _ _ hx
        rw [List.length_drop] at h2
        have hr' : remarkB (l.take (i' - p)) = false := by
          unfold remarkB Lib.hasPrefix at hr ⊢
          match l, hr with
          | [], hr => simp at h0
          | [a], hr => rw [show i' - p = (i' - p - 1) + 1 by omega, List.take_succ_cons]; simp [List.isPrefixOf]
          | a :: b :: r, hr =>
            rw [show i' - p = (i' - p - 1) + 1 by omega, List.take_succ_cons]
            cases hm : i' - p - 1 with
            | zero => simp [List.isPrefixOf]
            | succ m => rw [List.take_succ_cons]; simpa [List.isPrefixOf] using hr
        refine ⟨by omega, by omega, h3, ⟨k, ((l.take (i' - p)).drop o).take m, p⟩ :: K, ?_⟩
        rw [lex_ok (by rw [List.length_take]; omega) (by rw [byteAt_take l (by omega)]; exact hb) hr' (firstM_take h0 hf (by omega)), List.drop_take (i := n') (j := i' - p), show i' - p - n' = i' - (p + n') by omega, hK]
        rfl
theorem lex_refused {l : List UInt8} {i e : Nat} (h : lexM l = .bad i e) (hx : ¬ (e = 4 ∧ 600 < l.length)) :
    i < l.length ∧ (e = 10 ∨ e = 11 ∨ e = 12 ∨ e = 13 ∨ e = 4) ∧ ∃ K, lexM (l.take i) = .good K := by
  unfold lexM at h ⊢
  by_cases h6 : 600 < l.length
  · rw [if_pos h6] at h
    injection h with h1 h2
    exact absurd ⟨h2.symm, h6⟩ hx
  · rw [if_neg h6] at h
    obtain ⟨h1, h2, h3, K, hK⟩ := lex_cut _ _ _ (Nat.le_refl _) _ _ h
    rw [if_neg (by rw [List.length_take]; omega)]
    exact ⟨by omega, h3, K, by simpa using hK⟩
end Go.Proofs.YtcodonidmopodaaDoor
