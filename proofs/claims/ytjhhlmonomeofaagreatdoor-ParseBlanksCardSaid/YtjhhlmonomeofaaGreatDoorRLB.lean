/- RLB: LjR, LjP, LjA, RlE, RlF. -/
import Derived.Test.YtjhhlmonomeofaaGreatDoorME
import Derived.Test.YtjhhlmonomeofaaGreatDoorRLA
import Derived.Test.YtjhhlmonomeofaaGreatDoorQA7
/- LexRefuses: what stands ahead of what is refused has tokens. -/
namespace Go.Proofs.YtjhhlmonomeofaaGreatDoor
open Go.RowKit
set_option linter.unusedVariables false
set_option linter.unusedSimpArgs false

theorem runN_take (q : Int → Bool) (l : List UInt8) (n : Nat) : runN q (l.take n) = min (runN q l) n := by
  unfold runN
  induction l generalizing n with
  | nil => simp
  | cons a l ih =>
    cases n with
    | zero => simp
    | succ n =>
      rw [List.take_succ_cons, List.takeWhile_cons, List.takeWhile_cons]
      by_cases h : q a.toNat = true
      · rw [if_pos h, if_pos h, List.length_cons, List.length_cons, ih]; omega
      · rw [if_neg h, if_neg h]; simp
theorem byteAt_take (l : List UInt8) {n k : Nat} (h : k < n) : byteAt (l.take n) k = byteAt l k := by
  unfold byteAt
  rw [List.getD, List.getD, List.getElem?_take, if_pos h]
theorem firstM_take {l : List UInt8} {k o m n q : Nat} (h0 : 0 < l.length) (h : firstM l = .ok k o m n) (hq : n ≤ q) : firstM (l.take q) = .ok k o m n := by
  obtain ⟨hn1, hn2, hom⟩ := firstM_ok h0 h
  unfold firstM at h ⊢
  rw [byteAt_take l (by omega : 0 < q)]
  split at h
  · rename_i hd
    rw [if_pos hd]
    unfold numberM at h ⊢
    split at h
    · rename_i hok
      have hr : runN digitI l ≤ q := by injection h with h1 h2 h3 h4; omega
      rw [runN_take, Nat.min_eq_left hr, List.take_take, Nat.min_eq_left hr, if_pos hok]
      exact h
    · cases h
  · rename_i hd
    rw [if_neg hd]
    split at h
    · rename_i hl
      rw [if_pos hl]
      unfold nameM at h ⊢
      rw [runN_take, List.take_take]
      have hr : runN withinI l ≤ q := by
        split at h
        · injection h with h1 h2 h3 h4; omega
        · split at h
          · cases h
          · injection h with h1 h2 h3 h4; omega
      rw [show min (runN withinI l) q = runN withinI l by omega, show min (runN withinI l) q = runN withinI l by omega]
      exact h
    · rename_i hl
      rw [if_neg hl]
      split at h
      · rename_i ht
        rw [if_pos ht]
        unfold textM at h ⊢
        rw [List.drop_take, runN_take]
        split at h
        · cases h
        · rename_i hne
          have hr : runN plainI (l.drop 1) + 2 ≤ q := by
            split at h
            · cases h
            · injection h with h1 h2 h3 h4; omega
          rw [show min (runN plainI (l.drop 1)) (q - 1) = runN plainI (l.drop 1) by omega, if_neg]
          · exact h
          · rintro (h' | h')
            · exact hne (.inl (by rw [List.length_take] at h'; omega))
            · exact hne (.inr (by rw [byteAt_take l (by omega)] at h'; exact h'))
      · rename_i ht
        rw [if_neg ht]
        unfold signM at h ⊢
        rw [byteAt_take l (by omega : 0 < q), List.take_take, List.length_take]
        split at h
        · rename_i h2
          have hq2 : 2 ≤ q := by injection h with h1 h2' h3 h4; omega
          rw [Nat.min_eq_left hq2, if_pos ⟨by omega, h2.2⟩]
          exact h
        · rename_i h2
          split at h
          · rename_i h1'
            rw [if_neg, if_pos h1']
            · exact h
            · rintro ⟨h3, h4⟩
              rw [show min 2 q = 2 by omega] at h4
              exact h2 ⟨by omega, h4⟩
          · cases h
theorem firstM_why {l : List UInt8} {e : Nat} (h : firstM l = .err e) : e = 10 ∨ e = 11 ∨ e = 12 ∨ e = 13 ∨ e = 4 := by
  unfold firstM numberM nameM textM signM at h
  repeat' split at h
  all_goals first | (cases h; done) | (injection h with h; omega)
theorem lex_cut : ∀ (n : Nat) (l : List UInt8) (p : Nat), l.length ≤ n → ∀ i e, lexFrom l p = .bad i e →
    p ≤ i ∧ i < p + l.length ∧ (e = 10 ∨ e = 11 ∨ e = 12 ∨ e = 13 ∨ e = 4) ∧ ∃ K, lexFrom (l.take (i - p)) p = .good K := by
  intro n
  induction n with
  | zero =>
    intro l p h i e hb
    have : l = [] := List.eq_nil_of_length_eq_zero (by omega)
    subst this
    rw [lex_nil] at hb; cases hb
  | succ n ih =>
    intro l p h i e
    refine lex_step (Mo := fun l p => l.length ≤ n + 1 → lexFrom l p = .bad i e → p ≤ i ∧ i < p + l.length ∧ (e = 10 ∨ e = 11 ∨ e = 12 ∨ e = 13 ∨ e = 4) ∧ ∃ K, lexFrom (l.take (i - p)) p = .good K) l p ?_ ?_ ?_ ?_ ?_ h
    · intro _ _ hb; rw [lex_nil] at hb; cases hb
    · intro h0 hb h hl
      rw [lex_blank h0 hb] at hl
      obtain ⟨h1, h2, h3, K, hK⟩ := ih _ _ (by rw [List.length_drop]; omega) _ _ hl
      rw [List.length_drop] at h2
      refine ⟨by omega, by omega, h3, K, ?_⟩
      rw [lex_blank (by rw [List.length_take]; omega) (by rw [byteAt_take l (by omega)]; exact hb), List.drop_take, show i - p - 1 = i - (p + 1) by omega]
      exact hK
    · intro h0 hb hr hp h hl
      rw [lex_remark h0 hb hr] at hl
      obtain ⟨h1, h2, h3, K, hK⟩ := ih _ _ (by rw [List.length_drop]; omega) _ _ hl
      have hle := runN_le lineI l
      rw [List.length_drop] at h2
      have hr2 : remarkB (l.take (i - p)) = true ∧ runN lineI (l.take (i - p)) = runN lineI l := by
        have h2 : 2 ≤ runN lineI l := by
          unfold remarkB Lib.hasPrefix at hr
          match l, hr with
          | [], hr => simp at hr
          | [a], hr => simp at hr
          | a :: b :: r, hr =>
            simp at hr
            obtain ⟨rfl, rfl⟩ := hr
            have := runN_append lineI [47, 47] r (by decide)
            simp at this; omega
        refine ⟨?_, by rw [runN_take]; omega⟩
        unfold remarkB Lib.hasPrefix at hr ⊢
        match l, hr with
        | [], hr => simp at hr
        | [a], hr => simp at hr
        | a :: b :: r, hr =>
          rw [show i - p = (i - p - 2) + 1 + 1 by omega, List.take_succ_cons, List.take_succ_cons]
          simpa using hr
      refine ⟨by omega, by omega, h3, K, ?_⟩
      rw [lex_remark (by rw [List.length_take]; omega) (by rw [byteAt_take l (by omega)]; exact hb) hr2.1, hr2.2, List.drop_take, show i - p - runN lineI l = i - (p + runN lineI l) by omega]
      exact hK
    · intro e' h0 hb hr hf h hl
      rw [lex_err h0 hb hr hf] at hl
      injection hl with h1 h2
      subst h1; subst h2
      exact ⟨by omega, by omega, firstM_why hf, _, by rw [Nat.sub_self, List.take_zero, lex_nil]⟩
    · intro k o m n' h0 hb hr hf h hl
      obtain ⟨hn1, hn2, hom⟩ := firstM_ok h0 hf
      rw [lex_ok h0 hb hr hf] at hl
      cases hx : lexFrom (l.drop n') (p + n') with
      | good K => rw [hx] at hl; cases hl
      | bad i' e' =>
        rw [hx] at hl
        injection hl with e1 e2
        subst e1; subst e2
        obtain ⟨h1, h2, h3, K, hK⟩ := ih _ _ (by rw [List.length_drop]; omega) _ _ hx
        rw [List.length_drop] at h2
        have hr' : remarkB (l.take (i' - p)) = false := by
          unfold remarkB Lib.hasPrefix at hr ⊢
          match l, hr with
          | [], hr => simp at h0
          | [a], hr => rw [show i' - p = (i' - p - 1) + 1 by omega, List.take_succ_cons]; simp [List.isPrefixOf]
          | a :: b :: r, hr =>
            rw [show i' - p = (i' - p - 1) + 1 by omega, List.take_succ_cons]
            cases hm : i' - p - 1 with
            | zero => simp [List.isPrefixOf]
            | succ m => rw [List.take_succ_cons]; simpa [List.isPrefixOf] using hr
        refine ⟨by omega, by omega, h3, ⟨k, ((l.take (i' - p)).drop o).take m, p⟩ :: K, ?_⟩
        rw [lex_ok (by rw [List.length_take]; omega) (by rw [byteAt_take l (by omega)]; exact hb) hr' (firstM_take h0 hf (by omega)), List.drop_take (i := n') (j := i' - p), show i' - p - n' = i' - (p + n') by omega, hK]
        rfl
theorem lex_refused {l : List UInt8} {i e : Nat} (h : lexM l = .bad i e) (hx : ¬ (e = 4 ∧ 600 < l.length)) :
    i < l.length ∧ (e = 10 ∨ e = 11 ∨ e = 12 ∨ e = 13 ∨ e = 4) ∧ ∃ K, lexM (l.take i) = .good K := by
  unfold lexM at h ⊢
  by_cases h6 : 600 < l.length
  · rw [if_pos h6] at h
    injection h with h1 h2
    exact absurd ⟨h2.symm, h6⟩ hx
  · rw [if_neg h6] at h
    obtain ⟨h1, h2, h3, K, hK⟩ := lex_cut _ _ _ (Nat.le_refl _) _ _ h
    rw [if_neg (by rw [List.length_take]; omega)]
    exact ⟨by omega, h3, K, by simpa using hK⟩
end Go.Proofs.YtjhhlmonomeofaaGreatDoor
/- LexPlaces: tokens stand where they say. -/
namespace Go.Proofs.YtjhhlmonomeofaaGreatDoor
open Go.RowKit
set_option linter.unusedVariables false
set_option linter.unusedSimpArgs false

theorem word_letter {l : List UInt8} (h : wordB l = true) : letterI (byteAt l 0) = true := by
  unfold wordB isIn at h
  have h := of_decide_eq_true h
  simp [wordsS] at h
  rcases h with rfl | rfl | rfl | rfl | rfl | rfl | rfl | rfl | rfl | rfl | rfl | rfl | rfl | rfl | rfl | rfl <;> decide
theorem byteAt_take0 (l : List UInt8) {n : Nat} (h : 0 < n) : byteAt (l.take n) 0 = byteAt l 0 := by
  unfold byteAt
  rw [List.getD, List.getD, List.getElem?_take, if_pos h]
theorem firstM_like {l : List UInt8} {k o m n : Nat} (h0 : 0 < l.length) (h : firstM l = .ok k o m n) :
    k ≠ 0 ∧ k ≤ 5 ∧ (k = 2 → o = 1 ∧ n = m + 2) ∧ (k ≠ 2 → o = 0 ∧ n = m ∧ decide (k = 4) = wordB (l.take m)) := by
  obtain ⟨hn1, hn2, hom⟩ := firstM_ok h0 h
  unfold firstM at h
  split at h
  · rename_i hd
    unfold numberM at h
    split at h
    · injection h with h1 h2 h3 h4
      refine ⟨by omega, by omega, fun e => by omega, fun _ => ⟨by omega, by omega, ?_⟩⟩
      rw [decide_eq_false (by omega)]
      symm
      by_cases hw : wordB (l.take m) = true
      · have := word_letter hw
        rw [byteAt_take0 l (by omega)] at this
        simp [digitI] at hd
        simp [letterI] at this
        omega
      · simpa using hw
    · cases h
  · rename_i hd
    split at h
    · rename_i hl
      unfold nameM at h
      split at h
      · rename_i hw
        injection h with h1 h2 h3 h4
        refine ⟨by omega, by omega, fun e => by omega, fun _ => ⟨by omega, by omega, ?_⟩⟩
        rw [decide_eq_true h1.symm, ← h3, hw]
      · rename_i hw
        split at h
        · cases h
        · injection h with h1 h2 h3 h4
          refine ⟨by omega, by omega, fun e => by omega, fun _ => ⟨by omega, by omega, ?_⟩⟩
          rw [decide_eq_false (by omega), ← h3]
          symm; simpa using hw
    · rename_i hl
      have nw : ∀ j, 0 < j → wordB (l.take j) = false := fun j hj => by
        by_cases hw : wordB (l.take j) = true
        · have := word_letter hw
          rw [byteAt_take0 l hj] at this
          exact absurd this hl
        · simpa using hw
      split at h
      · unfold textM at h
        split at h
        · cases h
        · split at h
          · cases h
          · injection h with h1 h2 h3 h4
            exact ⟨by omega, by omega, fun e => ⟨by omega, by omega⟩, fun e => absurd h1.symm e⟩
      · unfold signM at h
        split at h
        · injection h with h1 h2 h3 h4
          refine ⟨by omega, by omega, fun e => by omega, fun _ => ⟨by omega, by omega, ?_⟩⟩
          rw [decide_eq_false (by omega), nw m (by omega)]
        · split at h
          · injection h with h1 h2 h3 h4
            refine ⟨by omega, by omega, fun e => by omega, fun _ => ⟨by omega, by omega, ?_⟩⟩
            rw [decide_eq_false (by omega), nw m (by omega)]
          · cases h
/-- Blanks, and remarks, between two places. -/
def Gap (s : List UInt8) (a b : Nat) : Prop := ∀ k, a ≤ k → k < b → (∀ j, a ≤ j → j < k → byteAt s j ≠ 47) → byteAt s k = 47 ∨ blankI (byteAt s k) = true
theorem Gap.none (s : List UInt8) (a : Nat) : Gap s a a := fun k h1 h2 => by omega
theorem Gap.blank {s : List UInt8} {a b : Nat} (h : Gap s a b) (hb : blankI (byteAt s b) = true) : Gap s a (b + 1) := fun k h1 h2 h3 => by
  by_cases e : k = b
  · subst e; exact .inr hb
  · exact h k h1 (by omega) h3
theorem Gap.remark {s : List UInt8} {a b c : Nat} (h : Gap s a b) (hb : byteAt s b = 47) (hab : a ≤ b) : Gap s a c := fun k h1 h2 h3 => by
  by_cases e : k < b
  · exact h k h1 e h3
  · by_cases e2 : k = b
    · subst e2; exact .inl hb
    · exact absurd hb (h3 b hab (by omega))
def Tok.from (t : Tok) : Nat := if t.kind = 2 then t.place + 1 else t.place
def Tok.till (t : Tok) : Nat := if t.kind = 2 then t.place + 1 + t.text.length + 1 else t.place + t.text.length
structure TokAt (s : List UInt8) (t : Tok) : Prop where
  kind : t.kind ≠ 0 ∧ t.kind ≤ 5
  room : t.from + t.text.length ≤ s.length
  text : (s.drop t.from).take t.text.length = t.text
  word : t.kind ≠ 2 → decide (t.kind = 4) = wordB t.text
inductive Placed (s : List UInt8) : Nat → List Tok → Prop
  | last (e : Nat) : e ≤ s.length → Gap s e s.length → Placed s e [⟨0, [], s.length⟩]
  | more (e : Nat) (t : Tok) (K : List Tok) : e ≤ t.place → Gap s e t.place → TokAt s t → Placed s t.till K → Placed s e (t :: K)
theorem byteAt_drop (s : List UInt8) (p k : Nat) : byteAt (s.drop p) k = byteAt s (p + k) := by
  unfold byteAt
  rw [List.getD, List.getD, List.getElem?_drop]
theorem placed_of (s : List UInt8) : ∀ (n p e : Nat) (K : List Tok), s.length - p ≤ n → e ≤ p → p ≤ s.length → Gap s e p → lexFrom (s.drop p) p = .good K → Placed s e K := by
  intro n
  induction n with
  | zero =>
    intro p e K h he hp hg hl
    have : p = s.length := by omega
    subst this
    rw [List.drop_length, lex_nil] at hl
    injection hl with hl
    subst hl
    exact .last e he hg
  | succ n ih =>
    intro p e K h he hp hg
    have hb0 := byteAt_drop s p 0
    rw [Nat.add_zero] at hb0
    have hlen : (s.drop p).length = s.length - p := List.length_drop ..
    refine lex_step (Mo := fun l p => ∀ (_ : l = s.drop p) (_ : s.length - p ≤ n + 1) (_ : e ≤ p) (_ : p ≤ s.length) (_ : Gap s e p) (_ : l.length = s.length - p) (_ : byteAt l 0 = byteAt s p), lexFrom l p = .good K → Placed s e K) (s.drop p) p ?_ ?_ ?_ ?_ ?_ rfl h he hp hg hlen hb0
    · intro hnil _ _ _ _ _ h2 _ hl
      rw [lex_nil] at hl
      injection hl with hl
      subst hl
      have : p = s.length := by simp at h2; omega
      subst this
      exact .last e he hg
    · intro h0 hb _ h he hp hg h2 hb0 hl
      rw [lex_blank h0 hb, List.drop_drop] at hl
      rw [hb0] at hb
      exact ih (p + 1) e K (by omega) (by omega) (by omega) (hg.blank hb) hl
    · intro h0 hb hr h1 _ h he hp hg h2 hb0 hl
      have hle := runN_le lineI (s.drop p)
      rw [lex_remark h0 hb hr, List.drop_drop] at hl
      have h47 : byteAt s p = 47 := by
        rw [← hb0]
        unfold remarkB Lib.hasPrefix at hr
        revert hr
        cases s.drop p with
        | nil => intro hr; simp at hr
        | cons c r => intro hr; simp at hr; simp [byteAt, ← hr.1]
      exact ih _ e K (by omega) (by omega) (by omega) (hg.remark h47 he) hl
    · intro e' h0 hb hr hf _ _ _ _ _ _ _ hl
      rw [lex_err h0 hb hr hf] at hl; cases hl
    · intro k o m n' h0 hb hr hf _ h he hp hg h2 hb0 hl
      obtain ⟨hn1, hn2, hom⟩ := firstM_ok h0 hf
      obtain ⟨hk, hk5, hk2, hkn⟩ := firstM_like h0 hf
      rw [lex_ok h0 hb hr hf, List.drop_drop, List.drop_drop] at hl
      cases hx : lexFrom (s.drop (p + n')) (p + n') with
      | bad i e' => rw [hx] at hl; cases hl
      | good J =>
        rw [hx] at hl
        injection hl with hl
        subst hl
        have htl : ((s.drop (p + o)).take m).length = m := by rw [List.length_take, List.length_drop]; omega
        have hfrom : Tok.from ⟨k, (s.drop (p + o)).take m, p⟩ = p + o := by
          unfold Tok.from
          by_cases e2 : k = 2
          · rw [if_pos e2, (hk2 e2).1]
          · rw [if_neg e2, (hkn e2).1]; rfl
        have htill : Tok.till ⟨k, (s.drop (p + o)).take m, p⟩ = p + n' := by
          unfold Tok.till
          rw [htl]
          by_cases e2 : k = 2
          · rw [if_pos e2, (hk2 e2).2]; show p + 1 + m + 1 = p + (m + 2); omega
          · rw [if_neg e2, (hkn e2).2.1]
        refine .more e _ J he hg ⟨⟨hk, hk5⟩, ?_, ?_, fun e2 => ?_⟩ ?_
        · rw [hfrom, htl]; omega
        · rw [hfrom, htl]
        · have h4 := (hkn e2).2.2
          have ho := (hkn e2).1
          show decide (k = 4) = wordB ((s.drop (p + o)).take m)
          rw [h4, ho]; rfl
        · rw [htill]
          exact ih (p + n') (p + n') J (by omega) (by omega) (by omega) (Gap.none _ _) hx
theorem Placed.head {s : List UInt8} {e : Nat} {K : List Tok} (h : Placed s e K) : ∃ t, K[0]? = some t ∧ e ≤ t.place ∧ t.place ≤ s.length ∧ Gap s e t.place := by
  cases h with
  | last _ h1 h2 => exact ⟨_, rfl, h1, Nat.le_refl _, h2⟩
  | more _ t J h1 h2 h3 h4 =>
    refine ⟨t, rfl, h1, ?_, h2⟩
    have := h3.room
    unfold Tok.from at this
    split at this <;> omega
theorem Placed.end_ {s : List UInt8} {e : Nat} {K : List Tok} (h : Placed s e K) : 0 < K.length ∧ K[K.length - 1]? = some ⟨0, [], s.length⟩ := by
  induction h with
  | last e _ _ => exact ⟨by simp, rfl⟩
  | more e t J h1 h2 h3 h4 ih =>
    refine ⟨by simp, ?_⟩
    obtain ⟨i1, i2⟩ := ih
    rw [List.length_cons, show J.length + 1 - 1 = (J.length - 1) + 1 by omega, List.getElem?_cons_succ]
    exact i2
theorem Placed.at_ {s : List UInt8} {e : Nat} {K : List Tok} (h : Placed s e K) : ∀ i, i + 1 < K.length → ∃ t t', K[i]? = some t ∧ K[i + 1]? = some t' ∧ TokAt s t ∧ t.till ≤ t'.place ∧ t'.place ≤ s.length ∧ Gap s t.till t'.place := by
  induction h with
  | last e _ _ => intro i hi; simp at hi
  | more e t J h1 h2 h3 h4 ih =>
    intro i hi
    cases i with
    | zero =>
      obtain ⟨t', ht', a1, a2, a3⟩ := h4.head
      exact ⟨t, t', rfl, by rw [List.getElem?_cons_succ]; exact ht', h3, a1, a2, a3⟩
    | succ i =>
      obtain ⟨u, u', b1, b2, b3⟩ := ih i (by simp at hi; omega)
      exact ⟨u, u', by rw [List.getElem?_cons_succ]; exact b1, by rw [List.getElem?_cons_succ]; exact b2, b3⟩
theorem lex_placed {l : List UInt8} {K : List Tok} (h : lexM l = .good K) : l.length ≤ 600 ∧ Placed l 0 K := by
  unfold lexM at h
  split at h
  · cases h
  · exact ⟨by omega, placed_of l _ 0 0 K (Nat.le_refl _) (Nat.le_refl _) (Nat.zero_le _) (Gap.none _ _) h⟩
end Go.Proofs.YtjhhlmonomeofaaGreatDoor
/- Sources behind each other, and each token in a line of its own: their tokens. -/
namespace Go.Proofs.YtjhhlmonomeofaaGreatDoor
open Go.RowKit
set_option linter.unusedVariables false
set_option linter.unusedSimpArgs false
def EndN (r : List UInt8) : Prop := r = [] ∨ ∃ r', r = 10 :: r'
theorem runN_inside (q : Int → Bool) (x r : List UInt8) (h : runN q x < x.length) : runN q (x ++ r) = runN q x := by
  induction x with
  | nil => simp at h
  | cons a x ih =>
    unfold runN at ih h ⊢
    rw [List.cons_append, List.takeWhile_cons]
    rw [List.takeWhile_cons] at h ⊢
    by_cases ha : q a.toNat = true
    · rw [if_pos ha] at h ⊢
      rw [if_pos ha, List.length_cons, List.length_cons]
      rw [List.length_cons, List.length_cons] at h
      rw [ih (by omega)]
    · rw [if_neg ha, if_neg ha]
theorem runN_whole (q : Int → Bool) (x : List UInt8) (h : ¬ runN q x < x.length) : ∀ b ∈ x, q b.toNat = true := by
  induction x with
  | nil => intro b hb; cases hb
  | cons a x ih =>
    unfold runN at ih h
    rw [List.takeWhile_cons] at h
    by_cases ha : q a.toNat = true
    · rw [if_pos ha, List.length_cons, List.length_cons] at h
      intro b hb
      rcases List.mem_cons.1 hb with rfl | hb
      · exact ha
      · exact ih (by omega) b hb
    · rw [if_neg ha] at h; simp at h
theorem runN_end (q : Int → Bool) (x r : List UInt8) (hq : q ((10 : UInt8).toNat : Int) = false) (hr : EndN r) : runN q (x ++ r) = runN q x := by
  by_cases h : runN q x < x.length
  · exact runN_inside q x r h
  · have ha := runN_whole q x h
    rw [runN_append q x r ha, run_all q x ha]
    rcases hr with rfl | ⟨r', rfl⟩
    · rfl
    · rw [runN_zero q 10 r' hq]; rfl
theorem byteAt_append (x r : List UInt8) {k : Nat} (h : k < x.length) : byteAt (x ++ r) k = byteAt x k := by
  unfold byteAt
  rw [List.getD, List.getD, List.getElem?_append_left h]
theorem two_newline (c : UInt8) : twoB [c, 10] = false := by
  unfold twoB isIn
  apply decide_eq_false
  intro h
  simp [twosS] at h
theorem firstM_app {x r : List UInt8} {k o m n : Nat} (h0 : 0 < x.length) (h : firstM x = .ok k o m n) (hr : EndN r) : firstM (x ++ r) = .ok k o m n := by
  unfold firstM at h ⊢
  rw [byteAt_append x r h0]
  split at h
  · rename_i hd
    rw [if_pos hd]
    unfold numberM at h ⊢
    rw [runN_end digitI x r (by decide) hr, List.take_append_of_le_length (runN_le digitI x)]
    exact h
  · rename_i hd
    rw [if_neg hd]
    split at h
    · rename_i hl
      rw [if_pos hl]
      unfold nameM at h ⊢
      rw [runN_end withinI x r (by decide) hr, List.take_append_of_le_length (runN_le withinI x)]
      exact h
    · rename_i hl
      rw [if_neg hl]
      split at h
      · rename_i ht
        rw [if_pos ht]
        unfold textM at h ⊢
        rw [List.drop_append_of_le_length (by omega)]
        by_cases hc : x.length ≤ runN plainI (x.drop 1) + 1 ∨ byteAt x (runN plainI (x.drop 1) + 1) ≠ 34
        · rw [if_pos hc] at h; cases h
        · rw [if_neg hc] at h
          have h1 : ¬ x.length ≤ runN plainI (x.drop 1) + 1 := fun e => hc (.inl e)
          have h2 : ¬ byteAt x (runN plainI (x.drop 1) + 1) ≠ 34 := fun e => hc (.inr e)
          rw [runN_inside plainI (x.drop 1) r (by rw [List.length_drop]; omega), byteAt_append x r (by omega), if_neg]
          · exact h
          · rintro (e | e)
            · rw [List.length_append] at e; omega
            · exact h2 e
      · rename_i ht
        rw [if_neg ht]
        unfold signM at h ⊢
        rw [byteAt_append x r h0]
        by_cases h2 : 1 < x.length ∧ twoB (x.take 2) = true
        · rw [if_pos h2] at h
          rw [List.take_append_of_le_length (by omega), List.length_append, if_pos ⟨by omega, h2.2⟩]
          exact h
        · rw [if_neg h2] at h
          by_cases h1 : oneB (byteAt x 0) = true
          · rw [if_pos h1] at h ⊢
            rw [if_neg]
            · exact h
            · rintro ⟨e1, e2⟩
              by_cases hx2 : 1 < x.length
              · rw [List.take_append_of_le_length (by omega)] at e2
                exact h2 ⟨hx2, e2⟩
              have hx1 : x.length = 1 := by omega
              rcases hr with rfl | ⟨r', rfl⟩
              · rw [List.append_nil] at e1; omega
              · match x, hx1 with
                | [c], _ =>
                  rw [show ([c] ++ 10 :: r').take 2 = [c, 10] from rfl, two_newline] at e2
                  cases e2
          · rw [if_neg h1] at h; cases h
theorem remark_iff (l : List UInt8) : remarkB l = true ↔ [47, 47] <+: l := by
  unfold remarkB Lib.hasPrefix
  exact List.isPrefixOf_iff_prefix
theorem remark_take {l : List UInt8} (h : remarkB l = false) (q : Nat) : remarkB (l.take q) = false := by
  by_cases e : remarkB (l.take q) = true
  · rw [(remark_iff l).2 (((remark_iff _).1 e).trans (List.take_prefix q l))] at h; cases h
  · simpa using e
theorem remark_app {x r : List UInt8} (h0 : 0 < x.length) (h : remarkB x = false) (hr : EndN r) : remarkB (x ++ r) = false := by
  rcases hr with rfl | ⟨r', rfl⟩
  · rwa [List.append_nil]
  · unfold remarkB Lib.hasPrefix at h ⊢
    match x, h0 with
    | [a], _ => simp [List.isPrefixOf]
    | a :: b :: y, _ => simpa [List.isPrefixOf] using h
theorem firstM_text {l : List UInt8} {o m n : Nat} (h : firstM l = .ok 2 o m n) : byteAt l 0 = 34 ∧ byteAt l (m + 1) = 34 ∧ m + 1 < l.length ∧ o = 1 ∧ n = m + 2 := by
  unfold firstM at h
  split at h
  · unfold numberM at h
    split at h
    · injection h with h1; omega
    · cases h
  · split at h
    · unfold nameM at h
      split at h
      · injection h with h1; omega
      · split at h
        · cases h
        · injection h with h1; omega
    · split at h
      · rename_i ht
        unfold textM at h
        split at h
        · cases h
        · rename_i hc
          split at h
          · cases h
          · injection h with h1 h2 h3 h4
            rw [h3] at hc h4
            have a1 : ¬ l.length ≤ m + 1 := fun e => hc (.inl e)
            have a2 : byteAt l (m + 1) = 34 := by
              by_cases e : byteAt l (m + 1) = 34
              · exact e
              · exact absurd (.inr e) hc
            exact ⟨eq_of_beq ht, a2, by omega, h2.symm, h4.symm⟩
      · unfold signM at h
        split at h
        · injection h with h1; omega
        · split at h
          · injection h with h1; omega
          · cases h
theorem byteAt_some {l : List UInt8} {k : Nat} {c : UInt8} (hk : k < l.length) (h : byteAt l k = (c.toNat : Int)) : l[k]? = some c := by
  rw [List.getElem?_eq_getElem hk]
  unfold byteAt at h
  rw [List.getD, List.getElem?_eq_getElem hk] at h
  have : (l[k]).toNat = c.toNat := by simp at h; omega
  rw [UInt8.toNat_inj.1 this]
def lexeme (t : Tok) : List UInt8 := if t.kind = 2 then 34 :: (t.text ++ [34]) else t.text
theorem lexeme_of {l : List UInt8} {k o m n p : Nat} (h0 : 0 < l.length) (h : firstM l = .ok k o m n) : lexeme ⟨k, (l.drop o).take m, p⟩ = l.take n := by
  unfold lexeme
  by_cases hk : k = 2
  · subst hk
    obtain ⟨h1, h2, h3, rfl, rfl⟩ := firstM_text h
    rw [if_pos rfl]
    cases l with
    | nil => simp at h0
    | cons c r =>
      have a1 := byteAt_some (l := c :: r) (k := 0) (c := 34) (by simp) h1
      have a2 := byteAt_some (l := c :: r) (k := m + 1) (c := 34) h3 h2
      simp at a1
      subst a1
      rw [List.getElem?_cons_succ] at a2
      show 34 :: (r.take m ++ [34]) = (34 :: r).take (m + 1 + 1)
      rw [List.take_succ_cons, List.take_add_one, a2]; rfl
  · rw [if_neg hk]
    obtain ⟨_, _, _, hkn⟩ := firstM_like h0 h
    obtain ⟨rfl, rfl, _⟩ := hkn hk
    rfl
def apartL (K : List Tok) : List UInt8 := K.flatMap fun t => lexeme t ++ [10]
theorem apart_cons (t : Tok) (K : List Tok) : apartL (t :: K) = lexeme t ++ 10 :: apartL K := by unfold apartL; rw [List.flatMap_cons]; simp
theorem blank_nl (r : List UInt8) : blankI (byteAt (10 :: r) 0) = true := by rw [byteAt_zero]; decide
/-- Each token in a line of its own. -/
theorem lex_apart : ∀ (n : Nat) (l : List UInt8) (p : Nat) (K : List Tok), l.length ≤ n → lexFrom l p = .good K → K ≠ [] ∧ (apartL K.dropLast).length ≤ 2 * l.length ∧
    ∀ q, ∃ K', lexFrom (apartL K.dropLast) q = .good K' ∧ K'.map (fun t : Tok => (t.kind, t.text)) = K.map (fun t : Tok => (t.kind, t.text)) := by
  intro n
  induction n with
  | zero =>
    intro l p K h hl
    have : l = [] := List.eq_nil_of_length_eq_zero (by omega)
    subst this
    rw [lex_nil] at hl
    injection hl with hl
    subst hl
    exact ⟨by simp, by simp [apartL], fun q => ⟨[⟨0, [], q⟩], lex_nil, rfl⟩⟩
  | succ n ih =>
    intro l p K h
    refine lex_step (Mo := fun l p => l.length ≤ n + 1 → lexFrom l p = .good K → K ≠ [] ∧ (apartL K.dropLast).length ≤ 2 * l.length ∧
      ∀ q, ∃ K', lexFrom (apartL K.dropLast) q = .good K' ∧ K'.map (fun t : Tok => (t.kind, t.text)) = K.map (fun t : Tok => (t.kind, t.text))) l p ?_ ?_ ?_ ?_ ?_ h
    · intro _ _ hl
      rw [lex_nil] at hl
      injection hl with hl
      subst hl
      exact ⟨by simp, by simp [apartL], fun q => ⟨[⟨0, [], q⟩], lex_nil, rfl⟩⟩
    · intro h0 hb h hl
      rw [lex_blank h0 hb] at hl
      obtain ⟨a1, a2, a3⟩ := ih _ _ K (by rw [List.length_drop]; omega) hl
      rw [List.length_drop] at a2
      exact ⟨a1, by omega, a3⟩
    · intro h0 hb hr h1 h hl
      rw [lex_remark h0 hb hr] at hl
      obtain ⟨a1, a2, a3⟩ := ih _ _ K (by rw [List.length_drop]; omega) hl
      rw [List.length_drop] at a2
      exact ⟨a1, by omega, a3⟩
    · intro e h0 hb hr hf _ hl
      rw [lex_err h0 hb hr hf] at hl; cases hl
    · intro k o m n' h0 hb hr hf h hl
      obtain ⟨hn1, hn2, hom⟩ := firstM_ok h0 hf
      rw [lex_ok h0 hb hr hf] at hl
      cases hx : lexFrom (l.drop n') (p + n') with
      | bad i e' => rw [hx] at hl; cases hl
      | good J =>
        rw [hx] at hl
        injection hl with hl
        subst hl
        obtain ⟨a1, a2, a3⟩ := ih _ _ J (by rw [List.length_drop]; omega) hx
        rw [List.length_drop] at a2
        have hlen : (l.take n').length = n' := by rw [List.length_take]; omega
        have hsp : apartL (([(⟨k, (l.drop o).take m, p⟩ : Tok)] ++ J).dropLast) = l.take n' ++ 10 :: apartL J.dropLast := by
          rw [List.singleton_append, List.dropLast_cons_of_ne_nil a1, apart_cons, lexeme_of h0 hf]
        refine ⟨by simp, ?_, fun q => ?_⟩
        · rw [hsp, List.length_append, List.length_cons, hlen]; omega
        · obtain ⟨K', hK', hm⟩ := a3 (q + n' + 1)
          have hend : EndN (10 :: apartL J.dropLast) := .inr ⟨_, rfl⟩
          rw [hsp]
          generalize hrr : apartL J.dropLast = r at *
          have hf2 := firstM_take h0 hf (Nat.le_refl _)
          have hf3 : firstM (l.take n') = .ok k o m (l.take n').length := by rw [hlen]; exact hf2
          have hpos : 0 < (l.take n').length := by omega
          have hf4 := firstM_app hpos hf3 hend
          rw [hlen] at hf4
          have hb2 : blankI (byteAt (l.take n' ++ 10 :: r) 0) = false := by rw [byteAt_append _ _ hpos, byteAt_take l (by omega)]; exact hb
          have hr2 := remark_app hpos (remark_take hr n') hend
          refine ⟨(⟨k, (l.drop o).take m, q⟩ : Tok) :: K', ?_, ?_⟩
          · rw [lex_ok (by rw [List.length_append]; omega) hb2 hr2 hf4]
            have e1 : (l.take n' ++ 10 :: r).drop n' = 10 :: r := by
              have := List.drop_left (l₁ := l.take n') (l₂ := 10 :: r)
              rwa [hlen] at this
            have hon : o + m ≤ n' := by (have := (firstM_ok hpos hf3).2.2); omega
            have e2 : ((l.take n' ++ 10 :: r).drop o).take m = (l.drop o).take m := by
              rw [List.drop_append_of_le_length (by omega), List.take_append_of_le_length (by rw [List.length_drop]; omega), List.drop_take, List.take_take, Nat.min_eq_left (by omega)]
            rw [e1, e2, lex_blank (by simp) (blank_nl r), show List.drop 1 (10 :: r) = r from rfl, hK']; rfl
          · rw [List.singleton_append, List.map_cons, List.map_cons, hm]
/-- A source, and another one behind it. -/
theorem lex_join (b : List UInt8) : ∀ (n : Nat) (l : List UInt8) (p : Nat) (K : List Tok), l.length ≤ n → lexFrom l p = .good K → K ≠ [] ∧ lexFrom (l ++ 10 :: b) p = (lexFrom b (p + l.length + 1)).pre K.dropLast := by
  intro n
  induction n with
  | zero =>
    intro l p K h hl
    have : l = [] := List.eq_nil_of_length_eq_zero (by omega)
    subst this
    rw [lex_nil] at hl
    injection hl with hl
    subst hl
    refine ⟨by simp, ?_⟩
    rw [List.nil_append, lex_blank (by simp) (blank_nl b), show List.dropLast [(⟨0, [], p⟩ : Tok)] = [] from rfl, pre_nil]
    rfl
  | succ n ih =>
    intro l p K h
    refine lex_step (Mo := fun l p => l.length ≤ n + 1 → lexFrom l p = .good K → K ≠ [] ∧ lexFrom (l ++ 10 :: b) p = (lexFrom b (p + l.length + 1)).pre K.dropLast) l p ?_ ?_ ?_ ?_ ?_ h
    · intro _ _ hl
      rw [lex_nil] at hl
      injection hl with hl
      subst hl
      refine ⟨by simp, ?_⟩
      rw [List.nil_append, lex_blank (by simp) (blank_nl b), show List.dropLast [(⟨0, [], _⟩ : Tok)] = [] from rfl, pre_nil]
      rfl
    · intro h0 hb h hl
      rw [lex_blank h0 hb] at hl
      obtain ⟨a1, a2⟩ := ih _ _ K (by rw [List.length_drop]; omega) hl
      refine ⟨a1, ?_⟩
      rw [lex_blank (by rw [List.length_append]; omega) (by rw [byteAt_append _ _ h0]; exact hb), List.drop_append_of_le_length (by omega), a2, List.length_drop]
      congr 2
      omega
    · intro h0 hb hr h1 h hl
      rw [lex_remark h0 hb hr] at hl
      obtain ⟨a1, a2⟩ := ih _ _ K (by rw [List.length_drop]; omega) hl
      refine ⟨a1, ?_⟩
      have hle := runN_le lineI l
      have hrn : runN lineI (l ++ 10 :: b) = runN lineI l := runN_end lineI l _ (by decide) (.inr ⟨_, rfl⟩)
      have hr2 : remarkB (l ++ 10 :: b) = true := (remark_iff _).2 (((remark_iff _).1 hr).trans (List.prefix_append _ _))
      rw [lex_remark (by rw [List.length_append]; omega) (by rw [byteAt_append _ _ h0]; exact hb) hr2, hrn, List.drop_append_of_le_length hle, a2, List.length_drop]
      congr 2
      omega
    · intro e h0 hb hr hf _ hl
      rw [lex_err h0 hb hr hf] at hl; cases hl
    · intro k o m n' h0 hb hr hf h hl
      obtain ⟨hn1, hn2, hom⟩ := firstM_ok h0 hf
      rw [lex_ok h0 hb hr hf] at hl
      cases hx : lexFrom (l.drop n') (p + n') with
      | bad i e' => rw [hx] at hl; cases hl
      | good J =>
        rw [hx] at hl
        injection hl with hl
        subst hl
        obtain ⟨a1, a2⟩ := ih _ _ J (by rw [List.length_drop]; omega) hx
        refine ⟨by simp, ?_⟩
        have hend : EndN (10 :: b) := .inr ⟨_, rfl⟩
        rw [lex_ok (by rw [List.length_append]; omega) (by rw [byteAt_append _ _ h0]; exact hb) (remark_app h0 hr hend) (firstM_app h0 hf hend), List.drop_append_of_le_length hn2, a2,
          List.singleton_append, List.dropLast_cons_of_ne_nil a1, List.drop_append_of_le_length (by omega), List.take_append_of_le_length (by rw [List.length_drop]; omega), pre_pre, List.length_drop, List.singleton_append]
        congr 2
        omega
end Go.Proofs.YtjhhlmonomeofaaGreatDoor
/- Two sources, one behind the other. -/
namespace Go.Proofs.YtjhhlmonomeofaaGreatDoor
open Go.RowKit
set_option linter.unusedVariables false
set_option linter.unusedSimpArgs false
/-- Two readers without an error, up to the end of the first one's tokens. -/
structure Rw (d m b : Nat) (P : List NodeM) (s s' : PS) : Prop where
  e : s.e = 0
  e' : s'.e = 0
  deep : s'.deep = s.deep
  i : s'.i = s.i + d
  nodes : s'.nodes.map zlN = P ++ s.nodes.map (shN b)
  le : s.i ≤ m
section
variable {src src' : List UInt8} {ts ts' : List Tok} {d m b : Nat} {P : List NodeM}
theorem Rw.rl {s s' : PS} (h : Rw d m b P s s') (hi : s.i < m) : Rl ts ts' d m b P s s' := ⟨by rw [h.e, h.e'], h.deep, fun _ => h.i, fun _ => h.nodes, fun he => absurd h.e he, fun _ => hi⟩
theorem end_tok {s : PS} (hl : m + 1 = ts.length) (hz : (ts.getD m tok0).kind = 0) (hE : EO ts m s) (h0 : s.e = 0) : (pTok ts s).kind = 0 := by
  rcases hE.esc with ⟨_, hi⟩ | ⟨h1, _⟩
  · have := hE.ok.room
    have e : s.i = m := by omega
    unfold pTok
    rw [e]; exact hz
  · exact absurd h0 h1
theorem block_no (hl : m + 1 = ts.length) (hz : (ts.getD m tok0).kind = 0) {n : Nat} {s : PS} {q : List Nat × PS} (hE : EO ts m s) (h : run src ts n .block s = some q) : q.2.e ≠ 0 := by
  by_cases h0 : s.e = 0
  · have hk := end_tok hl hz hE h0
    cases n with
    | zero => simp [run] at h
    | succ n =>
      simp only [run] at h
      rw [if_neg (fun e => (pIs_kind e).2.1 hk)] at h
      simp only [Option.some.injEq] at h
      subst h
      exact fail_e 20 (by decide) _
  · rw [((run_ext _ _ _ _ h).err h0).1]; exact h0
theorem must_ok {x : List UInt8} {s : PS} (h : (pMust ts x s).e = 0) : pIs ts x s = true := by
  by_cases hp : pIs ts x s = true
  · exact hp
  · unfold pMust at h
    rw [if_neg hp] at h
    exact absurd h (fail_e 20 (by decide) _)
theorem func_w (hm : Mt ts ts' d m) (hP : P.length = b) (ht : ToksOk ts) (hl : m + 1 = ts.length) (hz : (ts.getD m tok0).kind = 0) {n : Nat} {s s' : PS} {fr : FuncM × PS} (h : runFunc src ts n s = some fr) (h0 : fr.2.e = 0) (ho : PSOk ts s) (hs : Rl ts ts' d m b P s s') :
    ∃ fr', runFunc src' ts' n s' = some fr' ∧ PSOk ts fr.2 ∧ Rw d m b P fr.2 fr'.2 ∧ FR b fr.1 fr'.1 := by
  simp only [runFunc, Option.bind_eq_some_iff, Option.map_eq_some_iff] at h
  obtain ⟨p, hp, q, hq, rfl⟩ := h
  have h0 : q.2.e = 0 := h0
  rcases head_rel2 hm ht (.inr ⟨ho, hs⟩) hp with hE | ⟨p', hp', hn, h1, ho4, hl4⟩
  · exact absurd h0 (block_no hl hz (type_eo ht hE) hq)
  · obtain ⟨hty, hs5⟩ := type_rel hm ht ho4 hl4
    rcases hs5 with hE | ⟨ho5, hl5⟩
    · exact absurd h0 (block_no hl hz hE hq)
    · generalize hs5 : (if pIs ts [123] (pMust ts [41] p.2) = true then pMust ts [41] p.2 else pTyped ts (pMust ts [41] p.2)) = s5 at *
      generalize hs5' : (if pIs ts' [123] (pMust ts' [41] p'.2) = true then pMust ts' [41] p'.2 else pTyped ts' (pMust ts' [41] p'.2)) = s5' at *
      have hq0 := hq
      cases n with
      | zero => simp [run] at hq
      | succ n =>
        simp only [run] at hq
        by_cases i1 : pIs ts [123] s5 = true
        · rw [if_pos i1] at hq
          simp only [Option.map_eq_some_iff] at hq
          obtain ⟨u, hu, rfl⟩ := hq
          have hue : (pMust ts [125] u.2).e = 0 := h0
          have hip := must_ok hue
          rcases S2.must hm (S2.downIs (.inr ⟨ho5, hl5⟩) ht i1) ht [123] with hE | ⟨ho6, hl6⟩
          · exact absurd (end_tok hl hz (run_eo ht _ _ _ _ hu hE) (pIs_kind hip).1) (pIs_kind hip).2.1
          · rcases run_rel (src' := src') hm hP ht n _ _ _ hu (.stmts []) _ (TR.stmts [] [] (fun _ => rfl)) ho6 hl6 with hE | ⟨u', hu', a, c, e⟩
            · exact absurd (end_tok hl hz hE (pIs_kind hip).1) (pIs_kind hip).2.1
            · have hu0 := (pIs_kind hip).1
              have hip' : pIs ts' [125] u'.2 = true := by rw [c.is hm]; exact hip
              have e1 : pMust ts [125] u.2 = pGo u.2 := by unfold pMust; rw [if_pos hip]
              have e2 : pMust ts' [125] u'.2 = pGo u'.2 := by unfold pMust; rw [if_pos hip']
              have hlen := congrArg List.length (c.nodes hu0)
              simp only [List.length_map, List.length_append] at hlen
              have hru' : run src' ts' (n + 1) .block s5' = some (pPut 18 (pLine src' ts' s5') 0 [] u'.1 (pUp (pMust ts' [125] u'.2))) := by
                simp only [run]; rw [hl5.is hm, if_pos i1, hu']; rfl
              refine ⟨(⟨pName ts' (pMust ts' [102, 110] s'), pLine src' ts' s', p'.1, (if pIs ts' [123] (pMust ts' [41] p'.2) = true then 0 else pType ts' (pMust ts' [41] p'.2)), (pPut 18 (pLine src' ts' s5') 0 [] u'.1 (pUp (pMust ts' [125] u'.2))).1.headD 0⟩, (pPut 18 (pLine src' ts' s5') 0 [] u'.1 (pUp (pMust ts' [125] u'.2))).2), ?_, ?_, ?_, ⟨hn, h1, hty, ?_⟩⟩
              · simp only [runFunc]
                rw [hp']
                simp only [Option.bind_some]
                rw [hs5', hru']
                rfl
              · rw [e1]
                exact ((a.goIs ht hip).up).put ..
              · rw [e1, e2]
                refine ⟨hu0, by show u'.2.e = 0; rw [c.e]; exact hu0, by show u'.2.deep - 1 = u.2.deep - 1; rw [c.deep], by show u'.2.i + 1 = u.2.i + 1 + d; have := c.i hu0; omega, ?_, by show u.2.i + 1 ≤ m; have := c.lt hu0; omega⟩
                show (u'.2.nodes ++ [_]).map zlN = P ++ (u.2.nodes ++ [_]).map (shN b)
                rw [List.map_append, List.map_append, c.nodes hu0, List.append_assoc, e hu0]
                rfl
              · rw [e1, e2]
                show u'.2.nodes.length = u.2.nodes.length + b
                rw [hlen, hP, Nat.add_comm]
        · rw [if_neg i1] at hq
          simp only [Option.some.injEq] at hq
          subst hq
          exact absurd h0 (fail_e 20 (by decide) _)
/-- Readers that come to the end of the first one's tokens. -/
theorem fns_w (hm : Mt ts ts' d m) (hP : P.length = b) (ht : ToksOk ts) (hl : m + 1 = ts.length) (hz : (ts.getD m tok0).kind = 0) (hnz : ∀ i, i < m → (ts.getD i tok0).kind ≠ 0) : ∀ (n : Nat) (acc acc' : List FuncM) (s s' : PS) (r : List FuncM × PS), runFns src ts n acc s = some r → r.2.e = 0 → PSOk ts s → Rw d m b P s s' →
    ∃ fs gs s2, r.1 = acc ++ fs ∧ Rw d m b P r.2 s2 ∧ r.2.i = m ∧ fs.length = gs.length ∧ (∀ (i : Nat) (f g : FuncM), fs[i]? = some f → gs[i]? = some g → FR b f g) ∧ ∀ z, RunsL src' ts' (acc' ++ gs) s2 z → RunsL src' ts' acc' s' z
  | 0, _, _, _, _, _, h, _, _, _ => by simp [runFns] at h
  | n + 1, acc, acc', s, s', r, h, hr, ho, hw => by
    simp only [runFns] at h
    rw [if_neg (by simp [hw.e])] at h
    by_cases hk : pKind ts 0 s = true
    · rw [if_pos hk] at h
      simp only [Option.some.injEq] at h
      subst h
      refine ⟨[], [], s', by simp, hw, ?_, rfl, fun i f g h => by simp at h, fun z hz => by simpa using hz⟩
      by_cases hi : s.i < m
      · exact absurd (pKind_kind hk).2 (hnz _ hi)
      · have := hw.le; show s.i = m; omega
    · rw [if_neg hk] at h
      simp only [Option.bind_eq_some_iff] at h
      obtain ⟨f, hf, h⟩ := h
      have hi : s.i < m := by
        by_cases hi : s.i < m
        · exact hi
        · have e : s.i = m := by have := hw.le; omega
          refine absurd ?_ hk
          unfold pKind pTok
          rw [e, hz, hw.e]; rfl
      have hf0 : f.2.e = 0 := (fns_ext _ _ _ _ h).e0 hr
      obtain ⟨f', hf', a, c, hfr⟩ := func_w (src' := src') hm hP ht hl hz hf hf0 ho (hw.rl hi)
      obtain ⟨fs, gs, s2, e1, e2, e3, e4, e5, e6⟩ := fns_w hm hP ht hl hz hnz n _ (acc' ++ [f'.1]) _ f'.2 _ h hr a c
      refine ⟨f.1 :: fs, f'.1 :: gs, s2, by rw [e1]; simp, e2, e3, by simp [e4], fun i x y hx hy => ?_, fun z hz2 => ?_⟩
      · cases i with
        | zero => simp at hx hy; subst hx; subst hy; exact hfr
        | succ i => exact e5 i x y (by simpa using hx) (by simpa using hy)
      · have hk' : pKind ts' 0 s' = false := by rw [(hw.rl (ts := ts) (ts' := ts') hi).kind hm]; simpa using hk
        exact l_more hw.e' hk' ⟨n, hf'⟩ (e6 z (by simpa using hz2))
theorem params_deep : ∀ (n : Nat) (acc : List (List UInt8 × Nat)) (s : PS) (p : List (List UInt8 × Nat) × PS), runParams ts n acc s = some p → p.2.deep = s.deep
  | 0, _, _, _, h => by simp [runParams] at h
  | n + 1, acc, s, p, h => by
    have ht : ∀ s, (pTyped ts s).deep = s.deep := fun s => by unfold pTyped; split; exact deep_fail 20 s; rfl
    simp only [runParams] at h
    split at h
    · have := params_deep n _ _ _ h
      rw [this, deep_go, ht, deep_named]
    · simp only [Option.some.injEq] at h
      subst h
      show (pTyped ts (pNamed ts s)).deep = s.deep
      rw [ht, deep_named]
theorem fns_deep : ∀ (n : Nat) (acc : List FuncM) (s : PS) (r : List FuncM × PS), runFns src ts n acc s = some r → r.2.deep = s.deep
  | 0, _, _, _, h => by simp [runFns] at h
  | n + 1, acc, s, r, h => by
    simp only [runFns] at h
    split at h
    · simp only [Option.some.injEq] at h; subst h; rfl
    · split at h
      · simp only [Option.some.injEq] at h; subst h; rfl
      · simp only [Option.bind_eq_some_iff] at h
        obtain ⟨f, hf, h⟩ := h
        rw [fns_deep n _ _ _ h]
        simp only [runFunc, Option.bind_eq_some_iff, Option.map_eq_some_iff] at hf
        obtain ⟨p, hp, q, hq, rfl⟩ := hf
        have ht : ∀ s, (pTyped ts s).deep = s.deep := fun s => by unfold pTyped; split; exact deep_fail 20 s; rfl
        have h1 := run_deep _ _ _ _ hq
        have h2 : p.2.deep = s.deep := by
          split at hp
          · rw [params_deep _ _ _ _ hp, deep_must, deep_named, deep_must]
          · simp only [Option.some.injEq] at hp
            subst hp
            show (pMust ts [40] (pNamed ts (pMust ts [102, 110] s))).deep = _
            rw [deep_must, deep_named, deep_must]
        show q.2.deep = s.deep
        rw [h1]
        split
        · rw [deep_must, h2]
        · rw [ht, deep_must, h2]
end
/-- What a good source's tokens are, and how it is read. -/
theorem good_of {a : List UInt8} {ns : List NodeM} {fs : List FuncM} (h : parseM a = some (.good ns fs)) : ∃ ts q, lexM a = .good ts ∧ runFns a ts (parseFuel ts) [] s00 = some q ∧ q.2.e = 0 ∧ ns = q.2.nodes ∧ fs = q.1 := by
  unfold parseM at h
  cases hl : lexM a with
  | bad p e => rw [hl] at h; simp at h
  | good ts =>
    rw [hl] at h
    simp only [parseT, Option.map_eq_some_iff] at h
    obtain ⟨q, hq, h⟩ := h
    split at h
    · cases h
    · rename_i he
      split at h
      · cases h
      · injection h with h1 h2
        exact ⟨ts, q, rfl, hq, by omega, h1.symm, h2.symm⟩
theorem toks_end {a : List UInt8} {ts : List Tok} (h : lexM a = .good ts) : ∃ K q, ts = K ++ [⟨0, [], q⟩] ∧ ∀ t ∈ K, t.kind ≠ 0 := by
  unfold lexM at h
  split at h
  · cases h
  · exact (lex_shape a.length a 0 600 ts (Nat.le_refl _) (by omega) h).2.2
theorem getD_app {K J : List Tok} {i : Nat} (h : i < K.length) : (K ++ J).getD i tok0 = K.getD i tok0 := by
  rw [List.getD, List.getD, List.getElem?_append_left h]
theorem getD_app2 {K J : List Tok} {i : Nat} : (K ++ J).getD (i + K.length) tok0 = J.getD i tok0 := by
  rw [List.getD, List.getD, List.getElem?_append_right (by omega), Nat.add_sub_cancel]
theorem start_ok {ts : List Tok} (ht : ToksOk ts) : PSOk ts s00 := ⟨ht.pos, by decide, fun _ => by decide, by decide, by decide⟩
/-- Two sources, one behind the other, are both. -/
theorem parse_join {a b : List UInt8} {nsa nsb : List NodeM} {fsa fsb : List FuncM} (ha : parseM a = some (.good nsa fsa)) (hb : parseM b = some (.good nsb fsb)) (hlen : (a ++ 10 :: b).length ≤ 600) :
    ∃ ns fs gs, ns.map zlN = nsa.map (shN 0) ++ nsb.map (shN nsa.length) ∧ fsa.length = fs.length ∧ fsb.length = gs.length ∧ (∀ (i : Nat) (f g : FuncM), fsa[i]? = some f → fs[i]? = some g → FR 0 f g) ∧ (∀ (i : Nat) (f g : FuncM), fsb[i]? = some f → gs[i]? = some g → FR nsa.length f g) ∧
      parseM (a ++ 10 :: b) = some (if 300 < ns.length ∨ 6 < (fs ++ gs).length ∨ (fs ++ gs).any (fun f => decide (3 < f.params.length)) = true then .bad 0 4 else .good ns (fs ++ gs)) := by
  obtain ⟨ta, qa, la, ra, ea, rfl, rfl⟩ := good_of ha
  obtain ⟨tb, qb, lb, rb, eb, rfl, rfl⟩ := good_of hb
  obtain ⟨K, p, hK, hnz⟩ := toks_end la
  have hta := lexM_toks la
  have htb := lexM_toks lb
  have l1 : lexFrom a 0 = .good ta := by unfold lexM at la; split at la; cases la; exact la
  have l2 : lexFrom b 0 = .good tb := by unfold lexM at lb; split at lb; cases lb; exact lb
  have hdl : ta.dropLast = K := by rw [hK]; simp
  have hj := (lex_join b a.length a 0 ta (Nat.le_refl _) l1).2
  rw [hdl, Nat.zero_add] at hj
  have hu := lex_up (a.length + 1) b.length b 0 (Nat.le_refl _)
  rw [Nat.zero_add] at hu
  rw [hu, l2] at hj
  have hl' : lexM (a ++ 10 :: b) = .good (K ++ tb.map (Tok.up (a.length + 1))) := by
    unfold lexM
    rw [if_neg (by omega), hj]; rfl
  have hlen2 : K.length + 1 = ta.length := by rw [hK]; simp
  have hz : (ta.getD K.length tok0).kind = 0 := by rw [hK, List.getD, List.getElem?_append_right (Nat.le_refl _), Nat.sub_self]; rfl
  have hm1 : Mt ta (K ++ tb.map (Tok.up (a.length + 1))) 0 K.length := fun i hi => by
    have e : i + 0 = i := rfl
    rw [e, getD_app hi, hK, getD_app hi]
    exact ⟨rfl, rfl⟩
  have hm2 : Mt tb (K ++ tb.map (Tok.up (a.length + 1))) K.length tb.length := fun i hi => by
    rw [getD_app2, List.getD, List.getD, List.getElem?_map, List.getElem?_eq_getElem hi]
    exact ⟨rfl, rfl⟩
  have hnz2 : ∀ i, i < K.length → (ta.getD i tok0).kind ≠ 0 := fun i hi => by
    rw [hK, getD_app hi, List.getD, List.getElem?_eq_getElem hi]
    exact hnz _ (List.getElem_mem hi)
  obtain ⟨fs, gs0, s2, e1, e2, e3, e4, e5, e6⟩ := fns_w (src' := a ++ 10 :: b) (P := []) (b := 0) hm1 rfl hta hlen2 hz hnz2 _ [] [] s00 s00 qa ra ea (start_ok hta) ⟨rfl, rfl, rfl, rfl, rfl, Nat.zero_le _⟩
  have hd := fns_deep _ _ _ _ ra
  have hnl := congrArg List.length e2.nodes
  simp only [List.length_map, List.nil_append] at hnl
  obtain ⟨fs2, gs2, s3, c1, c2, c3, c4, c5⟩ := fns_all (src' := a ++ 10 :: b) (P := s2.nodes.map zlN) (b := qa.2.nodes.length) hm2 (by simp [hnl]) htb _ [] gs0 s00 s2 qb rb eb (start_ok htb)
    ⟨e2.e', by rw [e2.deep, hd], fun _ => by rw [e2.i, e3]; simp [s00], fun _ => by simp [s00], fun h => absurd rfl h, fun _ => htb.pos⟩
  rw [List.nil_append] at e1 c1
  have hR := e6 (gs0 ++ gs2, s3) ⟨_, by simpa using c2⟩
  refine ⟨s3.nodes, gs0, gs2, by rw [c3.nodes eb, e2.nodes]; simp, by rw [e1, e4], by rw [c1, c4], fun i f g hf hg => e5 i f g (by rw [← e1]; exact hf) hg, fun i f g hf hg => c5 i f g (by rw [← c1]; exact hf) hg, ?_⟩
  have h := parse_of hl' hR
  rw [h, if_neg (by show ¬ s3.e ≠ 0; rw [c3.e]; omega)]
end Go.Proofs.YtjhhlmonomeofaaGreatDoor
/- A source whose tokens stand apart; a source that is refused, and more behind it. -/
namespace Go.Proofs.YtjhhlmonomeofaaGreatDoor
open Go.RowKit
set_option linter.unusedVariables false
set_option linter.unusedSimpArgs false
theorem shN_zero (n : NodeM) : shN 0 n = zlN n := by
  unfold shN zlN
  simp
/-- Each token in a line of its own. -/
theorem parse_apart {l : List UInt8} {ns : List NodeM} {fs : List FuncM} {ts : List Tok} (ha : parseM l = some (.good ns fs)) (hl : lexM l = .good ts) : (apartL ts.dropLast).length ≤ 1200 ∧
    (600 < (apartL ts.dropLast).length → parseM (apartL ts.dropLast) = some (.bad 0 4)) ∧
    ((apartL ts.dropLast).length ≤ 600 → ∃ us gs, parseM (apartL ts.dropLast) = some (.good us gs) ∧ us.map zlN = ns.map zlN ∧ fs.length = gs.length ∧ ∀ (i : Nat) (f g : FuncM), fs[i]? = some f → gs[i]? = some g → FR 0 f g) := by
  obtain ⟨ts', q, hl', hr, he, rfl, rfl⟩ := good_of ha
  rw [hl] at hl'
  injection hl' with hl'
  subst hl'
  have l1 : lexFrom l 0 = .good ts ∧ l.length ≤ 600 := by
    unfold lexM at hl
    split at hl
    · cases hl
    · exact ⟨hl, by omega⟩
  obtain ⟨a1, a2, a3⟩ := lex_apart l.length l 0 ts (Nat.le_refl _) l1.1
  refine ⟨by omega, fun h6 => ?_, fun h6 => ?_⟩
  · unfold parseM
    rw [lex_big h6]
  · obtain ⟨K, hK, hkt⟩ := a3 0
    have hkl : K.length = ts.length := by
      have := congrArg List.length hkt
      simpa using this
    have ht := lexM_toks hl
    have hm : Mt ts K 0 ts.length := fun i hi => by
      have e : i + 0 = i := rfl
      rw [e, List.getD, List.getD, List.getElem?_eq_getElem hi, List.getElem?_eq_getElem (by omega : i < K.length)]
      have := congrArg (fun (l : List (Nat × List UInt8)) => l[i]?) hkt
      simp only [List.getElem?_map, List.getElem?_eq_getElem hi, List.getElem?_eq_getElem (by omega : i < K.length), Option.map_some, Option.some.injEq, Prod.mk.injEq] at this
      exact this
    have hlx : lexM (apartL ts.dropLast) = .good K := by
      unfold lexM
      rw [if_neg (by omega), hK]
    obtain ⟨fs2, gs, s2, e1, e2, e3, e4, e5⟩ := fns_all (src' := apartL ts.dropLast) (P := []) (b := 0) hm rfl ht _ [] [] s00 s00 q hr he (start_ok ht) ⟨rfl, rfl, fun _ => rfl, fun _ => rfl, fun h => absurd rfl h, fun _ => ht.pos⟩
    rw [List.nil_append] at e1
    have hp := parse_of hlx ⟨_, by simpa using e2⟩
    have hn := e3.nodes he
    rw [List.nil_append] at hn
    have hnl := congrArg List.length hn
    simp only [List.length_map] at hnl
    have hsm := parse_small ha
    have hs1 : q.2.nodes.length ≤ 300 := hsm.1
    have hs2 : q.1.length ≤ 6 := hsm.2.1
    have hs3 : ∀ f ∈ q.1, f.params.length ≤ 3 := hsm.2.2
    have hany : ¬ (300 < s2.nodes.length ∨ 6 < gs.length ∨ gs.any (fun f => decide (3 < f.params.length)) = true) := by
      rintro (h | h | h)
      · omega
      · rw [e1] at hs2; omega
      · rw [List.any_eq_true] at h
        obtain ⟨g, hg, hgp⟩ := h
        obtain ⟨i, hi, hgi⟩ := List.getElem_of_mem hg
        have hf : fs2[i]? = some (fs2[i]'(by omega)) := List.getElem?_eq_getElem (by omega)
        have hfr := e5 i _ g hf (by rw [← hgi]; exact List.getElem?_eq_getElem hi)
        have := hs3 (fs2[i]'(by omega)) (by rw [e1]; exact List.getElem_mem _)
        simp only [decide_eq_true_eq] at hgp
        rw [hfr.params] at hgp
        omega
    refine ⟨s2.nodes, gs, ?_, ?_, by rw [e1, e4], fun i f g hf hg => e5 i f g (by rw [← e1]; exact hf) hg⟩
    · rw [hp, if_neg (by show ¬ s2.e ≠ 0; rw [e3.e]; omega), if_neg hany]
    · rw [hn]
      exact List.map_congr_left (fun n _ => shN_zero n)
/-- What a reader's error is. -/
structure E3 (s : PS) : Prop where
  h : s.e = 0 ∨ s.e = 20 ∨ s.e = 21
section
variable {src : List UInt8} {ts : List Tok} {s : PS}
theorem E3.fail (h : E3 s) (k : Nat) (hk : k = 20 ∨ k = 21) : E3 (pFail ts k s) := by
  unfold pFail
  split
  · exact ⟨.inr hk⟩
  · exact h
theorem E3.go (h : E3 s) : E3 (pGo s) := ⟨h.h⟩
theorem E3.up (h : E3 s) : E3 (pUp s) := ⟨h.h⟩
theorem E3.must (h : E3 s) (x : List UInt8) : E3 (pMust ts x s) := by
  unfold pMust; split
  · exact h.go
  · exact h.fail _ (.inl rfl)
theorem E3.named (h : E3 s) : E3 (pNamed ts s) := by
  unfold pNamed; split
  · exact h.go
  · exact h.fail _ (.inl rfl)
theorem E3.typed (h : E3 s) : E3 (pTyped ts s) := by
  unfold pTyped; split
  · exact h.fail _ (.inl rfl)
  · exact h.go
theorem E3.down (h : E3 s) : E3 (pDown ts s) := by
  unfold pDown
  simp only
  split
  · exact ⟨(h.fail (ts := ts) 21 (.inr rfl)).h⟩
  · exact ⟨h.h⟩
theorem E3.put (h : E3 s) (kind line n : Nat) (name : List UInt8) (l : List Nat) : E3 (pPut kind line n name l s).2 := ⟨h.h⟩
theorem run_e3 : ∀ (n : Nat) (k : Task) (s : PS) (r : List Nat × PS), run src ts n k s = some r → E3 s → E3 r.2 := by
  intro n
  induction n with
  | zero => intro k s r h; simp [run] at h
  | succ n ih =>
    intro k s r h hs
    cases k <;> simp only [run] at h <;>
      (repeat' split at h) <;>
      (try simp only [Option.map_eq_some_iff, Option.bind_eq_some_iff, Option.some.injEq] at h) <;>
      (try (obtain ⟨q1, h1, h⟩ := h)) <;>
      (repeat' split at h) <;>
      (try simp only [Option.map_eq_some_iff, Option.bind_eq_some_iff, Option.some.injEq] at h) <;>
      (try (obtain ⟨q2, h2, h⟩ := h)) <;>
      (repeat' split at h) <;>
      (try simp only [Option.map_eq_some_iff, Option.bind_eq_some_iff, Option.some.injEq] at h) <;>
      (try (obtain ⟨q3, h3, h⟩ := h)) <;>
      (try subst h) <;>
      (try subst h1) <;>
      (repeat (first
        | assumption
        | apply E3.put
        | apply E3.up
        | apply E3.must
        | apply E3.named
        | apply E3.typed
        | apply E3.go
        | apply E3.down
        | (refine E3.fail ?_ 20 (.inl rfl))
        | (refine ih _ _ _ (by assumption) ?_)
        | dsimp only))
theorem params_e3 : ∀ (n : Nat) (acc : List (List UInt8 × Nat)) (s : PS) (p : List (List UInt8 × Nat) × PS), runParams ts n acc s = some p → E3 s → E3 p.2
  | 0, _, _, _, h, _ => by simp [runParams] at h
  | n + 1, acc, s, p, h, he => by
    simp only [runParams] at h
    split at h
    · exact params_e3 n _ _ _ h (he.named.typed.go)
    · simp only [Option.some.injEq] at h
      subst h
      exact he.named.typed
theorem fns_e3 : ∀ (n : Nat) (acc : List FuncM) (s : PS) (r : List FuncM × PS), runFns src ts n acc s = some r → E3 s → E3 r.2
  | 0, _, _, _, h, _ => by simp [runFns] at h
  | n + 1, acc, s, r, h, he => by
    simp only [runFns] at h
    split at h
    · simp only [Option.some.injEq] at h; subst h; exact he
    · split at h
      · simp only [Option.some.injEq] at h; subst h; exact he
      · simp only [Option.bind_eq_some_iff] at h
        obtain ⟨f, hf, h⟩ := h
        refine fns_e3 n _ _ _ h ?_
        simp only [runFunc, Option.bind_eq_some_iff, Option.map_eq_some_iff] at hf
        obtain ⟨p, hp, q, hq, rfl⟩ := hf
        have h2 : E3 p.2 := by
          split at hp
          · exact params_e3 _ _ _ _ hp (((he.must _).named).must _)
          · simp only [Option.some.injEq] at hp
            subst hp
            exact ((he.must _).named).must _
        refine run_e3 _ _ _ _ hq ?_
        split
        · exact h2.must _
        · exact (h2.must _).typed
end
/-- A source that is refused, though its tokens are some. -/
theorem parse_refused {l : List UInt8} {p e : Nat} {ts : List Tok} (ha : parseM l = some (.bad p e)) (hl : lexM l = .good ts) :
    (e = 4 ∧ p = 0) ∨ ((e = 20 ∨ e = 21) ∧ (∃ j, j < ts.length ∧ (ts.getD j tok0).place = p) ∧
      (p ≠ l.length → ∀ more ts', lexM (l ++ 10 :: more) = .good ts' → parseM (l ++ 10 :: more) = some (.bad p e))) := by
  have ht := lexM_toks hl
  have ha' := ha
  unfold parseM at ha
  rw [hl] at ha
  simp only [parseT, Option.map_eq_some_iff] at ha
  obtain ⟨q, hr, ha⟩ := ha
  by_cases he : q.2.e ≠ 0
  case neg =>
    rw [if_neg he] at ha
    split at ha
    · injection ha with h1 h2
      exact .inl ⟨h2.symm, h1.symm⟩
    · cases ha
  case pos =>
    rw [if_pos he] at ha
    injection ha with h1 h2
    subst h1; subst h2
    have hr : runFns l ts (parseFuel ts) [] s00 = some q := hr
    refine .inr ⟨?_, ?_, fun hp more ts' hl' => ?_⟩
    · rcases (fns_e3 _ _ _ _ hr ⟨.inl rfl⟩).h with h | h | h
      · exact absurd h he
      · exact .inl h
      · exact .inr h
    · have hE := fns_eo (m := 0) ht _ _ _ _ hr ⟨start_ok ht, .inl ⟨rfl, Nat.zero_le _⟩⟩
      rcases hE.esc with ⟨h, _⟩ | ⟨_, j, _, h2, h3⟩
      · exact absurd h he
      · exact ⟨j, h2, h3.symm⟩
    · obtain ⟨K, pe, hK, hnz⟩ := toks_end hl
      obtain ⟨hl6, hpl⟩ := lex_placed hl
      have hend := hpl.end_.2
      have hlen2 : K.length + 1 = ts.length := by rw [hK]; simp
      have hpe : (ts.getD K.length tok0).place = l.length := by
        rw [List.getD, show K.length = ts.length - 1 by omega, hend]; rfl
      have l1 : lexFrom l 0 = .good ts := by unfold lexM at hl; split at hl; cases hl; exact hl
      have hj := (lex_join more l.length l 0 ts (Nat.le_refl _) l1).2
      have hdl : ts.dropLast = K := by rw [hK]; simp
      rw [hdl] at hj
      have hK' : ∃ J, ts' = K ++ J := by
        have h9 := hl'
        unfold lexM at h9
        split at h9
        · cases h9
        · rw [hj] at h9
          cases hx : lexFrom more (0 + l.length + 1) with
          | bad i e => rw [hx] at h9; cases h9
          | good J => rw [hx] at h9; injection h9 with h9; exact ⟨J, h9.symm⟩
      obtain ⟨J, rfl⟩ := hK'
      have hm : Mt ts (K ++ J) 0 K.length := fun i hi => by
        have e : i + 0 = i := rfl
        rw [e, getD_app hi, hK, getD_app hi]
        exact ⟨rfl, rfl⟩
      have hnoE : EO ts K.length q.2 → False := fun hE => by
        rcases hE.esc with ⟨h, _⟩ | ⟨_, j, h1, h2, h3⟩
        · exact he h
        · have e : j = K.length := by omega
          rw [e, hpe] at h3
          exact hp h3
      by_cases hk0 : 0 < K.length
      case neg => exact (hnoE (fns_eo ht _ _ _ _ hr ⟨start_ok ht, .inl ⟨rfl, by omega⟩⟩)).elim
      case pos =>
        rcases fns_err (src' := l ++ 10 :: more) (P := []) (b := 0) hm rfl ht _ [] [] s00 s00 q hr he (start_ok ht) ⟨rfl, rfl, fun _ => rfl, fun _ => rfl, fun h => absurd rfl h, fun _ => hk0⟩ with hE | ⟨q', hq', hrl⟩
        · exact (hnoE hE).elim
        · have h9 := parse_of hl' ⟨_, hq'⟩
          obtain ⟨j, hj1, hj2, hj3⟩ := hrl.place he
          have hpl2 : q'.2.place = q.2.place := by
            have e : j + 0 = j := rfl
            rw [hj3, hj2, e, getD_app hj1, hK, getD_app hj1]
          rw [h9, if_pos (by rw [hrl.e]; exact he), hrl.e, hpl2]
end Go.Proofs.YtjhhlmonomeofaaGreatDoor
