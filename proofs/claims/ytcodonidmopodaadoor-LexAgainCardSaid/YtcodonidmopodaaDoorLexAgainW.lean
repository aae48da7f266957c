/- LexAgain: the tokens' texts, a blank ahead of each, have the same tokens. -/
import Derived.Test.YtcodonidmopodaaDoorLexRefusesW
import Derived.Test.YtcodonidmopodaaDoorLexPlacesW
namespace Go.Proofs.YtcodonidmopodaaDoor
open Go.RowKit
set_option linter.unusedVariables false
set_option linter.unusedSimpArgs false

def spell (t : Tok) : List UInt8 := if t.kind = 2 then 32 :: 34 :: (t.text ++ [34]) else 32 :: t.text
def again (K : List Tok) : List UInt8 := K.flatMap spell
def EndB (r : List UInt8) : Prop := r = [] ∨ ∃ r', r = 32 :: r'
theorem again_end (K : List Tok) : EndB (again K) := by
  cases K with
  | nil => exact .inl rfl
  | cons t K =>
    refine .inr ?_
    unfold again spell
    rw [List.flatMap_cons]
    split
    · exact ⟨_, rfl⟩
    · exact ⟨_, rfl⟩
theorem runN_inside (q : Int → Bool) (x r : List UInt8) (h : runN q x < x.length) : runN q (x ++ r) = runN q x := by
  induction x with
  | nil => simp at h
  | cons a x ih =>
    unfold runN at ih h ⊢
    rw [List.cons_append, List.takeWhile_cons]
    rw [List.takeWhile_cons] at h ⊢
    by_cases ha : q a.toNat = true
    · rw [if_pos ha] at h ⊢
      rw [if_pos ha, List.length_cons, List.length_cons]
      rw [List.length_cons, List.length_cons] at h
      rw [ih (by omega)]
    · rw [if_neg ha, if_neg ha]
theorem runN_whole (q : Int → Bool) (x : List UInt8) (h : ¬ runN q x < x.length) : ∀ b ∈ x, q b.toNat = true := by
  induction x with
  | nil => intro b hb; cases hb
  | cons a x ih =>
    unfold runN at ih h
    rw [List.takeWhile_cons] at h
    by_cases ha : q a.toNat = true
    · rw [if_pos ha, List.length_cons, List.length_cons] at h
      intro b hb
      rcases List.mem_cons.1 hb with rfl | hb
      · exact ha
      · exact ih (by omega) b hb
    · rw [if_neg ha] at h; simp at h
theorem runN_end (q : Int → Bool) (x r : List UInt8) (hq : q ((32 : UInt8).toNat : Int) = false) (hr : EndB r) : runN q (x ++ r) = runN q x := by
  by_cases h : runN q x < x.length
  · exact runN_inside q x r h
  · have ha := runN_whole q x h
    rw [runN_append q x r ha, run_all q x ha]
    rcases hr with rfl | ⟨r', rfl⟩
    · rfl
    · rw [runN_zero q 32 r' hq]; rfl
theorem byteAt_append (x r : List UInt8) {k : Nat} (h : k < x.length) : byteAt (x ++ r) k = byteAt x k := by
  unfold byteAt
  rw [List.getD, List.getD, List.getElem?_append_left h]
theorem two_blank (c : UInt8) : twoB [c, 32] = false := by
  unfold twoB isIn
  apply decide_eq_false
  intro h
  simp [twosS] at h
theorem firstM_ext {x r : List UInt8} {k o m : Nat} (h0 : 0 < x.length) (h : firstM x = .ok k o m x.length) (hr : EndB r) : firstM (x ++ r) = .ok k o m x.length := by
  unfold firstM at h ⊢
  rw [byteAt_append x r h0]
  split at h
  · rename_i hd
    rw [if_pos hd]
    unfold numberM at h ⊢
    rw [runN_end digitI x r (by decide) hr, List.take_append_of_le_length (runN_le digitI x)]
    exact h
  · rename_i hd
    rw [if_neg hd]
    split at h
    · rename_i hl
      rw [if_pos hl]
      unfold nameM at h ⊢
      rw [runN_end withinI x r (by decide) hr, List.take_append_of_le_length (runN_le withinI x)]
      exact h
    · rename_i hl
      rw [if_neg hl]
      split at h
      · rename_i ht
        rw [if_pos ht]
        unfold textM at h ⊢
        rw [List.drop_append_of_le_length (by omega)]
        by_cases hc : x.length ≤ runN plainI (x.drop 1) + 1 ∨ byteAt x (runN plainI (x.drop 1) + 1) ≠ 34
        · rw [if_pos hc] at h; cases h
        · rw [if_neg hc] at h
          have h1 : ¬ x.length ≤ runN plainI (x.drop 1) + 1 := fun e => hc (.inl e)
          have h2 : ¬ byteAt x (runN plainI (x.drop 1) + 1) ≠ 34 := fun e => hc (.inr e)
          rw [runN_inside plainI (x.drop 1) r (by rw [List.length_drop]; omega), byteAt_append x r (by omega), if_neg]
          · exact h
          · rintro (e | e)
            · rw [List.length_append] at e; omega
            · exact h2 e
      · rename_i ht
        rw [if_neg ht]
        unfold signM at h ⊢
        rw [byteAt_append x r h0]
        by_cases h2 : 1 < x.length ∧ twoB (x.take 2) = true
        · rw [if_pos h2] at h
          rw [List.take_append_of_le_length (by omega), List.length_append, if_pos ⟨by omega, h2.2⟩]
          exact h
        · rw [if_neg h2] at h
          by_cases h1 : oneB (byteAt x 0) = true
          · rw [if_pos h1] at h ⊢
            have hx1 : x.length = 1 := by injection h with e1 e2 e3 e4; omega
            rw [if_neg]
            · exact h
            · rintro ⟨e1, e2⟩
              rcases hr with rfl | ⟨r', rfl⟩
              · rw [List.append_nil] at e1; omega
              · match x, hx1 with
                | [c], _ =>
                  rw [show ([c] ++ 32 :: r').take 2 = [c, 32] from rfl, two_blank] at e2
                  cases e2
          · rw [if_neg h1] at h; cases h
theorem remark_iff (l : List UInt8) : remarkB l = true ↔ [47, 47] <+: l := by
  unfold remarkB Lib.hasPrefix
  exact List.isPrefixOf_iff_prefix
theorem remark_take {l : List UInt8} (h : remarkB l = false) (q : Nat) : remarkB (l.take q) = false := by
  by_cases e : remarkB (l.take q) = true
  · rw [(remark_iff l).2 (((remark_iff _).1 e).trans (List.take_prefix q l))] at h; cases h
  · simpa using e
theorem remark_ext {x r : List UInt8} (h0 : 0 < x.length) (h : remarkB x = false) (hr : EndB r) : remarkB (x ++ r) = false := by
  rcases hr with rfl | ⟨r', rfl⟩
  · rwa [List.append_nil]
  · unfold remarkB Lib.hasPrefix at h ⊢
    match x, h0 with
    | [a], _ => simp [List.isPrefixOf]
    | a :: b :: y, _ => simpa [List.isPrefixOf] using h
theorem firstM_text {l : List UInt8} {o m n : Nat} (h : firstM l = .ok 2 o m n) : byteAt l 0 = 34 ∧ byteAt l (m + 1) = 34 ∧ m + 1 < l.length ∧ o = 1 ∧ n = m + 2 := by
  unfold firstM at h
  split at h
  · unfold numberM at h
    split at h
    · injection h with h1; omega
    · cases h
  · split at h
    · unfold nameM at h
      split at h
      · injection h with h1; omega
      · split at h
        · cases h
        · injection h with h1; omega
    · split at h
      · rename_i ht
        unfold textM at h
        split at h
        · cases h
        · rename_i hc
          split at h
          · cases h
          · injection h with h1 h2 h3 h4
            rw [h3] at hc h4
            have a1 : ¬ l.length ≤ m + 1 := fun e => hc (.inl e)
            have a2 : byteAt l (m + 1) = 34 := by
              by_cases e : byteAt l (m + 1) = 34
              · exact e
              · exact absurd (.inr e) hc
            exact ⟨eq_of_beq ht, a2, by omega, h2.symm, h4.symm⟩
      · unfold signM at h
        split at h
        · injection h with h1; omega
        · split at h
          · injection h with h1; omega
          · cases h
theorem byteAt_some {l : List UInt8} {k : Nat} {c : UInt8} (hk : k < l.length) (h : byteAt l k = (c.toNat : Int)) : l[k]? = some c := by
  rw [List.getElem?_eq_getElem hk]
  unfold byteAt at h
  rw [List.getD, List.getElem?_eq_getElem hk] at h
  have : (l[k]).toNat = c.toNat := by simp at h; omega
  rw [UInt8.toNat_inj.1 this]
theorem spell_of {l : List UInt8} {k o m n p : Nat} (h0 : 0 < l.length) (h : firstM l = .ok k o m n) : spell ⟨k, (l.drop o).take m, p⟩ = 32 :: l.take n := by
  unfold spell
  by_cases hk : k = 2
  · subst hk
    obtain ⟨h1, h2, h3, rfl, rfl⟩ := firstM_text h
    rw [if_pos rfl]
    cases l with
    | nil => simp at h0
    | cons c r =>
      have a1 := byteAt_some (l := c :: r) (k := 0) (c := 34) (by simp) h1
      have a2 := byteAt_some (l := c :: r) (k := m + 1) (c := 34) h3 h2
      simp at a1
      subst a1
      rw [List.getElem?_cons_succ] at a2
      show 32 :: 34 :: (r.take m ++ [34]) = 32 :: (34 :: r).take (m + 1 + 1)
      rw [List.take_succ_cons, List.take_add_one, a2]; rfl
  · rw [if_neg hk]
    obtain ⟨_, _, _, hkn⟩ := firstM_like h0 h
    obtain ⟨rfl, rfl, _⟩ := hkn hk
    rfl
theorem again_cons (t : Tok) (K : List Tok) : again (t :: K) = spell t ++ again K := by unfold again; rw [List.flatMap_cons]
theorem lex_again : ∀ (n : Nat) (l : List UInt8) (p : Nat) (K : List Tok), l.length ≤ n → lexFrom l p = .good K → K ≠ [] ∧ (again K.dropLast).length ≤ 2 * l.length ∧
    ∀ q, ∃ K', lexFrom (again K.dropLast) q = .good K' ∧ K'.map (fun t : Tok => (t.kind, t.text)) = K.map (fun t : Tok => (t.kind, t.text)) := by
  intro n
  induction n with
  | zero =>
    intro l p K h hl
    have : l = [] := List.eq_nil_of_length_eq_zero (by omega)
    subst this
    rw [lex_nil] at hl
    injection hl with hl
    subst hl
    exact ⟨by simp, by simp [again], fun q => ⟨[⟨0, [], q⟩], lex_nil, rfl⟩⟩
  | succ n ih =>
    intro l p K h
    refine lex_step (Mo := fun l p => l.length ≤ n + 1 → lexFrom l p = .good K → K ≠ [] ∧ (again K.dropLast).length ≤ 2 * l.length ∧
      ∀ q, ∃ K', lexFrom (again K.dropLast) q = .good K' ∧ K'.map (fun t : Tok => (t.kind, t.text)) = K.map (fun t : Tok => (t.kind, t.text))) l p ?_ ?_ ?_ ?_ ?_ h
    · intro _ _ hl
      rw [lex_nil] at hl
      injection hl with hl
      subst hl
      exact ⟨by simp, by simp [again], fun q => ⟨[⟨0, [], q⟩], lex_nil, rfl⟩⟩
    · intro h0 hb h hl
      rw [lex_blank h0 hb] at hl
      obtain ⟨a1, a2, a3⟩ := ih _ _ K (by rw [List.length_drop]; omega) hl
      rw [List.length_drop] at a2
      exact ⟨a1, by omega, a3⟩
    · intro h0 hb hr h1 h hl
      rw [lex_remark h0 hb hr] at hl
      obtain ⟨a1, a2, a3⟩ := ih _ _ K (by rw [List.length_drop]; omega) hl
      rw [List.length_drop] at a2
      exact ⟨a1, by omega, a3⟩
    · intro e h0 hb hr hf _ hl
      rw [lex_err h0 hb hr hf] at hl; cases hl
    · intro k o m n' h0 hb hr hf h hl
      obtain ⟨hn1, hn2, hom⟩ := firstM_ok h0 hf
      rw [lex_ok h0 hb hr hf] at hl
      cases hx : lexFrom (l.drop n') (p + n') with
      | bad i e' => rw [hx] at hl; cases hl
      | good J =>
        rw [hx] at hl
        injection hl with hl
        subst hl
        obtain ⟨a1, a2, a3⟩ := ih _ _ J (by rw [List.length_drop]; omega) hx
        rw [List.length_drop] at a2
        have hlen : (l.take n').length = n' := by rw [List.length_take]; omega
        have hsp : again (([(⟨k, (l.drop o).take m, p⟩ : Tok)] ++ J).dropLast) = 32 :: (l.take n' ++ again J.dropLast) := by
          rw [List.singleton_append, List.dropLast_cons_of_ne_nil a1, again_cons, spell_of h0 hf]; rfl
        refine ⟨by simp, ?_, fun q => ?_⟩
        · rw [hsp, List.length_cons, List.length_append, hlen]; omega
        · obtain ⟨K', hK', hm⟩ := a3 (q + 1 + n')
          have hend := again_end J.dropLast
          rw [hsp]
          generalize again J.dropLast = r at *
          have hf2 := firstM_take h0 hf (Nat.le_refl _)
          have hf3 : firstM (l.take n') = .ok k o m (l.take n').length := by rw [hlen]; exact hf2
          have hpos : 0 < (l.take n').length := by omega
          have hf4 := firstM_ext hpos hf3 hend
          rw [hlen] at hf4
          have hb2 : blankI (byteAt (l.take n' ++ r) 0) = false := by rw [byteAt_append _ _ hpos, byteAt_take l (by omega)]; exact hb
          have hr2 := remark_ext hpos (remark_take hr n') hend
          refine ⟨(⟨k, (l.drop o).take m, q + 1⟩ : Tok) :: K', ?_, ?_⟩
          · rw [lex_blank (l := 32 :: (l.take n' ++ r)) (by simp) (by rw [byteAt_zero]; decide), show List.drop 1 (32 :: (l.take n' ++ r)) = l.take n' ++ r from rfl,
              lex_ok (by rw [List.length_append]; omega) hb2 hr2 hf4]
            have e1 : (l.take n' ++ r).drop n' = r := by
              have := List.drop_left (l₁ := l.take n') (l₂ := r)
              rwa [hlen] at this
            have hon : o + m ≤ n' := by (have := (firstM_ok hpos hf3).2.2); omega
            have e2 : ((l.take n' ++ r).drop o).take m = (l.drop o).take m := by
              rw [List.drop_append_of_le_length (by omega), List.take_append_of_le_length (by rw [List.length_drop]; omega), List.drop_take, List.take_take, Nat.min_eq_left (by omega)]
            rw [e1, e2, hK']; rfl
          · rw [List.singleton_append, List.map_cons, List.map_cons, hm]
theorem again_take (K : List Tok) (i : Nat) (h : i + 1 ≤ K.length) : (again (K.take i)).length ≤ (again K.dropLast).length := by
  have e : K.dropLast = K.take i ++ (K.dropLast.drop i) := by
    conv => lhs; rw [← List.take_append_drop i K.dropLast]
    rw [List.dropLast_eq_take, List.take_take, Nat.min_eq_left (by omega)]
  rw [e]
  unfold again
  rw [List.flatMap_append, List.length_append]; omega
theorem again_succ (K : List Tok) (i : Nat) (t : Tok) (h : K[i]? = some t) : again (K.take (i + 1)) = again (K.take i) ++ spell t := by
  unfold again
  rw [List.take_add_one, h, List.flatMap_append]
  simp
theorem lexM_again {l : List UInt8} {K : List Tok} (h : lexM l = .good K) : 0 < K.length ∧ (again K.dropLast).length ≤ 1200 ∧
    ∃ K' : List Tok, K'.length = K.length ∧ (∀ (i : Nat) (t : Tok), K[i]? = some t → ∃ t' : Tok, K'[i]? = some t' ∧ t'.kind = t.kind ∧ t'.text = t.text) ∧ lexM (again K.dropLast) = if 600 < (again K.dropLast).length then .bad 0 4 else .good K' := by
  unfold lexM at h
  split at h
  · cases h
  · rename_i h6
    obtain ⟨a1, a2, a3⟩ := lex_again _ _ _ K (Nat.le_refl _) h
    obtain ⟨K', hK', hm⟩ := a3 0
    have hl : K'.length = K.length := by
      have := congrArg List.length hm
      simpa using this
    refine ⟨List.length_pos_iff.2 a1, by omega, K', hl, fun i t ht => ?_, by unfold lexM; rw [hK']⟩
    have hlt := (List.getElem?_eq_some_iff.1 ht).1
    have := congrArg (fun L => L[i]?) hm
    simp only [List.getElem?_map, ht, Option.map_some] at this
    cases hk : K'[i]? with
    | none => rw [hk] at this; cases this
    | some t' =>
      rw [hk] at this
      simp at this
      exact ⟨t', rfl, this.1, this.2⟩
end Go.Proofs.YtcodonidmopodaaDoor
