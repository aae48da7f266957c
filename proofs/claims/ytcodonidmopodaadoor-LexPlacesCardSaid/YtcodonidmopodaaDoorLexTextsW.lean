/- LexTexts: what stands between two quotes. -/
import Derived.Test.YtcodonidmopodaaDoorLexWordsW
namespace Go.Proofs.YtcodonidmopodaaDoor
open Go.RowKit
set_option linter.unusedVariables false
set_option linter.unusedSimpArgs false

theorem runN_append (q : Int → Bool) (a r : List UInt8) (h : ∀ b ∈ a, q b.toNat = true) : runN q (a ++ r) = a.length + runN q r := by
  unfold runN
  induction a with
  | nil => simp
  | cons x a ih =>
    have := ih (fun b hb => h b (by simp [hb]))
    rw [List.cons_append, List.takeWhile_cons, if_pos (h x (by simp)), List.length_cons, List.length_cons, this]; omega
theorem runN_zero (q : Int → Bool) (c : UInt8) (r : List UInt8) (h : q c.toNat = false) : runN q (c :: r) = 0 := by
  unfold runN; rw [List.takeWhile_cons, if_neg (by rw [h]; simp)]; rfl
theorem runN_nil (q : Int → Bool) : runN q [] = 0 := rfl
/-- Where the run ends there is a byte that is not so. -/
theorem runN_find (q : Int → Bool) (a r : List UInt8) (h : ∃ b ∈ a, q b.toNat = false) : ∃ c, a[runN q (a ++ r)]? = some c ∧ q c.toNat = false := by
  induction a with
  | nil => obtain ⟨b, hb, _⟩ := h; cases hb
  | cons x a ih =>
    by_cases hx : q x.toNat = true
    · obtain ⟨b, hb, hq⟩ := h
      have hb' : b ∈ a := by
        rcases List.mem_cons.1 hb with rfl | hb
        · rw [hx] at hq; cases hq
        · exact hb
      obtain ⟨c, hc, hcq⟩ := ih ⟨b, hb', hq⟩
      refine ⟨c, ?_, hcq⟩
      unfold runN at hc ⊢
      rw [List.cons_append, List.takeWhile_cons, if_pos hx, List.length_cons]
      exact hc
    · have hx' : q x.toNat = false := by simpa using hx
      exact ⟨x, by rw [List.cons_append, runN_zero q x _ hx']; rfl, hx'⟩
theorem byteAt_get {l : List UInt8} {k : Nat} {c : UInt8} (h : l[k]? = some c) : byteAt l k = (c.toNat : Int) := by
  unfold byteAt; rw [List.getD, h]; rfl
theorem byteAt_succ (c : UInt8) (r : List UInt8) (k : Nat) : byteAt (c :: r) (k + 1) = byteAt r k := by
  unfold byteAt; rw [List.getD_cons_succ]

/-- No quotes. -/
def NoQ (l : List UInt8) : Prop := ∀ b ∈ l, b.toNat ≠ 34
def fineB (l : List UInt8) : Bool := l.all fun b => decide (32 ≤ b.toNat) && decide (b.toNat ≤ 126)
theorem plain_of {l : List UInt8} (hq : NoQ l) (hf : fineB l = true) : ∀ b ∈ l, plainI b.toNat = true := by
  intro b hb
  have h1 := List.all_eq_true.1 hf b hb
  have h2 := hq b hb
  simp at h1
  simp [plainI]; omega
theorem not_plain {l : List UInt8} (hq : NoQ l) (hf : fineB l = false) : ∃ b ∈ l, plainI b.toNat = false := by
  by_cases h : ∃ b ∈ l, plainI b.toNat = false
  · exact h
  · have : fineB l = true := by
      refine List.all_eq_true.2 fun b hb => ?_
      have h2 : plainI b.toNat = true := by
        by_cases e : plainI b.toNat = true
        · exact e
        · exact absurd ⟨b, hb, by simpa using e⟩ h
      simp [plainI] at h2
      simp only [Bool.and_eq_true, decide_eq_true_eq]; omega
    rw [this] at hf; cases hf
theorem textM_bad {l r : List UInt8} (hq : NoQ l) (hf : fineB l = false) : textM (34 :: (l ++ r)) = .err 11 := by
  obtain ⟨c, hc, hcq⟩ := runN_find plainI l r (not_plain hq hf)
  unfold textM
  refine if_pos (.inr ?_)
  rw [show (34 :: (l ++ r)).drop 1 = l ++ r from rfl, byteAt_succ]
  have hlt := (List.getElem?_eq_some_iff.1 hc).1
  rw [byteAt_get (c := c) (by rw [List.getElem?_append_left hlt]; exact hc)]
  have := hq c (List.mem_of_getElem? hc)
  omega
theorem textM_open {l : List UInt8} (hq : NoQ l) : textM (34 :: l) = .err 11 := by
  cases hf : fineB l with
  | false => have := textM_bad (r := []) hq hf; rwa [List.append_nil] at this
  | true =>
    unfold textM
    rw [show (34 :: l).drop 1 = l from rfl, run_all plainI l (plain_of hq hf), if_pos (.inl (by simp))]
theorem textM_good {l r : List UInt8} (hq : NoQ l) (hf : fineB l = true) : textM (34 :: (l ++ 34 :: r)) = if 12 < l.length then .err 4 else .ok 2 1 l.length (l.length + 2) := by
  unfold textM
  have hn : runN plainI ((34 :: (l ++ 34 :: r)).drop 1) = l.length := by
    show runN plainI (l ++ 34 :: r) = l.length
    rw [runN_append plainI l _ (plain_of hq hf), runN_zero plainI 34 r (by decide)]; rfl
  rw [hn, if_neg]
  rintro (h | h)
  · simp at h; omega
  · refine h ?_
    rw [byteAt_succ, byteAt_get (c := 34) (by rw [List.getElem?_append_right (Nat.le_refl _), Nat.sub_self]; rfl)]
    rfl
/-- A quote at the beginning of a text. -/
theorem first_quote (r : List UInt8) : blankI (byteAt (34 :: r) 0) = false ∧ remarkB (34 :: r) = false ∧ firstM (34 :: r) = textM (34 :: r) := by
  refine ⟨blank_not (c := 34) (by decide), remark_not (c := 34) (by decide), ?_⟩
  unfold firstM
  rw [if_neg (by rw [byteAt_zero]; decide), if_neg (by rw [byteAt_zero]; decide), if_pos (by rw [byteAt_zero]; decide)]

theorem lex_texts_bad {l : List UInt8} (hq : NoQ l) (hf : fineB l = false) (h6 : l.length ≤ 500) : lexM (34 :: (l ++ [34])) = .bad 0 11 := by
  obtain ⟨h1, h2, h3⟩ := first_quote (l ++ [34])
  rw [textM_bad hq hf] at h3
  unfold lexM
  rw [if_neg (by simp; omega), lex_err (by simp) h1 h2 h3]
theorem lex_texts_long {l : List UInt8} (hq : NoQ l) (hf : fineB l = true) (h6 : l.length ≤ 500) (h8 : 12 < l.length) : lexM (34 :: (l ++ [34])) = .bad 0 4 := by
  obtain ⟨h1, h2, h3⟩ := first_quote (l ++ [34])
  rw [textM_good hq hf, if_pos h8] at h3
  unfold lexM
  rw [if_neg (by simp; omega), lex_err (by simp) h1 h2 h3]
theorem lex_texts_good {l : List UInt8} (hq : NoQ l) (hf : fineB l = true) (h8 : l.length ≤ 12) : lexM (34 :: (l ++ [34])) = .good [⟨2, l, 0⟩, ⟨0, [], l.length + 2⟩] := by
  obtain ⟨h1, h2, h3⟩ := first_quote (l ++ [34])
  rw [textM_good hq hf, if_neg (by omega)] at h3
  unfold lexM
  rw [if_neg (by simp; omega), lex_ok (by simp) h1 h2 h3]
  have e1 : (34 :: (l ++ [34])).drop (l.length + 2) = [] := List.drop_of_length_le (by simp)
  have e2 : ((34 :: (l ++ [34])).drop 1).take l.length = l := by simp
  rw [e1, e2, lex_nil]
  simp [LexR.pre]
theorem lex_texts_open {l : List UInt8} (hq : NoQ l) (h6 : l.length ≤ 500) : lexM (97 :: 32 :: 34 :: l) = .bad 2 11 := by
  obtain ⟨h1, h2, h3⟩ := first_quote l
  rw [textM_open hq] at h3
  obtain ⟨g1, g2, g3⟩ := first_name (l := 97 :: 32 :: 34 :: l) (by simp) (by rw [byteAt_zero]; decide)
  have hn : nameM (97 :: 32 :: 34 :: l) = .ok 3 0 1 1 := by
    have hr : runN withinI (97 :: 32 :: 34 :: l) = 1 := by
      have := runN_append withinI [97] (32 :: 34 :: l) (by decide)
      rw [runN_zero withinI 32 _ (by decide)] at this
      exact this
    unfold nameM
    rw [hr, if_neg (by rw [show (97 :: 32 :: 34 :: l).take 1 = [97] from rfl]; decide), if_neg (by decide)]
  rw [hn] at g3
  unfold lexM
  rw [if_neg (by simp; omega), lex_ok (by simp) g1 g2 g3]
  rw [show (97 :: 32 :: 34 :: l).drop 1 = 32 :: 34 :: l from rfl, lex_blank (by simp) (by rw [byteAt_zero]; decide)]
  rw [show (32 :: 34 :: l).drop 1 = 34 :: l from rfl, lex_err (by simp) h1 h2 h3]
  simp [LexR.pre]
theorem take_snoc (t : ByteArray) (k : Nat) (h : k < t.size) : t.data.toList.take (k + 1) = t.data.toList.take k ++ [t[k]'h] := by
  rw [List.take_add_one]
  have : t.data.toList[k]? = some (t[k]'h) := by
    rw [List.getElem?_eq_getElem (by simpa using h)]; rfl
  rw [this]; rfl
theorem cat_data (a b : ByteArray) : (a ++ b).data.toList = a.data.toList ++ b.data.toList := by rw [ByteArray.data_append]; simp
theorem bs_len (l : List UInt8) : (bs l).size = l.length := by show l.toArray.size = l.length; simp
theorem bs_cat (a b : List UInt8) : bs a ++ bs b = bs (a ++ b) := by
  apply ByteArray.ext
  rw [ByteArray.data_append]
  simp [bs]
end Go.Proofs.YtcodonidmopodaaDoor
