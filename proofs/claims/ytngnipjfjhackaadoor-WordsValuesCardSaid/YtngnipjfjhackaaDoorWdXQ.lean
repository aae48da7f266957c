/- Words: lines that set a value, the plain law. -/
import Derived.Test.YtngnipjfjhackaaDoorWdXP
namespace Go.Proofs.YtngnipjfjhackaaDoor
open Go.RowKit Go.MapKept
set_option linter.unusedVariables false
set_option linter.unusedSimpArgs false
def aS : ByteArray := ⟨#[97]⟩
/-- A line that sets a. -/
def setA (t : List UInt8) : ByteArray := bsW ([115, 101, 116, 32, 97, 32] ++ t)
theorem ba_ext {x y : ByteArray} (h : x.data.toList = y.data.toList) : x = y := by
  obtain ⟨⟨x⟩⟩ := x
  obtain ⟨⟨y⟩⟩ := y
  simpa using h
theorem setA_eq (t : List UInt8) : (⟨#[115, 101, 116, 32]⟩ ++ aS ++ bsW (32 :: t) : ByteArray) = setA t := by
  apply ba_ext
  unfold setA
  rw [bsW_list]
  simp [ByteArray.data_append, bsW, aS]
theorem setA_size (t : List UInt8) : (setA t).size = t.length + 6 := by
  unfold setA bsW
  rw [bsz]
  simp
theorem readA (t : List UInt8) (ht : (32 : UInt8) ∉ t) (htl : t.length ≤ 40) : readR (setA t) = match readS (bsW t) with | some y => (⟨setS, aS, ⟨#[]⟩, 0, y.1, y.2.1, y.2.2⟩, 0) | none => (zeroC ⟨#[]⟩, 80) := by
  have h := set_read aS (by decide) t ht htl
  rw [setA_eq, if_pos (by decide)] at h
  exact h
theorem joinA (q : List UInt8) : joinB [setS, aS, bsW q] = setA q := by
  apply ba_ext
  unfold setA
  rw [bsW_list]
  unfold joinB
  simp [Lib.join, setS, aS, bsW]
theorem goes_set {t vn : Int} {vs : ByteArray} : goesL ⟨setS, aS, ⟨#[]⟩, 0, t, vn, vs⟩ [.a, .v] (zeroC setS) = if mayW t vn vs = true then (readS (bsW (quotedL t vn vs))).map (fun y => ⟨setS, aS, ⟨#[]⟩, 0, y.1, y.2.1, y.2.2⟩) else none := by
  rw [goes_cons]
  have hf : fineB aS = true := by decide
  have e1 : (putK .a ⟨setS, aS, ⟨#[]⟩, 0, t, vn, vs⟩).2 = true := hf
  rw [if_pos e1]
  have e2 : takeK .a (zeroC setS) aS = some ⟨setS, aS, ⟨#[]⟩, 0, 0, 0, ⟨#[]⟩⟩ := by
    unfold takeK
    dsimp only
    rw [if_pos hf]
    rfl
  rw [show takeK .a (zeroC setS) (putK .a ⟨setS, aS, ⟨#[]⟩, 0, t, vn, vs⟩).1 = some ⟨setS, aS, ⟨#[]⟩, 0, 0, 0, ⟨#[]⟩⟩ from e2, Option.bind_some, goes_cons]
  have e3 : (putK .v ⟨setS, aS, ⟨#[]⟩, 0, t, vn, vs⟩).2 = mayW t vn vs := rfl
  rw [e3]
  by_cases hm : mayW t vn vs = true
  · rw [if_pos hm, if_pos hm]
    have e4 : takeK .v ⟨setS, aS, ⟨#[]⟩, 0, 0, 0, ⟨#[]⟩⟩ (putK .v ⟨setS, aS, ⟨#[]⟩, 0, t, vn, vs⟩).1 = (readS (bsW (quotedL t vn vs))).map (fun y => (⟨setS, aS, ⟨#[]⟩, 0, y.1, y.2.1, y.2.2⟩ : CmdM)) := rfl
    rw [e4]
    cases readS (bsW (quotedL t vn vs)) <;> rfl
  · rw [if_neg hm, if_neg hm]
theorem line_set {t vn : Int} {vs : ByteArray} (hm : mayW t vn vs = true) (hr : readS (bsW (quotedL t vn vs)) = some (t, vn, vs)) (hl : (quotedL t vn vs).length ≤ 74) :
    lineR ⟨setS, aS, ⟨#[]⟩, 0, t, vn, vs⟩ = (setA (quotedL t vn vs), 0) := by
  apply lineR_some
  rw [lineM_eq (ks := [.a, .v]) set_find]
  show (match goesL ⟨setS, aS, ⟨#[]⟩, 0, t, vn, vs⟩ [.a, .v] (zeroC setS) with
    | none => none
    | some o => if o = (⟨setS, aS, ⟨#[]⟩, 0, t, vn, vs⟩ : CmdM) ∧ (joinB (partsL ⟨setS, aS, ⟨#[]⟩, 0, t, vn, vs⟩ [.a, .v])).size ≤ 80 then some (joinB (partsL ⟨setS, aS, ⟨#[]⟩, 0, t, vn, vs⟩ [.a, .v])) else none) = _
  rw [goes_set, if_pos hm, hr]
  have ej : joinB (partsL ⟨setS, aS, ⟨#[]⟩, 0, t, vn, vs⟩ [.a, .v]) = setA (quotedL t vn vs) := joinA (quotedL t vn vs)
  rw [ej]
  show (if (⟨setS, aS, ⟨#[]⟩, 0, t, vn, vs⟩ : CmdM) = ⟨setS, aS, ⟨#[]⟩, 0, t, vn, vs⟩ ∧ (setA (quotedL t vn vs)).size ≤ 80 then some (setA (quotedL t vn vs)) else none) = _
  rw [if_pos ⟨rfl, by rw [setA_size]; omega⟩]
theorem line_set_no {t vn : Int} {vs : ByteArray} (hm : mayW t vn vs = false) : lineR ⟨setS, aS, ⟨#[]⟩, 0, t, vn, vs⟩ = (⟨#[]⟩, 1) := by
  apply lineR_none
  rw [lineM_eq (ks := [.a, .v]) set_find]
  show (match goesL ⟨setS, aS, ⟨#[]⟩, 0, t, vn, vs⟩ [.a, .v] (zeroC setS) with
    | none => none
    | some o => if o = (⟨setS, aS, ⟨#[]⟩, 0, t, vn, vs⟩ : CmdM) ∧ (joinB (partsL ⟨setS, aS, ⟨#[]⟩, 0, t, vn, vs⟩ [.a, .v])).size ≤ 80 then some (joinB (partsL ⟨setS, aS, ⟨#[]⟩, 0, t, vn, vs⟩ [.a, .v])) else none) = none
  rw [goes_set, if_neg (by rw [hm]; decide)]
/-- A number's line. -/
theorem line_num (n : Int) (h0 : -9223372036854775808 ≤ n) (h1 : n ≤ 9223372036854775807) : lineR ⟨setS, aS, ⟨#[]⟩, 0, 1, n, ⟨#[]⟩⟩ = (setA (Lib.itoa n), 0) := by
  have hq : quotedL 1 n ⟨#[]⟩ = Lib.itoa n := rfl
  have := line_set (t := 1) (vn := n) (vs := ⟨#[]⟩) (by unfold mayW mayV; rw [if_neg (by decide : ¬ (1 : Int) = 3), if_neg (by decide : ¬ (1 : Int) = 2), if_neg (by decide : ¬ (1 : Int) = 4), if_pos rfl]; kernel_rfl) (by rw [hq]; exact read_itoa n h0 h1) (by rw [hq]; have := Lib.itoa_length_le n h0 h1; omega)
  rw [hq] at this
  exact this
theorem read_num_line (n : Int) (h0 : -9223372036854775808 ≤ n) (h1 : n ≤ 9223372036854775807) : readR (setA (Lib.itoa n)) = (⟨setS, aS, ⟨#[]⟩, 0, 1, n, ⟨#[]⟩⟩, 0) := by
  rw [readA _ (itoa_no n 32 (by decide) (by decide)) (by have := Lib.itoa_length_le n h0 h1; omega), read_itoa n h0 h1]
theorem read_nought_line (n : Int) (h0 : -9223372036854775808 ≤ n) (h1 : n ≤ 9223372036854775807) : readR (setA (48 :: Lib.itoa n)) = (zeroC ⟨#[]⟩, 80) := by
  rw [readA _ (by rw [List.mem_cons]; rintro (h | h); exact absurd h (by decide); exact itoa_no n 32 (by decide) (by decide) h) (by have := Lib.itoa_length_le n h0 h1; simp; omega), read_nought n h0 h1]
/-- A text's bytes: seen, and no quote. -/
def inT (b : UInt8) : Bool := seen b && !decide (b = 34)
def textJ (s : ByteArray) (j : Nat) : Bool := (s.data.toList.take j).all inT
theorem idx_mem (l : List UInt8) (c : UInt8) : 0 ≤ Lib.indexByte l c ↔ c ∈ l := by
  induction l with
  | nil => simp [Lib.indexByte]
  | cons b l ih =>
    have hg := Lib.indexByte_ge l c
    rw [Lib.indexByte, List.mem_cons]
    by_cases h : b = c
    · subst h; simp
    · rw [if_neg (by simpa using h)]
      by_cases h1 : Lib.indexByte l c = -1
      · rw [if_pos (by simpa using h1)]
        have : ¬ c ∈ l := fun e => by have := ih.2 e; omega
        simp [this]; exact fun e => h e.symm
      · rw [if_neg (by simpa using h1)]
        have : c ∈ l := ih.1 (by omega)
        simp [this]; omega
theorem textJ_end (s : ByteArray) (hs : s.size ≤ 40) : textJ s s.size = mayW 3 0 s := by
  unfold textJ mayW mayV hasQ plainB
  rw [List.take_of_length_le (by have : s.data.toList.length = s.size := by simp
                                 omega)]
  rw [if_pos rfl, decide_eq_true (show s.size ≤ 40 from hs)]
  have hx : decide (0 ≤ Lib.indexByte s.data.toList 34) = decide ((34 : UInt8) ∈ s.data.toList) := decide_eq_decide.2 (idx_mem _ _)
  rw [hx]
  show s.data.toList.all inT = (true && (true && true) && s.data.toList.all seen && !decide ((34 : UInt8) ∈ s.data.toList))
  generalize s.data.toList = l
  induction l with
  | nil => rfl
  | cons b l ih =>
    rw [List.all_cons, List.all_cons, ih]
    unfold inT
    by_cases hb : b = 34
    · subst hb; simp
    · have hb2 : ¬ (34 : UInt8) = b := fun e => hb e.symm
      simp [hb, hb2]
      cases seen b <;> simp
theorem textJ_step (s : ByteArray) (j : Nat) (c : UInt8) (h : s.data.toList[j]? = some c) : textJ s (j + 1) = (textJ s j && inT c) := by
  unfold textJ
  rw [List.take_add_one, h, List.all_append]
  simp
theorem may_all {s : ByteArray} (hm : mayW 3 0 s = true) : (∀ b ∈ s.data.toList, seen b = true) ∧ (34 : UInt8) ∉ s.data.toList := by
  unfold mayW hasQ plainB at hm
  simp only [Bool.and_eq_true, Bool.not_eq_true', decide_eq_false_iff_not, idx_mem] at hm
  exact ⟨fun b hb => List.all_eq_true.1 hm.1.2 b hb, hm.2⟩
theorem no32 {l : List UInt8} (h : ∀ b ∈ l, seen b = true) : (32 : UInt8) ∉ l := fun hm => by
  have := h 32 hm
  revert this; decide
theorem read_text_line {s : ByteArray} (hs : s.size ≤ 20) (hm : mayW 3 0 s = true) : readR (setA (34 :: (s.data.toList ++ [34]))) = (⟨setS, aS, ⟨#[]⟩, 0, 3, 0, s⟩, 0) ∧ lineR ⟨setS, aS, ⟨#[]⟩, 0, 3, 0, s⟩ = (setA (34 :: (s.data.toList ++ [34])), 0) := by
  have hl : s.data.toList.length = s.size := by simp
  have hr : readS (bsW (34 :: (s.data.toList ++ [34]))) = some (3, 0, s) := by
    have hx : (bsW (34 :: (s.data.toList ++ [34]))).extract 1 ((bsW (34 :: (s.data.toList ++ [34]))).size - 1) = s := by
      apply ba_ext
      have hz : (bsW (34 :: (s.data.toList ++ [34]))).size = s.size + 2 := by unfold bsW; rw [bsz]; simp
      rw [hz]
      have : ((bsW (34 :: (s.data.toList ++ [34]))).extract 1 (s.size + 2 - 1)).data.toList = ((34 :: (s.data.toList ++ [34])).take (s.size + 1)).drop 1 := by
        rw [Lib.extract_data, bsW_list]
        simp [List.drop_take]
      rw [this, List.take_succ_cons, List.drop_succ_cons, List.drop_zero, ← hl, List.take_left]
    unfold readS
    rw [bsW_toList, if_neg (by simp), if_neg (by simp), bsW_list, hx, if_pos hm, if_pos]
    refine ⟨by unfold bsW; rw [bsz]; simp, by simp [Lib.hasPrefix], ?_⟩
    unfold Lib.hasSuffix
    simp [List.isSuffixOf]
  refine ⟨?_, ?_⟩
  · rw [readA _ ?_ (by simp; omega), hr]
    rw [List.mem_cons, List.mem_append]
    rintro (h | h | h)
    · exact absurd h (by decide)
    · exact no32 (may_all hm).1 h
    · simp at h
  · exact line_set (t := 3) (vn := 0) (vs := s) hm hr (by show (34 :: (s.data.toList ++ [34])).length ≤ 74; simp; omega)
theorem read_open_line {s : ByteArray} (hs : s.size ≤ 20) (hm : mayW 3 0 s = true) : readR (setA (34 :: s.data.toList)) = (zeroC ⟨#[]⟩, 80) := by
  have hl : s.data.toList.length = s.size := by simp
  obtain ⟨ha, hq⟩ := may_all hm
  have hr : readS (bsW (34 :: s.data.toList)) = none := by
    unfold readS
    rw [bsW_toList, if_neg (by simp), if_neg (by simp), bsW_list, if_neg]
    · have : numM (34 :: s.data.toList) = none := by
        unfold numM
        rw [Lib.atoiAll_plain _ _ (by decide) (by decide)]
        rfl
      rw [this]; rfl
    · rintro ⟨h2, _, h3⟩
      have hz : (bsW (34 :: s.data.toList)).size = s.size + 1 := by unfold bsW; rw [bsz]; simp
      unfold Lib.hasSuffix at h3
      have hsuf : [34] <:+ (34 :: s.data.toList) := List.isSuffixOf_iff_suffix.1 (by simpa using h3)
      obtain ⟨p, hp⟩ := hsuf
      cases p with
      | nil =>
        injection hp with _ hp
        have hz0 : s.size = 0 := by rw [← hl, ← hp]; rfl
        rw [hz, hz0] at h2
        exact absurd h2 (by decide)
      | cons x p =>
        injection hp with _ hp
        exact hq (by rw [← hp]; simp)
  rw [readA _ (by rw [List.mem_cons]; rintro (h | h); exact absurd h (by decide); exact no32 ha h) (by simp; omega), hr]
end Go.Proofs.YtngnipjfjhackaaDoor
