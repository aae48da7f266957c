/- The reference's small functions. -/
import Derived.Test.YtcodonidmopodaaDoorLexLine
import Derived.Test.YtcodonidmopodaaDoorLexTextsW
namespace Go.Proofs.YtcodonidmopodaaDoor
open Go.RowKit
set_option linter.unusedVariables false
set_option linter.unusedSimpArgs false

theorem rdigit_any (c : Int) (w : World) : Calls Tryd.prog 41 #[.int .u8 c] w fun e w' => e = .returned (.bool (digitI c)) ∧ w = w' := by
  unfold digitI
  go_enter Tryd.func41, Tryd.ntmps41
  go_wp2
  all_goals (go_ret; simp_all; try omega)
theorem rletter_any (c : Int) (w : World) : Calls Tryd.prog 43 #[.int .u8 c] w fun e w' => e = .returned (.bool (letterI c)) ∧ w = w' := by
  unfold letterI
  go_enter Tryd.func43, Tryd.ntmps43
  go_wp2
  all_goals (go_ret; simp_all; try omega)

theorem rline_any (s : ByteArray) (hs : s.size ≤ 281474976710656) (a : Int) (w : World) :
    Calls Tryd.prog 19 #[.string s, .int .i64 a] w fun e w' => e = .returned (.int .i64 (lineN s.data.toList a)) ∧ w = w' := by
  have hl : s.data.toList.length = s.size := by simp
  have HL := hid hl
  clear hl
  go_enter Tryd.func19, Tryd.ntmps19
  go_wp2
  go_loopw [5, 6] (fun n i w' => ∃ k : Nat, k ≤ s.size ∧ n = .int .i64 (lineN s.data.toList k) ∧ i = .int .i64 k ∧ (0 < k → (k : Int) ≤ a) ∧ w = w') (fun _ i _ => s.size - (intOf i).toNat)
  case atStart => exact ⟨0, Nat.zero_le _, by rw [line_low _ _ (by omega)]; rfl, rfl, fun h => absurd h (by omega), rfl⟩
  case round =>
    obtain ⟨k, hk, rfl, rfl, hka, rfl⟩ := hrel
    have hle := (line_le s.data.toList (k : Int)).2
    rw [HL.out] at hle
    by_cases hlt : k < s.size ∧ (k : Int) < a
    · obtain ⟨h1, h2⟩ := hlt
      have h1' : (k : Int) < (s.size : Int) := by omega
      obtain ⟨c, hc⟩ : ∃ c, s[k]'h1 = c := ⟨_, rfl⟩
      have hlk := line_next s.data.toList k c (by rw [List.getElem?_eq_getElem (by rw [HL.out]; exact h1)]; exact congrArg some hc)
      have HK := hid hlk
      clear hlk
      generalize lineN s.data.toList (k : Int) = n at *
      by_cases h10 : c = 10
      · have hcb : ((c.toNat : Int) == 10) = true := by rw [h10]; rfl
        have hn : (n : Int) ≤ 281474976710657 := by omega
        clear hka
        go_wp2
        go_roundw
        case rel => exact ⟨k + 1, by omega, by (have := HK.out); rw [if_pos h10] at this; rw [show ((k + 1 : Nat) : Int) = (k : Int) + 1 by omega, this]; go_num, by go_num, fun _ => by omega, trivial⟩
        case measure => simp [intOf]; omega
      · have hcb : ((c.toNat : Int) == 10) = false := beq_eq_false_iff_ne.2 (fun e => h10 (UInt8.toNat_inj.1 (by (have : (10 : UInt8).toNat = 10 := rfl); omega)))
        clear hka
        go_wp2
        go_roundw
        case rel => exact ⟨k + 1, by omega, by (have := HK.out); rw [if_neg h10] at this; rw [show ((k + 1 : Nat) : Int) = (k : Int) + 1 by omega, this]; rfl, by go_num, fun _ => by omega, trivial⟩
        case measure => simp [intOf]; omega
    · have he : lineN s.data.toList (k : Int) = lineN s.data.toList a := by
        rcases (by omega : k = s.size ∨ (k : Int) ≥ a) with h | h
        · rw [line_high _ _ (by rw [HL.out]; omega)]
          by_cases h2 : (s.size : Int) ≤ a
          · rw [line_high _ _ (by rw [HL.out]; omega)]
          · rcases Nat.eq_zero_or_pos k with h0 | h0
            · have : s.data.toList = [] := List.eq_nil_of_length_eq_zero (by rw [HL.out]; omega)
              rw [this]; unfold lineN; simp
            · exact absurd (hka h0) (by omega)
        · rcases Nat.eq_zero_or_pos k with h0 | h0
          · subst h0
            rw [line_low _ _ (by omega), line_low _ _ (by omega)]
          · rw [show (k : Int) = a by have := hka h0; omega]
      have HE := hid he
      clear he
      generalize lineN s.data.toList (k : Int) = n at *
      rcases (by omega : s.size ≤ k ∨ (k < s.size ∧ a ≤ (k : Int))) with h | ⟨h, h2⟩
      · have h' : (s.size : Int) ≤ (k : Int) := by omega
        clear hlt hka
        go_wp2
        go_ret
        exact ⟨by rw [HE.out]; rfl, rfl⟩
      · have h' : (k : Int) < (s.size : Int) := by omega
        clear hlt hka
        go_wp2
        go_ret
        exact ⟨by rw [HE.out]; rfl, rfl⟩
theorem word_not {l : List UInt8} (h : ∀ x ∈ wordsS, x.data.toList ≠ l) : wordB l = false := by
  unfold wordB isIn
  apply decide_eq_false
  intro hm
  obtain ⟨x, hx, he⟩ := List.mem_map.1 hm
  exact h x hx he
theorem word_yes {s : ByteArray} (h : s ∈ wordsS) : wordB s.data.toList = true := by
  unfold wordB isIn
  exact decide_eq_true (List.mem_map.2 ⟨s, h, rfl⟩)
theorem words_at (k : Nat) (h : k < 16) : ∃ x, wordsS[k]? = some x ∧ (wordsS.map Value.string).toArray[k]? = some (.string x) := by
  have : k < wordsS.length := h
  exact ⟨wordsS[k], List.getElem?_eq_getElem this, by simp [List.getElem?_eq_getElem this]⟩

set_option maxRecDepth 100000 in
set_option maxHeartbeats 800000 in
theorem rword_any (s : ByteArray) (w : World) : Calls Tryd.prog 20 #[.string s] w fun e w' => e = .returned (.bool (wordB s.data.toList)) ∧ Fr nob w w' := by
  go_enter Tryd.func20, Tryd.ntmps20
  go_wp2
  go_loopw [4] (fun i w' => ∃ k : Nat, k ≤ 16 ∧ i = .int .i64 k ∧ Hid (∀ j x, j < k → wordsS[j]? = some x → x ≠ s) ∧ w' = w.alloc (.cells (wordsS.map Value.string).toArray 9)) (fun i _ => 16 - (intOf i).toNat)
  case atStart => exact ⟨0, Nat.zero_le _, rfl, hid (fun j x hj => absurd hj (Nat.not_lt_zero _)), rfl⟩
  case round =>
    obtain ⟨k, hk, rfl, HN, rfl⟩ := hrel
    have BL := hid (Blk.new w 9 (wordsS.map Value.string).toArray)
    have FR := hid ((Fr.refl nob w).alloc (.cells (wordsS.map Value.string).toArray 9))
    generalize w.alloc (.cells (wordsS.map Value.string).toArray 9) = w2 at *
    by_cases hlt : k < 16
    · have hlt2 : (k : Int) < 16 := by omega
      obtain ⟨x, hx, hx2⟩ := words_at k hlt
      have c0 := (BL.out.cell k).trans hx2
      clear hx2
      by_cases he : x = s
      · subst he
        have W := hid (word_yes (List.mem_of_getElem? hx))
        clear hx
        go_wp2
        go_ret
        exact ⟨by rw [W.out]; first | done | rfl, FR.out⟩
      · have heb : (x.toList == s.toList) = false := by rw [ByteArray.toList_eq, ByteArray.toList_eq]; exact beq_eq_false_iff_ne.2 (fun e => he (ByteArray.ext (Array.toList_inj.1 e)))
        have HN2 := hid (show ∀ j y, j < k + 1 → wordsS[j]? = some y → y ≠ s from fun j y hj hy => by
          by_cases e : j = k
          · subst e
            rw [hx] at hy
            injection hy with hy
            subst hy; exact he
          · exact HN.out j y (by omega) hy)
        clear hx
        go_wp2
        go_roundw
        case rel => exact ⟨k + 1, by omega, by go_num, HN2, trivial⟩
        case measure => simp [intOf]; omega
    · have hlt2 : (16 : Int) ≤ (k : Int) := by omega
      have W := hid (word_not (l := s.data.toList) (fun x hx e => by
        obtain ⟨j, hj, hjx⟩ := List.getElem_of_mem hx
        have : j < 16 := hj
        exact HN.out j x (by omega) (by rw [List.getElem?_eq_getElem hj, hjx]) (ByteArray.ext (Array.toList_inj.1 e))))
      go_wp2
      go_ret
      exact ⟨by rw [W.out]; first | done | rfl, FR.out⟩
end Go.Proofs.YtcodonidmopodaaDoor
