/- LexWords: the walk. -/
import Derived.Test.YtcodonidmopodaaDoorLexWordsW
namespace Go.Proofs.YtcodonidmopodaaDoor
open Go.RowKit
set_option linter.unusedVariables false
set_option linter.unusedSimpArgs false

theorem bs_size (l : List UInt8) : (bs l).size = l.length := by show l.toArray.size = l.length; simp
theorem bs_append (a b : List UInt8) : bs a ++ bs b = bs (a ++ b) := by
  apply ByteArray.ext
  rw [ByteArray.data_append]
  simp [bs]
theorem NameL.snoc {l : List UInt8} (h : NameL l) (c : UInt8) (hw : withinI c.toNat = true) (hf : l = [] → letterI c.toNat = true) : NameL (l ++ [c]) := by
  refine ⟨fun b hb => ?_, fun _ => ?_⟩
  · rcases List.mem_append.1 hb with hb | hb
    · exact h.all b hb
    · simp at hb; subst hb; exact hw
  · cases l with
    | nil => exact hf rfl
    | cons a l => exact h.first (by simp)

set_option maxHeartbeats 4000000 in
set_option maxRecDepth 100000 in
theorem words_walk (s : ByteArray) (hs : s.size ≤ 281474976710656) (w : World) (hv : Vars w) :
    Calls Tryd.prog 5 #[.string s] w fun e w' => e = .returned (.bool true) ∧ Fr nob w w' := by
  have V := hid hv
  clear hv
  go_enter Tryd.func5, Tryd.ntmps5
  go_wp2_with (go_at_call 11; go_must (refine (shown_any _ V.out).mono ?_; rintro e w1 ⟨rfl, hf⟩; have F1 := hid hf; clear hf))
  go_loopw [4, 5] (fun nm i w' => ∃ (k : Nat) (l : List UInt8), k ≤ s.size ∧ k ≤ 20 ∧ l.length ≤ k ∧ nm = .string (bs l) ∧ i = .int .i64 k ∧ NameL l ∧ w' = w1) (fun _ i _ => 20 - (intOf i).toNat)
  case atStart => exact ⟨0, [], Nat.zero_le _, by omega, Nat.le_refl _, rfl, rfl, ⟨fun b hb => by simp at hb, fun h => by simp at h⟩, rfl⟩
  case round =>
    obtain ⟨k, l, hks, hk20, hlk, rfl, rfl, hn, rfl⟩ := hrel
    have N := hid hn
    clear hn
    by_cases hlt : k < s.size ∧ k < 20
    · obtain ⟨h1, h2⟩ := hlt
      obtain ⟨c, hc⟩ : ∃ c, s[k]'h1 = c := ⟨_, rfl⟩
      have hx : (s.extract k (k + 1)) = bs [c] := by
        have e : (s.extract k (k + 1)).data.toList = [c] := by
          rw [Lib.extract_data, show k + 1 - k = 1 by omega, List.drop_eq_getElem_cons (by simpa using h1)]
          simp only [List.take_succ_cons, List.take_zero]
          rw [← hc]; rfl
        rw [← bs_data (s.extract k (k + 1)), e]
      have hz : (bs l).size + (bs [c]).size ≤ 9223372036854775807 := by simp [bs_size]; omega
      have hcat : bs l ++ bs [c] = bs (l ++ [c]) := bs_append _ _
      have hcr := c.toNat_lt
      have HC := hid hcat
      have next : ∀ (v : Value) (l' : List UInt8), v = .string (bs l') → (l' = l ∨ l' = l ++ [c] ∧ withinI c.toNat = true ∧ (l = [] → letterI c.toNat = true)) →
          ∃ (k_1 : Nat) (l_1 : List UInt8), k_1 ≤ s.size ∧ k_1 ≤ 20 ∧ l_1.length ≤ k_1 ∧ v = .string (bs l_1) ∧ (.int .i64 ((k : Int) + 1) : Value) = .int .i64 k_1 ∧ NameL l_1 ∧ True := by
        intro v l' hv' hl'
        refine ⟨k + 1, l', by omega, by omega, ?_, hv', by go_num, ?_, trivial⟩
        · rcases hl' with rfl | ⟨rfl, _⟩
          · omega
          · simp; omega
        · rcases hl' with rfl | ⟨rfl, h3, h4⟩
          · exact N.out
          · exact N.out.snoc c h3 h4
      have NX := hid next
      clear next hcat
      rcases (by omega : (97 ≤ (c.toNat : Int) ∧ (c.toNat : Int) ≤ 122) ∨ (65 ≤ (c.toNat : Int) ∧ (c.toNat : Int) ≤ 90) ∨ (48 ≤ (c.toNat : Int) ∧ (c.toNat : Int) ≤ 57) ∨ (c.toNat : Int) = 95 ∨ (c.toNat : Int) < 48 ∨ (57 < (c.toNat : Int) ∧ (c.toNat : Int) < 65) ∨ (90 < (c.toNat : Int) ∧ (c.toNat : Int) < 95) ∨ (95 < (c.toNat : Int) ∧ (c.toNat : Int) < 97) ∨ 122 < (c.toNat : Int)) with ⟨a1, a2⟩ | ⟨a1, a2⟩ | ⟨a1, a2⟩ | a1 | a1 | ⟨a1, a2⟩ | ⟨a1, a2⟩ | ⟨a1, a2⟩ | a1
      · go_wp2
        go_roundw
        case rel => exact NX.out _ (l ++ [c]) (by rw [HC.out]) (.inr ⟨rfl, by simp [withinI, letterI]; omega, fun _ => by simp [letterI]; omega⟩)
        case measure => simp [intOf]; omega
      · go_wp2
        go_roundw
        case rel => exact NX.out _ (l ++ [c]) (by rw [HC.out]) (.inr ⟨rfl, by simp [withinI, letterI]; omega, fun _ => by simp [letterI]; omega⟩)
        case measure => simp [intOf]; omega
      · cases l with
        | nil =>
          have hE : (bs []).toList.isEmpty = true := by rw [ByteArray.toList_eq]; rfl
          go_wp2
          go_roundw
          case rel => exact NX.out _ [] rfl (.inl rfl)
          case measure => simp [intOf]; omega
        | cons b l =>
          have hE : (bs (b :: l)).toList.isEmpty = false := by rw [ByteArray.toList_eq]; rfl
          go_wp2
          go_roundw
          case rel => exact NX.out _ (b :: l ++ [c]) (by rw [HC.out]) (.inr ⟨rfl, by simp [withinI, digitI]; omega, fun h => by cases h⟩)
          case measure => simp [intOf]; omega
      · cases l with
        | nil =>
          have hE : (bs []).toList.isEmpty = true := by rw [ByteArray.toList_eq]; rfl
          go_wp2
          go_roundw
          case rel => exact NX.out _ [] rfl (.inl rfl)
          case measure => simp [intOf]; omega
        | cons b l =>
          have hE : (bs (b :: l)).toList.isEmpty = false := by rw [ByteArray.toList_eq]; rfl
          go_wp2
          go_roundw
          case rel => exact NX.out _ (b :: l ++ [c]) (by rw [HC.out]) (.inr ⟨rfl, by simp [withinI, a1], fun h => by cases h⟩)
          case measure => simp [intOf]; omega
      all_goals
        have hne : ((c.toNat : Int) == 95) = false := by simp; omega
        go_wp2
        go_roundw
        case rel => exact NX.out _ l rfl (.inl rfl)
        case measure => simp [intOf]; omega
    · by_cases hl0 : l = []
      · subst hl0
        have hE : (bs []).toList.isEmpty = true := by rw [ByteArray.toList_eq]; rfl
        rcases (by omega : s.size ≤ k ∨ k < s.size ∧ 20 ≤ k) with a1 | ⟨a1, a2⟩
        · go_wp2
          go_ret
          exact ⟨rfl, F1.out⟩
        · go_wp2
          go_ret
          exact ⟨rfl, F1.out⟩
      · have hE : (bs l).toList.isEmpty = false := by
          cases l with
          | nil => exact absurd rfl hl0
          | cons b l' => rw [ByteArray.toList_eq]; rfl
        have h0 : 0 < l.length := List.length_pos_iff.2 hl0
        clear hl0
        have hlx := lex_name N.out h0 (by omega)
        have hsz : (bs l).size = l.length := bs_size l
        have hsz2 : (bs l).size ≤ 281474976710656 := by rw [hsz]; omega
        have hA := fun w' hv' => all_any (bs l) w' hsz2 hv'
        have hW := fun w' hv' => word_any (bs l) w' hv'
        rw [show (bs l).data.toList = l from rfl] at hA hW
        rw [hlx] at hA
        have HW := hid hW
        have HS := hid hsz
        generalize wordB l = wb at *
        clear hlx hW hsz hsz2
        generalize hnm : bs l = nm at *
        have NM := hid hnm
        clear hnm
        rcases (by omega : s.size ≤ k ∨ k < s.size ∧ 20 ≤ k) with a1 | ⟨a1, a2⟩
        all_goals
          clear hlt
          cases wb with
          | true =>
            rw [if_pos rfl] at hA
            have HA := hid hA
            clear hA
            as_aux_lemma =>
            go_wp2_with (first | (go_at_call 13; go_must (refine (HA.out _ (V.out.fr F1.out)).mono ?_; rintro e w2 ⟨⟨v, rfl, ht⟩, hf2⟩; obtain ⟨A, c9, rfl, hc1, hc2⟩ := ht.slice; obtain ⟨g, rfl, hg, hg2, hat⟩ := ht.some (by simp); obtain ⟨x0, x1, x2⟩ := hat 0 _ rfl; rw [NM.out] at x1; have F2 := hid hf2; clear hf2 ht hat hc1)) | (go_at_call 14; go_must (refine (HW.out _ ((V.out.fr F1.out).fr F2.out)).mono ?_; rintro e w3 ⟨rfl, hf3⟩; have F3 := hid hf3; have y0 := (F3.out.cell hg2 (fun x => x)).trans x0; have y1 := (F3.out.cell hg2 (fun x => x)).trans x1; clear hf3)))
            go_ret
            exact ⟨rfl, (F1.out.tr F2.out).tr F3.out⟩
          | false =>
            rw [if_neg (by simp)] at hA
            by_cases h8 : 8 < l.length
            · rw [if_pos h8] at hA
              have HA := hid hA
              have h9 : (8 : Int) < (l.length : Int) := by omega
              have h9' : (8 : Int) < (nm.size : Int) := by rw [HS.out]; exact h9
              clear hA h8
              as_aux_lemma =>
              go_wp2_with (first | (go_at_call 13; go_must (refine (HA.out _ (V.out.fr F1.out)).mono ?_; rintro e w2 ⟨rfl, hf2⟩; have F2 := hid hf2; clear hf2)) | (go_at_call 14; go_must (refine (HW.out _ ((V.out.fr F1.out).fr F2.out)).mono ?_; rintro e w3 ⟨rfl, hf3⟩; have F3 := hid hf3; skip; clear hf3)))
              go_ret
              exact ⟨rfl, (F1.out.tr F2.out).tr F3.out⟩
            · rw [if_neg h8] at hA
              have HA := hid hA
              have h9' : (nm.size : Int) ≤ 8 := by rw [HS.out]; omega
              clear hA h8
              as_aux_lemma =>
              go_wp2_with (first | (go_at_call 13; go_must (refine (HA.out _ (V.out.fr F1.out)).mono ?_; rintro e w2 ⟨⟨v, rfl, ht⟩, hf2⟩; obtain ⟨A, c9, rfl, hc1, hc2⟩ := ht.slice; obtain ⟨g, rfl, hg, hg2, hat⟩ := ht.some (by simp); obtain ⟨x0, x1, x2⟩ := hat 0 _ rfl; rw [NM.out] at x1; have F2 := hid hf2; clear hf2 ht hat hc1)) | (go_at_call 14; go_must (refine (HW.out _ ((V.out.fr F1.out).fr F2.out)).mono ?_; rintro e w3 ⟨rfl, hf3⟩; have F3 := hid hf3; have y0 := (F3.out.cell hg2 (fun x => x)).trans x0; have y1 := (F3.out.cell hg2 (fun x => x)).trans x1; clear hf3)))
              go_ret
              exact ⟨rfl, (F1.out.tr F2.out).tr F3.out⟩
end Go.Proofs.YtcodonidmopodaaDoor
