/- The reference's text. -/
import Derived.Test.YtcodonidmopodaaDoorLexRefD
namespace Go.Proofs.YtcodonidmopodaaDoor
open Go.RowKit
set_option linter.unusedVariables false
set_option linter.unusedSimpArgs false

/-- What the reference's text answers. -/
def textR (l : List UInt8) (at_ : Nat) : Ending := match textM (l.drop at_) with
  | .ok _ _ m n => .returned (.tuple #[.string (bs ((l.drop (at_ + 1)).take m)), .int .i64 ((at_ + n : Nat) : Int), .int .i64 0])
  | .err e => .returned (.tuple #[.string ⟨#[]⟩, .int .i64 at_, .int .i64 e])
theorem textR_err (l : List UInt8) (at_ m : Nat) (h1 : at_ < l.length) (hm : runN plainI (l.drop (at_ + 1)) = m - (at_ + 1)) (hm2 : at_ + 1 ≤ m) (h : l.length ≤ m ∨ byteAt l m ≠ 34) :
    textR l at_ = .returned (.tuple #[.string ⟨#[]⟩, .int .i64 at_, .int .i64 11]) := by
  unfold textR textM
  rw [List.drop_drop, hm, if_pos]
  · rfl
  · rw [byteAt_drop', List.length_drop, show at_ + (m - (at_ + 1) + 1) = m by omega]
    rcases h with h | h
    · exact .inl (by omega)
    · exact .inr h
theorem textR_ok (l : List UInt8) (at_ m : Nat) (h1 : at_ < l.length) (hm : runN plainI (l.drop (at_ + 1)) = m - (at_ + 1)) (hm2 : at_ + 1 ≤ m) (hm3 : m < l.length) (h : byteAt l m = 34) :
    textR l at_ = if 12 < m - (at_ + 1) then .returned (.tuple #[.string ⟨#[]⟩, .int .i64 at_, .int .i64 4])
      else .returned (.tuple #[.string (bs ((l.drop (at_ + 1)).take (m - (at_ + 1)))), .int .i64 ((m + 1 : Nat) : Int), .int .i64 0]) := by
  unfold textR textM
  rw [List.drop_drop, hm, if_neg]
  · by_cases h12 : 12 < m - (at_ + 1)
    · rw [if_pos h12, if_pos h12]; rfl
    · rw [if_neg h12, if_neg h12]
      simp only
      rw [show at_ + (m - (at_ + 1) + 2) = m + 1 by omega]
  · rw [byteAt_drop', List.length_drop, show at_ + (m - (at_ + 1) + 1) = m by omega]
    rintro (e | e)
    · omega
    · exact e h

set_option maxRecDepth 100000 in
set_option maxHeartbeats 1600000 in
theorem rtext_any (s : ByteArray) (hs : s.size ≤ 281474976710656) (a : Nat) (ha : a < s.size) (w : World) :
    Calls Tryd.prog 44 #[.string s, .int .i64 a] w fun e w' => e = textR s.data.toList a ∧ w = w' := by
  have hl : s.data.toList.length = s.size := by simp
  have HL := hid hl
  clear hl
  obtain ⟨E, hE⟩ : ∃ E, textR s.data.toList a = E := ⟨_, rfl⟩
  rw [hE]
  have HE := hid hE
  clear hE
  go_enter Tryd.func44, Tryd.ntmps44
  go_wp2
  go_loopw [7] (fun v w' => ∃ m : Nat, a + 1 ≤ m ∧ m ≤ s.size ∧ v = .int .i64 m ∧ Hid (runN plainI (s.data.toList.drop (a + 1)) = (m - (a + 1)) + runN plainI (s.data.toList.drop m)) ∧ w = w') (fun v _ => s.size - (intOf v).toNat)
  case atStart => exact ⟨a + 1, Nat.le_refl _, by omega, by go_num, hid (by omega), rfl⟩
  case round =>
    obtain ⟨m, ham, hm, rfl, HR, rfl⟩ := hrel
    have ham2 : (a : Int) + 1 ≤ (m : Int) := by omega
    by_cases hms : m < s.size
    · have hms2 : (m : Int) < (s.size : Int) := by omega
      obtain ⟨d, hd⟩ : ∃ d, s[m]'hms = d := ⟨_, rfl⟩
      have hby := byteAt_eq s m hms
      rw [hd] at hby
      have hst := runN_step plainI s.data.toList m (by rw [HL.out]; exact hms)
      rw [hby] at hst
      have HST := hid hst
      have HBY := hid hby
      clear hst hby
      rcases (by omega : (d.toNat : Int) < 32 ∨ (d.toNat : Int) = 34 ∨ (32 ≤ (d.toNat : Int) ∧ (d.toNat : Int) ≤ 126 ∧ (d.toNat : Int) ≠ 34) ∨ 126 < (d.toNat : Int)) with h | h | ⟨h1, h2, h3⟩ | h
      · have hz : runN plainI (s.data.toList.drop (a + 1)) = m - (a + 1) := by
          have h1 := HR.out
          have h2 := HST.out
          rw [if_neg (by simp [plainI]; omega)] at h2
          omega
        have HF := hid ((textR_err s.data.toList a m (by rw [HL.out]; exact ha) hz ham (.inr (by rw [HBY.out]; omega))).symm.trans HE.out)
        have hq : ((d.toNat : Int) != 34) = true := bne_iff_ne.2 (by omega)
        clear hz
        go_wp2
        go_ret3
        exact ⟨by rw [← HF.out]; first | done | rfl, rfl⟩
      · have hz : runN plainI (s.data.toList.drop (a + 1)) = m - (a + 1) := by
          have h1 := HR.out
          have h2 := HST.out
          rw [if_neg (by simp [plainI]; omega)] at h2
          omega
        have hF := (textR_ok s.data.toList a m (by rw [HL.out]; exact ha) hz ham (by rw [HL.out]; exact hms) (by rw [HBY.out]; exact h)).symm.trans HE.out
        have hq : ((d.toNat : Int) != 34) = false := by rw [h]; rfl
        clear hz
        by_cases h12 : 12 < m - (a + 1)
        · rw [if_pos h12] at hF
          have HF := hid hF
          have h13 : (12 : Int) < (m : Int) - (a : Int) - 1 := by omega
          clear hF h12
          go_wp2
          go_ret3
          exact ⟨by rw [← HF.out]; first | done | rfl, rfl⟩
        · rw [if_neg h12] at hF
          have HF := hid hF
          have h13 : (m : Int) - (a : Int) - 1 ≤ 12 := by omega
          have HX := hid (show bs ((s.data.toList.drop (a + 1)).take (m - (a + 1))) = s.extract (a + 1) m by rw [← Lib.extract_data, bs_data])
          clear hF h12
          go_wp2
          go_ret3
          exact ⟨by rw [← HF.out, HX.out]; first | done | rfl, rfl⟩
      · have hst : runN plainI (s.data.toList.drop m) = 1 + runN plainI (s.data.toList.drop (m + 1)) := by
          have h2 := HST.out
          rwa [if_pos (by simp [plainI]; omega)] at h2
        have HS2 := hid hst
        have hq : ((d.toNat : Int) != 34) = true := bne_iff_ne.2 h3
        clear hst
        go_wp2
        go_roundw
        case rel => exact ⟨m + 1, by omega, by omega, by go_num, hid (by (have := HR.out); have := HS2.out; omega), trivial⟩
        case measure => simp [intOf]; omega
      · have hz : runN plainI (s.data.toList.drop (a + 1)) = m - (a + 1) := by
          have h1 := HR.out
          have h2 := HST.out
          rw [if_neg (by simp [plainI]; omega)] at h2
          omega
        have HF := hid ((textR_err s.data.toList a m (by rw [HL.out]; exact ha) hz ham (.inr (by rw [HBY.out]; omega))).symm.trans HE.out)
        have hq : ((d.toNat : Int) != 34) = true := bne_iff_ne.2 (by omega)
        clear hz
        go_wp2
        go_ret3
        exact ⟨by rw [← HF.out]; first | done | rfl, rfl⟩
    · have hms2 : (s.size : Int) ≤ (m : Int) := by omega
      have hz : runN plainI (s.data.toList.drop (a + 1)) = m - (a + 1) := by
        have h1 := HR.out
        have h2 : runN plainI (s.data.toList.drop m) = 0 := by rw [List.drop_of_length_le (by rw [HL.out]; omega)]; rfl
        omega
      have HF := hid ((textR_err s.data.toList a m (by rw [HL.out]; exact ha) hz ham (.inl (by rw [HL.out]; omega))).symm.trans HE.out)
      clear hz hms
      go_wp2
      go_ret3
      exact ⟨by rw [← HF.out]; first | done | rfl, rfl⟩
end Go.Proofs.YtcodonidmopodaaDoor
