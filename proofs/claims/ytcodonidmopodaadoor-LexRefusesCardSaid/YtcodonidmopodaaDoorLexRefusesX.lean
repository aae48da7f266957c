/- LexRefuses: the walk. -/
import Derived.Test.YtcodonidmopodaaDoorLexRefusesW
import Derived.Test.YtcodonidmopodaaDoorLexLine
namespace Go.Proofs.YtcodonidmopodaaDoor
open Go.RowKit
set_option linter.unusedVariables false
set_option linter.unusedSimpArgs false

set_option maxHeartbeats 8000000 in
set_option maxRecDepth 100000 in
theorem refuses_walk (s : ByteArray) (hs : s.size ≤ 281474976710656) (at_ : Int) (hat1 : -9223372036854775808 ≤ at_) (hat2 : at_ ≤ 9223372036854775807) (w : World) (hv : Vars w) :
    Calls Tryd.prog 10 #[.string s, .int .i64 at_] w fun e w' => e = .returned (.bool true) ∧ Fr nob w w' := by
  have V := hid hv
  clear hv
  have hsh := fun w' => short_any s hs w'
  have hts : (cutS s 700).size ≤ 700 := (cutS_size s 700).1
  generalize cutS s 700 = t at *
  have HSH := hid hsh
  have htl : t.data.toList.length = t.size := by simp
  have HTL := hid htl
  obtain ⟨r, hr⟩ : ∃ r, lexM t.data.toList = r := ⟨_, rfl⟩
  have hA := fun w' hv' => all_any t w' (by omega) hv'
  rw [hr] at hA
  have R := hid hr
  have HA := hid hA
  have LA := hid (fun w' => line_at t (by omega) at_ w')
  have L0 := hid (fun w' => line_at t (by omega) 0 w')
  rw [line_low _ 0 (by omega)] at L0
  have hle := line_le t.data.toList at_
  rw [htl] at hle
  clear hr hsh hA htl
  cases r with
  | good K =>
    rcases (by omega : at_ ≤ -1099511627776 ∨ (-1099511627776 < at_ ∧ at_ < 0) ∨ (0 ≤ at_ ∧ at_ < (t.size : Int)) ∨ ((t.size : Int) ≤ at_ ∧ at_ < 1099511627776) ∨ (1099511627776 ≤ at_ ∧ at_ < 9223372036854775807) ∨ at_ = 9223372036854775807) with h | ⟨h1, h2⟩ | ⟨h1, h2⟩ | ⟨h1, h2⟩ | ⟨h1, h2⟩ | h
    · have LB := hid (fun w' => line_at t (by omega) (at_ + 1) w')
      rw [line_low _ _ (by omega)] at LA LB
      clear hle
      go_enter Tryd.func10, Tryd.ntmps10
      go_wp2_with (first | (go_at_call 11; go_must (refine (shown_any _ V.out).mono ?_; rintro e w1 ⟨rfl, hf⟩; have F1 := hid hf; clear hf)) | (go_at_call 12; go_must (refine (HSH.out _).mono ?_; rintro e w3 ⟨rfl, rfl⟩)) | (go_at_call 18; with_reducible refine (LA.out _).mono ?_; rintro e w7 ⟨rfl, rfl⟩) | (go_at_call 18; with_reducible refine (LB.out _).mono ?_; rintro e w7 ⟨rfl, rfl⟩) | (go_at_call 18; with_reducible refine (L0.out _).mono ?_; rintro e w7 ⟨rfl, rfl⟩) | (go_at_call 13; go_must (refine (HA.out _ (V.out.fr F1.out)).mono ?_; rintro e w2 ⟨⟨v, rfl, ht⟩, hf2⟩; obtain ⟨A, c9, rfl, hc1, hc2⟩ := ht.slice; have F2 := hid hf2; clear hf2 ht hc1)))
      go_ret
      exact ⟨rfl, F1.out.tr F2.out⟩
    · have LB := hid (fun w' => line_at t (by omega) (at_ + 1) w')
      rw [line_low _ _ (by omega)] at LA LB
      clear hle
      go_enter Tryd.func10, Tryd.ntmps10
      go_wp2_with (first | (go_at_call 11; go_must (refine (shown_any _ V.out).mono ?_; rintro e w1 ⟨rfl, hf⟩; have F1 := hid hf; clear hf)) | (go_at_call 12; go_must (refine (HSH.out _).mono ?_; rintro e w3 ⟨rfl, rfl⟩)) | (go_at_call 18; with_reducible refine (LA.out _).mono ?_; rintro e w7 ⟨rfl, rfl⟩) | (go_at_call 18; with_reducible refine (LB.out _).mono ?_; rintro e w7 ⟨rfl, rfl⟩) | (go_at_call 18; with_reducible refine (L0.out _).mono ?_; rintro e w7 ⟨rfl, rfl⟩) | (go_at_call 13; go_must (refine (HA.out _ (V.out.fr F1.out)).mono ?_; rintro e w2 ⟨⟨v, rfl, ht⟩, hf2⟩; obtain ⟨A, c9, rfl, hc1, hc2⟩ := ht.slice; have F2 := hid hf2; clear hf2 ht hc1)))
      go_ret
      exact ⟨rfl, F1.out.tr F2.out⟩
    · have hk : at_.toNat < t.size := by omega
      have LB := hid (fun w' => line_at t (by omega) (at_ + 1) w')
      obtain ⟨c, hc⟩ : ∃ c, t[at_.toNat]'hk = c := ⟨_, rfl⟩
      have hlk := line_next t.data.toList at_.toNat c (by rw [List.getElem?_eq_getElem (by rw [HTL.out]; exact hk)]; exact congrArg some hc)
      rw [show ((at_.toNat : Nat) : Int) = at_ by omega] at hlk
      by_cases h10 : c = 10
      · rw [if_pos h10] at hlk
        rw [hlk] at LB
        generalize lineN t.data.toList at_ = n1 at *
        have hcb : ((c.toNat : Int) == 10) = true := by rw [h10]; rfl
        have hn1 : (1 : Int) ≤ (n1 : Int) := by omega
        have hn2 : (n1 : Int) ≤ 701 := by omega
        have LB := hid (show ∀ w', Calls Tryd.prog 18 #[.string t, .int .i64 (at_ + 1)] w' fun e w'' => e = .returned (.int .i64 ((n1 : Int) + 1)) ∧ w' = w'' from LB.out)
        clear hlk h10 hle
        go_enter Tryd.func10, Tryd.ntmps10
        go_wp2_with (first | (go_at_call 11; go_must (refine (shown_any _ V.out).mono ?_; rintro e w1 ⟨rfl, hf⟩; have F1 := hid hf; clear hf)) | (go_at_call 12; go_must (refine (HSH.out _).mono ?_; rintro e w3 ⟨rfl, rfl⟩)) | (go_at_call 18; with_reducible refine (LA.out _).mono ?_; rintro e w7 ⟨rfl, rfl⟩) | (go_at_call 18; with_reducible refine (LB.out _).mono ?_; rintro e w7 ⟨rfl, rfl⟩) | (go_at_call 18; with_reducible refine (L0.out _).mono ?_; rintro e w7 ⟨rfl, rfl⟩) | (go_at_call 13; go_must (refine (HA.out _ (V.out.fr F1.out)).mono ?_; rintro e w2 ⟨⟨v, rfl, ht⟩, hf2⟩; obtain ⟨A, c9, rfl, hc1, hc2⟩ := ht.slice; have F2 := hid hf2; clear hf2 ht hc1)))
        go_ret
        exact ⟨rfl, F1.out.tr F2.out⟩
      · rw [if_neg h10, Nat.add_zero] at hlk
        rw [hlk] at LB
        generalize lineN t.data.toList at_ = n1 at *
        have hcb : ((c.toNat : Int) == 10) = false := beq_eq_false_iff_ne.2 (fun e => h10 (UInt8.toNat_inj.1 (by (have : (10 : UInt8).toNat = 10 := rfl); omega)))
        have hn1 : (1 : Int) ≤ (n1 : Int) := by omega
        have hn2 : (n1 : Int) ≤ 701 := by omega
        clear hlk h10 hle
        go_enter Tryd.func10, Tryd.ntmps10
        go_wp2_with (first | (go_at_call 11; go_must (refine (shown_any _ V.out).mono ?_; rintro e w1 ⟨rfl, hf⟩; have F1 := hid hf; clear hf)) | (go_at_call 12; go_must (refine (HSH.out _).mono ?_; rintro e w3 ⟨rfl, rfl⟩)) | (go_at_call 18; with_reducible refine (LA.out _).mono ?_; rintro e w7 ⟨rfl, rfl⟩) | (go_at_call 18; with_reducible refine (LB.out _).mono ?_; rintro e w7 ⟨rfl, rfl⟩) | (go_at_call 18; with_reducible refine (L0.out _).mono ?_; rintro e w7 ⟨rfl, rfl⟩) | (go_at_call 13; go_must (refine (HA.out _ (V.out.fr F1.out)).mono ?_; rintro e w2 ⟨⟨v, rfl, ht⟩, hf2⟩; obtain ⟨A, c9, rfl, hc1, hc2⟩ := ht.slice; have F2 := hid hf2; clear hf2 ht hc1)))
        go_ret
        exact ⟨rfl, F1.out.tr F2.out⟩
    · have LB := hid (fun w' => line_at t (by omega) (at_ + 1) w')
      rw [line_high _ _ (by rw [HTL.out]; omega)] at LA LB hle
      generalize 1 + t.data.toList.count 10 = n1 at *
      have hn1 : (1 : Int) ≤ (n1 : Int) := by omega
      have hn2 : (n1 : Int) ≤ 701 := by omega
      clear hle
      go_enter Tryd.func10, Tryd.ntmps10
      go_wp2_with (first | (go_at_call 11; go_must (refine (shown_any _ V.out).mono ?_; rintro e w1 ⟨rfl, hf⟩; have F1 := hid hf; clear hf)) | (go_at_call 12; go_must (refine (HSH.out _).mono ?_; rintro e w3 ⟨rfl, rfl⟩)) | (go_at_call 18; with_reducible refine (LA.out _).mono ?_; rintro e w7 ⟨rfl, rfl⟩) | (go_at_call 18; with_reducible refine (LB.out _).mono ?_; rintro e w7 ⟨rfl, rfl⟩) | (go_at_call 18; with_reducible refine (L0.out _).mono ?_; rintro e w7 ⟨rfl, rfl⟩) | (go_at_call 13; go_must (refine (HA.out _ (V.out.fr F1.out)).mono ?_; rintro e w2 ⟨⟨v, rfl, ht⟩, hf2⟩; obtain ⟨A, c9, rfl, hc1, hc2⟩ := ht.slice; have F2 := hid hf2; clear hf2 ht hc1)))
      go_ret
      exact ⟨rfl, F1.out.tr F2.out⟩
    · have LB := hid (fun w' => line_at t (by omega) (at_ + 1) w')
      rw [line_high _ _ (by rw [HTL.out]; omega)] at LA LB hle
      generalize 1 + t.data.toList.count 10 = n1 at *
      have hn1 : (1 : Int) ≤ (n1 : Int) := by omega
      have hn2 : (n1 : Int) ≤ 701 := by omega
      clear hle
      go_enter Tryd.func10, Tryd.ntmps10
      go_wp2_with (first | (go_at_call 11; go_must (refine (shown_any _ V.out).mono ?_; rintro e w1 ⟨rfl, hf⟩; have F1 := hid hf; clear hf)) | (go_at_call 12; go_must (refine (HSH.out _).mono ?_; rintro e w3 ⟨rfl, rfl⟩)) | (go_at_call 18; with_reducible refine (LA.out _).mono ?_; rintro e w7 ⟨rfl, rfl⟩) | (go_at_call 18; with_reducible refine (LB.out _).mono ?_; rintro e w7 ⟨rfl, rfl⟩) | (go_at_call 18; with_reducible refine (L0.out _).mono ?_; rintro e w7 ⟨rfl, rfl⟩) | (go_at_call 13; go_must (refine (HA.out _ (V.out.fr F1.out)).mono ?_; rintro e w2 ⟨⟨v, rfl, ht⟩, hf2⟩; obtain ⟨A, c9, rfl, hc1, hc2⟩ := ht.slice; have F2 := hid hf2; clear hf2 ht hc1)))
      go_ret
      exact ⟨rfl, F1.out.tr F2.out⟩
    · subst h
      have LB := hid (fun w' => line_at t (by omega) (wrap64 9223372036854775808) w')
      rw [line_low _ _ (by unfold wrap64; omega)] at LB
      rw [line_high _ _ (by rw [HTL.out]; omega)] at LA hle
      generalize 1 + t.data.toList.count 10 = n1 at *
      have hn1 : (1 : Int) ≤ (n1 : Int) := by omega
      have hn2 : (n1 : Int) ≤ 701 := by omega
      clear hle
      go_enter Tryd.func10, Tryd.ntmps10
      go_wp2_with (first | (go_at_call 11; go_must (refine (shown_any _ V.out).mono ?_; rintro e w1 ⟨rfl, hf⟩; have F1 := hid hf; clear hf)) | (go_at_call 12; go_must (refine (HSH.out _).mono ?_; rintro e w3 ⟨rfl, rfl⟩)) | (go_at_call 18; with_reducible refine (LA.out _).mono ?_; rintro e w7 ⟨rfl, rfl⟩) | (go_at_call 18; with_reducible refine (LB.out _).mono ?_; rintro e w7 ⟨rfl, rfl⟩) | (go_at_call 18; with_reducible refine (L0.out _).mono ?_; rintro e w7 ⟨rfl, rfl⟩) | (go_at_call 13; go_must (refine (HA.out _ (V.out.fr F1.out)).mono ?_; rintro e w2 ⟨⟨v, rfl, ht⟩, hf2⟩; obtain ⟨A, c9, rfl, hc1, hc2⟩ := ht.slice; have F2 := hid hf2; clear hf2 ht hc1)))
      go_ret
      exact ⟨rfl, F1.out.tr F2.out⟩
  | bad p e =>
    by_cases hx : e = 4 ∧ 600 < t.data.toList.length
    · obtain ⟨rfl, hx⟩ := hx
      rw [HTL.out] at hx
      have hx2 : (600 : Int) < (t.size : Int) := by omega
      clear hx
      rcases (by omega : at_ ≤ -1099511627776 ∨ (-1099511627776 < at_ ∧ at_ < 0) ∨ (0 ≤ at_ ∧ at_ < (t.size : Int)) ∨ ((t.size : Int) ≤ at_ ∧ at_ < 1099511627776) ∨ (1099511627776 ≤ at_ ∧ at_ < 9223372036854775807) ∨ at_ = 9223372036854775807) with h | ⟨h1, h2⟩ | ⟨h1, h2⟩ | ⟨h1, h2⟩ | ⟨h1, h2⟩ | h
      · have LB := hid (fun w' => line_at t (by omega) (at_ + 1) w')
        rw [line_low _ _ (by omega)] at LA LB
        clear hle
        go_enter Tryd.func10, Tryd.ntmps10
        go_wp2_with (first | (go_at_call 11; go_must (refine (shown_any _ V.out).mono ?_; rintro e w1 ⟨rfl, hf⟩; have F1 := hid hf; clear hf)) | (go_at_call 12; go_must (refine (HSH.out _).mono ?_; rintro e w3 ⟨rfl, rfl⟩)) | (go_at_call 18; with_reducible refine (LA.out _).mono ?_; rintro e w7 ⟨rfl, rfl⟩) | (go_at_call 18; with_reducible refine (LB.out _).mono ?_; rintro e w7 ⟨rfl, rfl⟩) | (go_at_call 18; with_reducible refine (L0.out _).mono ?_; rintro e w7 ⟨rfl, rfl⟩) | (go_at_call 13; go_must (refine (HA.out _ (V.out.fr F1.out)).mono ?_; rintro e w2 ⟨rfl, hf2⟩; have F2 := hid hf2; clear hf2)))
        go_ret
        exact ⟨rfl, F1.out.tr F2.out⟩
      · have LB := hid (fun w' => line_at t (by omega) (at_ + 1) w')
        rw [line_low _ _ (by omega)] at LA LB
        clear hle
        go_enter Tryd.func10, Tryd.ntmps10
        go_wp2_with (first | (go_at_call 11; go_must (refine (shown_any _ V.out).mono ?_; rintro e w1 ⟨rfl, hf⟩; have F1 := hid hf; clear hf)) | (go_at_call 12; go_must (refine (HSH.out _).mono ?_; rintro e w3 ⟨rfl, rfl⟩)) | (go_at_call 18; with_reducible refine (LA.out _).mono ?_; rintro e w7 ⟨rfl, rfl⟩) | (go_at_call 18; with_reducible refine (LB.out _).mono ?_; rintro e w7 ⟨rfl, rfl⟩) | (go_at_call 18; with_reducible refine (L0.out _).mono ?_; rintro e w7 ⟨rfl, rfl⟩) | (go_at_call 13; go_must (refine (HA.out _ (V.out.fr F1.out)).mono ?_; rintro e w2 ⟨rfl, hf2⟩; have F2 := hid hf2; clear hf2)))
        go_ret
        exact ⟨rfl, F1.out.tr F2.out⟩
      · have hk : at_.toNat < t.size := by omega
        have LB := hid (fun w' => line_at t (by omega) (at_ + 1) w')
        obtain ⟨c, hc⟩ : ∃ c, t[at_.toNat]'hk = c := ⟨_, rfl⟩
        have hlk := line_next t.data.toList at_.toNat c (by rw [List.getElem?_eq_getElem (by rw [HTL.out]; exact hk)]; exact congrArg some hc)
        rw [show ((at_.toNat : Nat) : Int) = at_ by omega] at hlk
        by_cases h10 : c = 10
        · rw [if_pos h10] at hlk
          rw [hlk] at LB
          generalize lineN t.data.toList at_ = n1 at *
          have hcb : ((c.toNat : Int) == 10) = true := by rw [h10]; rfl
          have hn1 : (1 : Int) ≤ (n1 : Int) := by omega
          have hn2 : (n1 : Int) ≤ 701 := by omega
          have LB := hid (show ∀ w', Calls Tryd.prog 18 #[.string t, .int .i64 (at_ + 1)] w' fun e w'' => e = .returned (.int .i64 ((n1 : Int) + 1)) ∧ w' = w'' from LB.out)
          clear hlk h10 hle
          go_enter Tryd.func10, Tryd.ntmps10
          go_wp2_with (first | (go_at_call 11; go_must (refine (shown_any _ V.out).mono ?_; rintro e w1 ⟨rfl, hf⟩; have F1 := hid hf; clear hf)) | (go_at_call 12; go_must (refine (HSH.out _).mono ?_; rintro e w3 ⟨rfl, rfl⟩)) | (go_at_call 18; with_reducible refine (LA.out _).mono ?_; rintro e w7 ⟨rfl, rfl⟩) | (go_at_call 18; with_reducible refine (LB.out _).mono ?_; rintro e w7 ⟨rfl, rfl⟩) | (go_at_call 18; with_reducible refine (L0.out _).mono ?_; rintro e w7 ⟨rfl, rfl⟩) | (go_at_call 13; go_must (refine (HA.out _ (V.out.fr F1.out)).mono ?_; rintro e w2 ⟨rfl, hf2⟩; have F2 := hid hf2; clear hf2)))
          go_ret
          exact ⟨rfl, F1.out.tr F2.out⟩
        · rw [if_neg h10, Nat.add_zero] at hlk
          rw [hlk] at LB
          generalize lineN t.data.toList at_ = n1 at *
          have hcb : ((c.toNat : Int) == 10) = false := beq_eq_false_iff_ne.2 (fun e => h10 (UInt8.toNat_inj.1 (by (have : (10 : UInt8).toNat = 10 := rfl); omega)))
          have hn1 : (1 : Int) ≤ (n1 : Int) := by omega
          have hn2 : (n1 : Int) ≤ 701 := by omega
          clear hlk h10 hle
          go_enter Tryd.func10, Tryd.ntmps10
          go_wp2_with (first | (go_at_call 11; go_must (refine (shown_any _ V.out).mono ?_; rintro e w1 ⟨rfl, hf⟩; have F1 := hid hf; clear hf)) | (go_at_call 12; go_must (refine (HSH.out _).mono ?_; rintro e w3 ⟨rfl, rfl⟩)) | (go_at_call 18; with_reducible refine (LA.out _).mono ?_; rintro e w7 ⟨rfl, rfl⟩) | (go_at_call 18; with_reducible refine (LB.out _).mono ?_; rintro e w7 ⟨rfl, rfl⟩) | (go_at_call 18; with_reducible refine (L0.out _).mono ?_; rintro e w7 ⟨rfl, rfl⟩) | (go_at_call 13; go_must (refine (HA.out _ (V.out.fr F1.out)).mono ?_; rintro e w2 ⟨rfl, hf2⟩; have F2 := hid hf2; clear hf2)))
          go_ret
          exact ⟨rfl, F1.out.tr F2.out⟩
      · have LB := hid (fun w' => line_at t (by omega) (at_ + 1) w')
        rw [line_high _ _ (by rw [HTL.out]; omega)] at LA LB hle
        generalize 1 + t.data.toList.count 10 = n1 at *
        have hn1 : (1 : Int) ≤ (n1 : Int) := by omega
        have hn2 : (n1 : Int) ≤ 701 := by omega
        clear hle
        go_enter Tryd.func10, Tryd.ntmps10
        go_wp2_with (first | (go_at_call 11; go_must (refine (shown_any _ V.out).mono ?_; rintro e w1 ⟨rfl, hf⟩; have F1 := hid hf; clear hf)) | (go_at_call 12; go_must (refine (HSH.out _).mono ?_; rintro e w3 ⟨rfl, rfl⟩)) | (go_at_call 18; with_reducible refine (LA.out _).mono ?_; rintro e w7 ⟨rfl, rfl⟩) | (go_at_call 18; with_reducible refine (LB.out _).mono ?_; rintro e w7 ⟨rfl, rfl⟩) | (go_at_call 18; with_reducible refine (L0.out _).mono ?_; rintro e w7 ⟨rfl, rfl⟩) | (go_at_call 13; go_must (refine (HA.out _ (V.out.fr F1.out)).mono ?_; rintro e w2 ⟨rfl, hf2⟩; have F2 := hid hf2; clear hf2)))
        go_ret
        exact ⟨rfl, F1.out.tr F2.out⟩
      · have LB := hid (fun w' => line_at t (by omega) (at_ + 1) w')
        rw [line_high _ _ (by rw [HTL.out]; omega)] at LA LB hle
        generalize 1 + t.data.toList.count 10 = n1 at *
        have hn1 : (1 : Int) ≤ (n1 : Int) := by omega
        have hn2 : (n1 : Int) ≤ 701 := by omega
        clear hle
        go_enter Tryd.func10, Tryd.ntmps10
        go_wp2_with (first | (go_at_call 11; go_must (refine (shown_any _ V.out).mono ?_; rintro e w1 ⟨rfl, hf⟩; have F1 := hid hf; clear hf)) | (go_at_call 12; go_must (refine (HSH.out _).mono ?_; rintro e w3 ⟨rfl, rfl⟩)) | (go_at_call 18; with_reducible refine (LA.out _).mono ?_; rintro e w7 ⟨rfl, rfl⟩) | (go_at_call 18; with_reducible refine (LB.out _).mono ?_; rintro e w7 ⟨rfl, rfl⟩) | (go_at_call 18; with_reducible refine (L0.out _).mono ?_; rintro e w7 ⟨rfl, rfl⟩) | (go_at_call 13; go_must (refine (HA.out _ (V.out.fr F1.out)).mono ?_; rintro e w2 ⟨rfl, hf2⟩; have F2 := hid hf2; clear hf2)))
        go_ret
        exact ⟨rfl, F1.out.tr F2.out⟩
      · subst h
        have LB := hid (fun w' => line_at t (by omega) (wrap64 9223372036854775808) w')
        rw [line_low _ _ (by unfold wrap64; omega)] at LB
        rw [line_high _ _ (by rw [HTL.out]; omega)] at LA hle
        generalize 1 + t.data.toList.count 10 = n1 at *
        have hn1 : (1 : Int) ≤ (n1 : Int) := by omega
        have hn2 : (n1 : Int) ≤ 701 := by omega
        clear hle
        go_enter Tryd.func10, Tryd.ntmps10
        go_wp2_with (first | (go_at_call 11; go_must (refine (shown_any _ V.out).mono ?_; rintro e w1 ⟨rfl, hf⟩; have F1 := hid hf; clear hf)) | (go_at_call 12; go_must (refine (HSH.out _).mono ?_; rintro e w3 ⟨rfl, rfl⟩)) | (go_at_call 18; with_reducible refine (LA.out _).mono ?_; rintro e w7 ⟨rfl, rfl⟩) | (go_at_call 18; with_reducible refine (LB.out _).mono ?_; rintro e w7 ⟨rfl, rfl⟩) | (go_at_call 18; with_reducible refine (L0.out _).mono ?_; rintro e w7 ⟨rfl, rfl⟩) | (go_at_call 13; go_must (refine (HA.out _ (V.out.fr F1.out)).mono ?_; rintro e w2 ⟨rfl, hf2⟩; have F2 := hid hf2; clear hf2)))
        go_ret
        exact ⟨rfl, F1.out.tr F2.out⟩
    · obtain ⟨hp, he, K, hK⟩ := lex_refused R.out hx
      rw [HTL.out] at hp hx
      have hN := fun w' hv' => all_any (t.extract 0 p) w' (by simp; omega) hv'
      rw [ext_take, hK] at hN
      have HX := hid hN
      have TK := hid trivial
      have hp2 : (p : Int) < (t.size : Int) := by omega
      have hp3 : (p : Int) ≤ (t.size : Int) := by omega
      have he0 : ((e : Int) == 0) = false := beq_eq_false_iff_ne.2 (by omega)
      have h6 : ((e : Int) == 4) = true → (t.size : Int) ≤ 600 := fun h => by (have := eq_of_beq h); omega
      have H6 := hid h6
      clear hN hK hp hx h6
      rcases he with rfl | rfl | rfl | rfl | rfl
      case' inr.inr.inr.inr => have h6' := H6.out rfl
      all_goals
        clear H6
        rcases (by omega : at_ ≤ -1099511627776 ∨ (-1099511627776 < at_ ∧ at_ < 0) ∨ (0 ≤ at_ ∧ at_ < (t.size : Int)) ∨ ((t.size : Int) ≤ at_ ∧ at_ < 1099511627776) ∨ (1099511627776 ≤ at_ ∧ at_ < 9223372036854775807) ∨ at_ = 9223372036854775807) with h | ⟨h1, h2⟩ | ⟨h1, h2⟩ | ⟨h1, h2⟩ | ⟨h1, h2⟩ | h
        · have LB := hid (fun w' => line_at t (by omega) (at_ + 1) w')
          rw [line_low _ _ (by omega)] at LA LB
          clear hle
          go_enter Tryd.func10, Tryd.ntmps10
          go_wp2_with (first | (go_at_call 11; go_must (refine (shown_any _ V.out).mono ?_; rintro e w1 ⟨rfl, hf⟩; have F1 := hid hf; clear hf)) | (go_at_call 12; go_must (refine (HSH.out _).mono ?_; rintro e w3 ⟨rfl, rfl⟩)) | (go_at_call 18; with_reducible refine (LA.out _).mono ?_; rintro e w7 ⟨rfl, rfl⟩) | (go_at_call 18; with_reducible refine (LB.out _).mono ?_; rintro e w7 ⟨rfl, rfl⟩) | (go_at_call 18; with_reducible refine (L0.out _).mono ?_; rintro e w7 ⟨rfl, rfl⟩) | (go_at_call 13; clear TK; go_must (refine (HA.out _ (V.out.fr F1.out)).mono ?_; rintro e w2 ⟨rfl, hf2⟩; have F2 := hid hf2; clear hf2)) | (go_at_call 13; go_must (refine (HX.out _ ((V.out.fr F1.out).fr F2.out)).mono ?_; rintro e w4 ⟨⟨v, rfl, ht⟩, hf4⟩; obtain ⟨A, c9, rfl, hc1, hc2⟩ := ht.slice; have F4 := hid hf4; clear hf4 ht hc1)))
          go_ret
          exact ⟨rfl, (F1.out.tr F2.out).tr F4.out⟩
        · have LB := hid (fun w' => line_at t (by omega) (at_ + 1) w')
          rw [line_low _ _ (by omega)] at LA LB
          clear hle
          go_enter Tryd.func10, Tryd.ntmps10
          go_wp2_with (first | (go_at_call 11; go_must (refine (shown_any _ V.out).mono ?_; rintro e w1 ⟨rfl, hf⟩; have F1 := hid hf; clear hf)) | (go_at_call 12; go_must (refine (HSH.out _).mono ?_; rintro e w3 ⟨rfl, rfl⟩)) | (go_at_call 18; with_reducible refine (LA.out _).mono ?_; rintro e w7 ⟨rfl, rfl⟩) | (go_at_call 18; with_reducible refine (LB.out _).mono ?_; rintro e w7 ⟨rfl, rfl⟩) | (go_at_call 18; with_reducible refine (L0.out _).mono ?_; rintro e w7 ⟨rfl, rfl⟩) | (go_at_call 13; clear TK; go_must (refine (HA.out _ (V.out.fr F1.out)).mono ?_; rintro e w2 ⟨rfl, hf2⟩; have F2 := hid hf2; clear hf2)) | (go_at_call 13; go_must (refine (HX.out _ ((V.out.fr F1.out).fr F2.out)).mono ?_; rintro e w4 ⟨⟨v, rfl, ht⟩, hf4⟩; obtain ⟨A, c9, rfl, hc1, hc2⟩ := ht.slice; have F4 := hid hf4; clear hf4 ht hc1)))
          go_ret
          exact ⟨rfl, (F1.out.tr F2.out).tr F4.out⟩
        · have hk : at_.toNat < t.size := by omega
          have LB := hid (fun w' => line_at t (by omega) (at_ + 1) w')
          obtain ⟨c, hc⟩ : ∃ c, t[at_.toNat]'hk = c := ⟨_, rfl⟩
          have hlk := line_next t.data.toList at_.toNat c (by rw [List.getElem?_eq_getElem (by rw [HTL.out]; exact hk)]; exact congrArg some hc)
          rw [show ((at_.toNat : Nat) : Int) = at_ by omega] at hlk
          by_cases h10 : c = 10
          · rw [if_pos h10] at hlk
            rw [hlk] at LB
            generalize lineN t.data.toList at_ = n1 at *
            have hcb : ((c.toNat : Int) == 10) = true := by rw [h10]; rfl
            have hn1 : (1 : Int) ≤ (n1 : Int) := by omega
            have hn2 : (n1 : Int) ≤ 701 := by omega
            have LB := hid (show ∀ w', Calls Tryd.prog 18 #[.string t, .int .i64 (at_ + 1)] w' fun e w'' => e = .returned (.int .i64 ((n1 : Int) + 1)) ∧ w' = w'' from LB.out)
            clear hlk h10 hle
            go_enter Tryd.func10, Tryd.ntmps10
            go_wp2_with (first | (go_at_call 11; go_must (refine (shown_any _ V.out).mono ?_; rintro e w1 ⟨rfl, hf⟩; have F1 := hid hf; clear hf)) | (go_at_call 12; go_must (refine (HSH.out _).mono ?_; rintro e w3 ⟨rfl, rfl⟩)) | (go_at_call 18; with_reducible refine (LA.out _).mono ?_; rintro e w7 ⟨rfl, rfl⟩) | (go_at_call 18; with_reducible refine (LB.out _).mono ?_; rintro e w7 ⟨rfl, rfl⟩) | (go_at_call 18; with_reducible refine (L0.out _).mono ?_; rintro e w7 ⟨rfl, rfl⟩) | (go_at_call 13; clear TK; go_must (refine (HA.out _ (V.out.fr F1.out)).mono ?_; rintro e w2 ⟨rfl, hf2⟩; have F2 := hid hf2; clear hf2)) | (go_at_call 13; go_must (refine (HX.out _ ((V.out.fr F1.out).fr F2.out)).mono ?_; rintro e w4 ⟨⟨v, rfl, ht⟩, hf4⟩; obtain ⟨A, c9, rfl, hc1, hc2⟩ := ht.slice; have F4 := hid hf4; clear hf4 ht hc1)))
            go_ret
            exact ⟨rfl, (F1.out.tr F2.out).tr F4.out⟩
          · rw [if_neg h10, Nat.add_zero] at hlk
            rw [hlk] at LB
            generalize lineN t.data.toList at_ = n1 at *
            have hcb : ((c.toNat : Int) == 10) = false := beq_eq_false_iff_ne.2 (fun e => h10 (UInt8.toNat_inj.1 (by (have : (10 : UInt8).toNat = 10 := rfl); omega)))
            have hn1 : (1 : Int) ≤ (n1 : Int) := by omega
            have hn2 : (n1 : Int) ≤ 701 := by omega
            clear hlk h10 hle
            go_enter Tryd.func10, Tryd.ntmps10
            go_wp2_with (first | (go_at_call 11; go_must (refine (shown_any _ V.out).mono ?_; rintro e w1 ⟨rfl, hf⟩; have F1 := hid hf; clear hf)) | (go_at_call 12; go_must (refine (HSH.out _).mono ?_; rintro e w3 ⟨rfl, rfl⟩)) | (go_at_call 18; with_reducible refine (LA.out _).mono ?_; rintro e w7 ⟨rfl, rfl⟩) | (go_at_call 18; with_reducible refine (LB.out _).mono ?_; rintro e w7 ⟨rfl, rfl⟩) | (go_at_call 18; with_reducible refine (L0.out _).mono ?_; rintro e w7 ⟨rfl, rfl⟩) | (go_at_call 13; clear TK; go_must (refine (HA.out _ (V.out.fr F1.out)).mono ?_; rintro e w2 ⟨rfl, hf2⟩; have F2 := hid hf2; clear hf2)) | (go_at_call 13; go_must (refine (HX.out _ ((V.out.fr F1.out).fr F2.out)).mono ?_; rintro e w4 ⟨⟨v, rfl, ht⟩, hf4⟩; obtain ⟨A, c9, rfl, hc1, hc2⟩ := ht.slice; have F4 := hid hf4; clear hf4 ht hc1)))
            go_ret
            exact ⟨rfl, (F1.out.tr F2.out).tr F4.out⟩
        · have LB := hid (fun w' => line_at t (by omega) (at_ + 1) w')
          rw [line_high _ _ (by rw [HTL.out]; omega)] at LA LB hle
          generalize 1 + t.data.toList.count 10 = n1 at *
          have hn1 : (1 : Int) ≤ (n1 : Int) := by omega
          have hn2 : (n1 : Int) ≤ 701 := by omega
          clear hle
          go_enter Tryd.func10, Tryd.ntmps10
          go_wp2_with (first | (go_at_call 11; go_must (refine (shown_any _ V.out).mono ?_; rintro e w1 ⟨rfl, hf⟩; have F1 := hid hf; clear hf)) | (go_at_call 12; go_must (refine (HSH.out _).mono ?_; rintro e w3 ⟨rfl, rfl⟩)) | (go_at_call 18; with_reducible refine (LA.out _).mono ?_; rintro e w7 ⟨rfl, rfl⟩) | (go_at_call 18; with_reducible refine (LB.out _).mono ?_; rintro e w7 ⟨rfl, rfl⟩) | (go_at_call 18; with_reducible refine (L0.out _).mono ?_; rintro e w7 ⟨rfl, rfl⟩) | (go_at_call 13; clear TK; go_must (refine (HA.out _ (V.out.fr F1.out)).mono ?_; rintro e w2 ⟨rfl, hf2⟩; have F2 := hid hf2; clear hf2)) | (go_at_call 13; go_must (refine (HX.out _ ((V.out.fr F1.out).fr F2.out)).mono ?_; rintro e w4 ⟨⟨v, rfl, ht⟩, hf4⟩; obtain ⟨A, c9, rfl, hc1, hc2⟩ := ht.slice; have F4 := hid hf4; clear hf4 ht hc1)))
          go_ret
          exact ⟨rfl, (F1.out.tr F2.out).tr F4.out⟩
        · have LB := hid (fun w' => line_at t (by omega) (at_ + 1) w')
          rw [line_high _ _ (by rw [HTL.out]; omega)] at LA LB hle
          generalize 1 + t.data.toList.count 10 = n1 at *
          have hn1 : (1 : Int) ≤ (n1 : Int) := by omega
          have hn2 : (n1 : Int) ≤ 701 := by omega
          clear hle
          go_enter Tryd.func10, Tryd.ntmps10
          go_wp2_with (first | (go_at_call 11; go_must (refine (shown_any _ V.out).mono ?_; rintro e w1 ⟨rfl, hf⟩; have F1 := hid hf; clear hf)) | (go_at_call 12; go_must (refine (HSH.out _).mono ?_; rintro e w3 ⟨rfl, rfl⟩)) | (go_at_call 18; with_reducible refine (LA.out _).mono ?_; rintro e w7 ⟨rfl, rfl⟩) | (go_at_call 18; with_reducible refine (LB.out _).mono ?_; rintro e w7 ⟨rfl, rfl⟩) | (go_at_call 18; with_reducible refine (L0.out _).mono ?_; rintro e w7 ⟨rfl, rfl⟩) | (go_at_call 13; clear TK; go_must (refine (HA.out _ (V.out.fr F1.out)).mono ?_; rintro e w2 ⟨rfl, hf2⟩; have F2 := hid hf2; clear hf2)) | (go_at_call 13; go_must (refine (HX.out _ ((V.out.fr F1.out).fr F2.out)).mono ?_; rintro e w4 ⟨⟨v, rfl, ht⟩, hf4⟩; obtain ⟨A, c9, rfl, hc1, hc2⟩ := ht.slice; have F4 := hid hf4; clear hf4 ht hc1)))
          go_ret
          exact ⟨rfl, (F1.out.tr F2.out).tr F4.out⟩
        · subst h
          have LB := hid (fun w' => line_at t (by omega) (wrap64 9223372036854775808) w')
          rw [line_low _ _ (by unfold wrap64; omega)] at LB
          rw [line_high _ _ (by rw [HTL.out]; omega)] at LA hle
          generalize 1 + t.data.toList.count 10 = n1 at *
          have hn1 : (1 : Int) ≤ (n1 : Int) := by omega
          have hn2 : (n1 : Int) ≤ 701 := by omega
          clear hle
          go_enter Tryd.func10, Tryd.ntmps10
          go_wp2_with (first | (go_at_call 11; go_must (refine (shown_any _ V.out).mono ?_; rintro e w1 ⟨rfl, hf⟩; have F1 := hid hf; clear hf)) | (go_at_call 12; go_must (refine (HSH.out _).mono ?_; rintro e w3 ⟨rfl, rfl⟩)) | (go_at_call 18; with_reducible refine (LA.out _).mono ?_; rintro e w7 ⟨rfl, rfl⟩) | (go_at_call 18; with_reducible refine (LB.out _).mono ?_; rintro e w7 ⟨rfl, rfl⟩) | (go_at_call 18; with_reducible refine (L0.out _).mono ?_; rintro e w7 ⟨rfl, rfl⟩) | (go_at_call 13; clear TK; go_must (refine (HA.out _ (V.out.fr F1.out)).mono ?_; rintro e w2 ⟨rfl, hf2⟩; have F2 := hid hf2; clear hf2)) | (go_at_call 13; go_must (refine (HX.out _ ((V.out.fr F1.out).fr F2.out)).mono ?_; rintro e w4 ⟨⟨v, rfl, ht⟩, hf4⟩; obtain ⟨A, c9, rfl, hc1, hc2⟩ := ht.slice; have F4 := hid hf4; clear hf4 ht hc1)))
          go_ret
          exact ⟨rfl, (F1.out.tr F2.out).tr F4.out⟩
end Go.Proofs.YtcodonidmopodaaDoor
