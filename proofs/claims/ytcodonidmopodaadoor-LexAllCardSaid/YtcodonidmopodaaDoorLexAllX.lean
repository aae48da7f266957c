/- LexAll: the walk. -/
import Derived.Test.YtcodonidmopodaaDoorLexRefI
namespace Go.Proofs.YtcodonidmopodaaDoor
open Go.RowKit
set_option linter.unusedVariables false
set_option linter.unusedSimpArgs false

theorem same_nil (w : World) : Calls Tryd.prog 17 #[.slice none 0 0, .slice none 0 0] w fun e w' => e = .returned (.bool true) ∧ Fr nob w w' := by
  go_enter Tryd.func17, Tryd.ntmps17
  go_wp2
  go_loopw [5] (fun i w' => i = .int .i64 0 ∧ w' = w) (fun i _ => 1)
  case atStart => exact ⟨rfl, rfl⟩
  case round =>
    obtain ⟨rfl, rfl⟩ := hrel
    go_wp2
    go_ret
    exact ⟨rfl, Fr.refl _ _⟩

set_option maxHeartbeats 1600000 in
set_option maxRecDepth 100000 in
theorem same_toks {b1 b2 : Nat} {w : World} {A1 A2 : Option Addr} {c1 c2 : Nat} {K : List Tok} (hK : 0 < K.length) (h1 : Toks b1 w (.slice A1 K.length c1) K) (h2 : Toks b2 w (.slice A2 K.length c2) K) :
    Calls Tryd.prog 17 #[.slice A1 K.length c1, .slice A2 K.length c2] w fun e w' => e = .returned (.bool true) ∧ Fr nob w w' := by
  obtain ⟨g1, rfl, hg1, hg1w, hat1⟩ := h1.some hK
  obtain ⟨g2, rfl, hg2, hg2w, hat2⟩ := h2.some hK
  have hK6 : K.length ≤ 9223372036854775807 := by
    obtain ⟨A, c, e, h3, h4⟩ := h1.slice
    exact Nat.le_trans (Nat.le_trans h3 h4) (by decide)
  have H1 := hid hat1
  have H2 := hid hat2
  clear hat1 hat2 h1 h2 hg1 hg2
  go_enter Tryd.func17, Tryd.ntmps17
  go_wp2
  go_loopw [5] (fun i w' => ∃ j : Nat, j ≤ K.length ∧ i = .int .i64 j ∧ Hid (Fr nob w w')) (fun i _ => K.length - (intOf i).toNat)
  case atStart => exact ⟨0, Nat.zero_le _, rfl, hid (Fr.refl nob w)⟩
  case round =>
    obtain ⟨j, hj, rfl, F5⟩ := hrel
    by_cases hjl : j < K.length
    · have hjl2 : (j : Int) < (K.length : Int) := by omega
      obtain ⟨tk, htk⟩ : ∃ tk, K[j]? = some tk := ⟨K[j], List.getElem?_eq_getElem hjl⟩
      obtain ⟨x0, x1, x2⟩ := H1.out j tk htk
      obtain ⟨y0, y1, y2⟩ := H2.out j tk htk
      have x0 := (F5.out.cell hg1w (fun x => x)).trans x0
      have x1 := (F5.out.cell hg1w (fun x => x)).trans x1
      have x2 := (F5.out.cell hg1w (fun x => x)).trans x2
      have y0 := (F5.out.cell hg2w (fun x => x)).trans y0
      have y1 := (F5.out.cell hg2w (fun x => x)).trans y1
      have y2 := (F5.out.cell hg2w (fun x => x)).trans y2
      have hj6 : (j : Int) + 1 ≤ 9223372036854775807 := by omega
      clear htk
      generalize bs tk.text = tt at *
      generalize ((tk.kind : Nat) : Int) = tkk at *
      generalize ((tk.place : Nat) : Int) = tkp at *
      go_wp2
      go_quiet (fail)
      go_wp2
      go_roundw
      case rel => exact ⟨j + 1, by omega, by go_num, hid (F5.out.drewN _)⟩
      case measure => simp [intOf]; omega
    · have hjl2 : (K.length : Int) ≤ (j : Int) := by omega
      go_wp2
      go_ret
      exact ⟨rfl, F5.out⟩

theorem lex_good_pos' : ∀ (n : Nat) (l : List UInt8) (p : Nat), l.length ≤ n → ∀ K, lexFrom l p = .good K → 0 < K.length := by
  intro n
  induction n with
  | zero =>
    intro l p h K hb
    have : l = [] := List.eq_nil_of_length_eq_zero (by omega)
    subst this
    rw [lex_nil] at hb
    injection hb with hb
    subst hb; simp
  | succ n ih =>
    intro l p h K
    refine lex_step (Mo := fun l p => l.length ≤ n + 1 → lexFrom l p = .good K → 0 < K.length) l p ?_ ?_ ?_ ?_ ?_ h
    · intro _ _ hb
      rw [lex_nil] at hb
      injection hb with hb
      subst hb; simp
    · intro h0 hb h hl
      rw [lex_blank h0 hb] at hl
      exact ih _ _ (by rw [List.length_drop]; omega) _ hl
    · intro h0 hb hr h1 h hl
      rw [lex_remark h0 hb hr] at hl
      exact ih _ _ (by rw [List.length_drop]; omega) _ hl
    · intro e' h0 hb hr hf h hl
      rw [lex_err h0 hb hr hf] at hl; cases hl
    · intro k o m n' h0 hb hr hf h hl
      rw [lex_ok h0 hb hr hf] at hl
      cases hx : lexFrom (l.drop n') (p + n') with
      | bad i' e' => rw [hx] at hl; cases hl
      | good J =>
        rw [hx] at hl
        injection hl with hl
        subst hl; simp
theorem lex_good_pos {l : List UInt8} {K : List Tok} (h : lexM l = .good K) : 0 < K.length := by
  unfold lexM at h
  split at h
  · cases h
  · exact lex_good_pos' _ _ _ (Nat.le_refl _) _ h

set_option maxHeartbeats 4000000 in
set_option maxRecDepth 100000 in
theorem lexall_walk (s : ByteArray) (hs : s.size ≤ 281474976710656) (at_ : Int) (w : World) (hv : Vars w) :
    Calls Tryd.prog 9 #[.string s, .int .i64 at_] w fun e w' => e = .returned (.bool true) ∧ Fr nob w w' := by
  have V := hid hv
  clear hv
  have hsh := fun w' => short_any s hs w'
  have hts : (cutS s 700).size ≤ 700 := (cutS_size s 700).1
  generalize cutS s 700 = t at *
  have HSH := hid hsh
  have hA := fun w' hv' => all_any t w' (by omega) hv'
  have hB := fun w' => rall_any t w' (by omega)
  have LA := hid (fun w' => line_at t (by omega) at_ w')
  have LB := hid (fun w' => rline_any t (by omega) at_ w')
  have WA := hid (fun w' hv' => word_any t w' hv')
  have WB := hid (fun w' => rword_any t w')
  obtain ⟨r, hr⟩ : ∃ r, lexM t.data.toList = r := ⟨_, rfl⟩
  rw [hr] at hA hB
  have HA := hid hA
  have HB := hid hB
  have R := hid hr
  clear hr hsh hA hB
  generalize lineN t.data.toList at_ = n1 at *
  generalize wordB t.data.toList = wb at *
  cases r with
  | bad p e =>
    go_enter Tryd.func9, Tryd.ntmps9
    go_wp2_with (first | (go_at_call 11; go_must (refine (shown_any _ V.out).mono ?_; rintro e w1 ⟨rfl, hf⟩; have F1 := hid hf; clear hf)) | (go_at_call 12; go_must (refine (HSH.out _).mono ?_; rintro e w3 ⟨rfl, rfl⟩)) | (go_at_call 13; go_must (refine (HA.out _ (V.out.fr F1.out)).mono ?_; rintro e w2 ⟨rfl, hf2⟩; have F2 := hid hf2; clear hf2)) | (go_at_call 16; go_must (refine (HB.out _).mono ?_; rintro e w4 ⟨rfl, hf4⟩; have F4 := hid hf4; clear hf4)) | (go_at_call 17; go_must (refine (same_nil _).mono ?_; rintro e w5 ⟨rfl, hf5⟩; have F5 := hid hf5; clear hf5)) | (go_at_call 18; refine (LA.out _).mono ?_; rintro e w7 ⟨rfl, rfl⟩) | (go_at_call 19; refine (LB.out _).mono ?_; rintro e w8 ⟨rfl, rfl⟩) | (go_at_call 14; go_must (refine (WA.out _ ((((V.out.fr F1.out).fr F2.out).fr F4.out).fr F5.out)).mono ?_; rintro e w6 ⟨rfl, hf6⟩; have F6 := hid hf6; clear hf6)) | (go_at_call 20; go_must (refine (WB.out _).mono ?_; rintro e w9 ⟨rfl, hf9⟩; have F9 := hid hf9; clear hf9)))
    go_ret
    exact ⟨by simp, ((((F1.out.tr F2.out).tr F4.out).tr F5.out).tr F6.out).tr F9.out⟩
  | good K =>
    have HK := hid (lex_good_pos R.out)
    go_enter Tryd.func9, Tryd.ntmps9
    go_wp2_with (first | (go_at_call 11; go_must (refine (shown_any _ V.out).mono ?_; rintro e w1 ⟨rfl, hf⟩; have F1 := hid hf; clear hf)) | (go_at_call 12; go_must (refine (HSH.out _).mono ?_; rintro e w3 ⟨rfl, rfl⟩)) | (go_at_call 13; go_must (refine (HA.out _ (V.out.fr F1.out)).mono ?_; rintro e w2 ⟨⟨v, rfl, ht⟩, hf2⟩; obtain ⟨A, c9, rfl, hc1, hc2⟩ := ht.slice; have TA := hid ht; have F2 := hid hf2; clear hf2 ht hc1)) | (go_at_call 16; go_must (refine (HB.out _).mono ?_; rintro e w4 ⟨⟨v4, rfl, ht4⟩, hf4⟩; obtain ⟨A4, c4, rfl, hc4, hc5⟩ := ht4.slice; have TB := hid ht4; have F4 := hid hf4; clear hf4 ht4 hc4)) | (go_at_call 17; go_must (refine (same_toks HK.out (TA.out.no F4.out) TB.out).mono ?_; rintro e w5 ⟨rfl, hf5⟩; have F5 := hid hf5; clear hf5)) | (go_at_call 18; refine (LA.out _).mono ?_; rintro e w7 ⟨rfl, rfl⟩) | (go_at_call 19; refine (LB.out _).mono ?_; rintro e w8 ⟨rfl, rfl⟩) | (go_at_call 14; go_must (refine (WA.out _ ((((V.out.fr F1.out).fr F2.out).fr F4.out).fr F5.out)).mono ?_; rintro e w6 ⟨rfl, hf6⟩; have F6 := hid hf6; clear hf6)) | (go_at_call 20; go_must (refine (WB.out _).mono ?_; rintro e w9 ⟨rfl, hf9⟩; have F9 := hid hf9; clear hf9)))
    go_ret
    exact ⟨by simp, ((((F1.out.tr F2.out).tr F4.out).tr F5.out).tr F6.out).tr F9.out⟩
end Go.Proofs.YtcodonidmopodaaDoor
