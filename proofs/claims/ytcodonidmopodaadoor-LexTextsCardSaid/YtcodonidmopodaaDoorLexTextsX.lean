/- LexTexts: the walk. -/
import Derived.Test.YtcodonidmopodaaDoorLexTextsW
namespace Go.Proofs.YtcodonidmopodaaDoor
open Go.RowKit
set_option linter.unusedVariables false
set_option linter.unusedSimpArgs false

def quoteB (l : List UInt8) : Bool := l.any fun b => decide (b.toNat = 34)
theorem noQ_of {l : List UInt8} (h : quoteB l = false) : NoQ l := by
  intro b hb e
  have : quoteB l = true := List.any_eq_true.2 ⟨b, hb, by simpa using e⟩
  rw [h] at this; cases this
theorem fineB_snoc (l : List UInt8) (c : UInt8) : fineB (l ++ [c]) = (fineB l && (decide (32 ≤ c.toNat) && decide (c.toNat ≤ 126))) := by unfold fineB; simp
theorem quoteB_snoc (l : List UInt8) (c : UInt8) : quoteB (l ++ [c]) = (quoteB l || decide (c.toNat = 34)) := by unfold quoteB; simp
set_option maxHeartbeats 4000000 in
set_option maxRecDepth 100000 in
theorem texts_walk (s : ByteArray) (hs : s.size ≤ 281474976710656) (w : World) (hv : Vars w) :
    Calls Tryd.prog 7 #[.string s] w fun e w' => e = .returned (.bool true) ∧ Fr nob w w' := by
  have V := hid hv
  clear hv
  obtain ⟨t, ht⟩ : ∃ t, cutS s 20 = t := ⟨_, rfl⟩
  have hts : t.size ≤ 20 := by rw [← ht]; exact (cutS_size s 20).1
  unfold cutS at ht
  by_cases h : 20 < s.size
  case' pos =>
    rw [if_pos h] at ht
    have h2 : (20 : Int) < (s.size : Int) := by omega
    have h3 : (20 : Int) ≤ (s.size : Int) := by omega
    clear h
    have T := hid ht
    clear ht
    go_enter Tryd.func7, Tryd.ntmps7
    go_wp2_with (go_at_call 11; go_must (refine (shown_any _ V.out).mono ?_; rintro e w1 ⟨rfl, hf⟩; have F1 := hid hf; clear hf))
    rw [T.out]
    clear T h2 h3 hs
  case' neg =>
    rw [if_neg h] at ht
    have h2 : (s.size : Int) ≤ 20 := by omega
    clear h
    have ht' := ht.symm
    subst ht'
    clear ht
    go_enter Tryd.func7, Tryd.ntmps7
    go_wp2_with (go_at_call 11; go_must (refine (shown_any _ V.out).mono ?_; rintro e w1 ⟨rfl, hf⟩; have F1 := hid hf; clear hf))
    clear h2 hs
  all_goals
    go_loopw [4, 5, 6] (fun f q i w' => ∃ k : Nat, k ≤ t.size ∧ f = .bool (fineB (t.data.toList.take k)) ∧ q = .bool (quoteB (t.data.toList.take k)) ∧ i = .int .i64 k ∧ w' = w1) (fun _ _ i _ => t.size - (intOf i).toNat)
    case atStart => exact ⟨0, Nat.zero_le _, rfl, rfl, rfl, rfl⟩
    case round =>
      obtain ⟨k, hks, rfl, rfl, rfl, rfl⟩ := hrel
      by_cases hlt : k < t.size
      · have hF := fineB_snoc (t.data.toList.take k) (t[k]'hlt)
        have hQ := quoteB_snoc (t.data.toList.take k) (t[k]'hlt)
        rw [← take_snoc t k hlt] at hF hQ
        generalize fineB (t.data.toList.take k) = f at *
        generalize quoteB (t.data.toList.take k) = q at *
        obtain ⟨c, hc⟩ : ∃ c, t[k]'hlt = c := ⟨_, rfl⟩
        rw [hc] at hF hQ
        have HF := hid hF
        have HQ := hid hQ
        clear hF hQ
        rcases (by omega : (c.toNat : Int) < 32 ∨ (32 ≤ (c.toNat : Int) ∧ (c.toNat : Int) < 34) ∨ (c.toNat : Int) = 34 ∨ (34 < (c.toNat : Int) ∧ (c.toNat : Int) ≤ 126) ∨ 126 < (c.toNat : Int)) with a1 | ⟨a1, a2⟩ | a1 | ⟨a1, a2⟩ | a1
        all_goals
          first
          | (have hne : ((c.toNat : Int) == 34) = false := by (simp; omega)
             cases f <;> cases q
             all_goals
               go_wp2
               go_roundw
               case rel => exact ⟨k + 1, by omega, by rw [HF.out]; first | (simp; done) | (simp; omega) | (simp; rw [← Bool.decide_and]; exact decide_eq_decide.2 (by omega)), by rw [HQ.out]; simp; try omega, by go_num, trivial⟩
               case measure => simp [intOf]; omega)
          | (cases f <;> cases q
             all_goals
               go_wp2
               go_roundw
               case rel => exact ⟨k + 1, by omega, by rw [HF.out]; first | (simp; done) | (simp; omega) | (simp; rw [← Bool.decide_and]; exact decide_eq_decide.2 (by omega)), by rw [HQ.out]; simp; try omega, by go_num, trivial⟩
               case measure => simp [intOf]; omega)
      · have hk : k = t.size := by omega
        have htk : t.data.toList.take k = t.data.toList := List.take_of_length_le (by simp; omega)
        rw [htk]
        clear htk hlt
        subst hk
        by_cases hq : quoteB t.data.toList = true
        · rw [hq]
          go_wp2
          go_ret
          exact ⟨rfl, F1.out⟩
        · have hq' : quoteB t.data.toList = false := by simpa using hq
          have hN := noQ_of hq'
          rw [hq']
          have hlen : t.data.toList.length = t.size := by simp
          have hz1 : (⟨#[34]⟩ : ByteArray).size + t.size ≤ 9223372036854775807 := by
            have : (⟨#[34]⟩ : ByteArray).size = 1 := rfl
            omega
          have hz2 : ((⟨#[34]⟩ : ByteArray) ++ t).size + (⟨#[34]⟩ : ByteArray).size ≤ 9223372036854775807 := by
            have : (⟨#[34]⟩ : ByteArray).size = 1 := rfl
            rw [ByteArray.size_append]; omega
          have hz3 : (⟨#[97, 32, 34]⟩ : ByteArray).size + t.size ≤ 9223372036854775807 := by
            have : (⟨#[97, 32, 34]⟩ : ByteArray).size = 3 := rfl
            omega
          have hA := fun w' hv' => all_any ((⟨#[34]⟩ : ByteArray) ++ t ++ (⟨#[34]⟩ : ByteArray)) w' (by (have e1 : (⟨#[34]⟩ : ByteArray).size = 1 := rfl); rw [ByteArray.size_append, ByteArray.size_append]; omega) hv'
          have hB := fun w' hv' => all_any ((⟨#[97, 32, 34]⟩ : ByteArray) ++ t) w' (by (have e1 : (⟨#[97, 32, 34]⟩ : ByteArray).size = 3 := rfl); rw [ByteArray.size_append]; omega) hv'
          have e1 : ((⟨#[34]⟩ : ByteArray) ++ t ++ (⟨#[34]⟩ : ByteArray)).data.toList = 34 :: (t.data.toList ++ [34]) := by rw [cat_data, cat_data]; rfl
          have e2 : ((⟨#[97, 32, 34]⟩ : ByteArray) ++ t).data.toList = 97 :: 32 :: 34 :: t.data.toList := by rw [cat_data]; rfl
          rw [e1] at hA
          rw [e2, lex_texts_open hN (by rw [hlen]; omega)] at hB
          have HB := hid hB
          have TK := hid trivial
          clear hB e1 e2 hq
          cases hf : fineB t.data.toList with
          | false =>
            rw [lex_texts_bad hN hf (by rw [hlen]; omega)] at hA
            have HA := hid hA
            clear hA hN hq' hf hlen
            go_wp2_with (first | (go_at_call 13; clear TK; go_must (refine (HA.out _ (V.out.fr F1.out)).mono ?_; rintro e w2 ⟨rfl, hf2⟩; have F2 := hid hf2; clear hf2)) | (go_at_call 13; go_must (refine (HB.out _ ((V.out.fr F1.out).fr F2.out)).mono ?_; rintro e w3 ⟨rfl, hf3⟩; have F3 := hid hf3; clear hf3)))
            go_ret
            exact ⟨rfl, (F1.out.tr F2.out).tr F3.out⟩
          | true =>
            by_cases h12 : 12 < t.size
            · rw [lex_texts_long hN hf (by rw [hlen]; omega) (by rw [hlen]; omega)] at hA
              have HA := hid hA
              have h13 : (12 : Int) < (t.size : Int) := by omega
              clear hA hN hq' hf hlen h12
              go_wp2_with (first | (go_at_call 13; clear TK; go_must (refine (HA.out _ (V.out.fr F1.out)).mono ?_; rintro e w2 ⟨rfl, hf2⟩; have F2 := hid hf2; clear hf2)) | (go_at_call 13; go_must (refine (HB.out _ ((V.out.fr F1.out).fr F2.out)).mono ?_; rintro e w3 ⟨rfl, hf3⟩; have F3 := hid hf3; clear hf3)))
              go_ret
              exact ⟨rfl, (F1.out.tr F2.out).tr F3.out⟩
            · rw [lex_texts_good hN hf (by rw [hlen]; omega)] at hA
              have HA := hid hA
              have h13 : (t.size : Int) ≤ 12 := by omega
              clear hA hN hq' hf hlen h12
              go_wp2_with (first | (go_at_call 13; clear TK; go_must (refine (HA.out _ (V.out.fr F1.out)).mono ?_; rintro e w2 ⟨⟨v, rfl, ht⟩, hf2⟩; obtain ⟨A, c9, rfl, hc1, hc2⟩ := ht.slice; obtain ⟨g, rfl, hg, hg2, hat⟩ := ht.some (by simp); obtain ⟨x0, x1, x2⟩ := hat 0 _ rfl; rw [bs_data] at x1; have F2 := hid hf2; clear hf2 ht hat hc1)) | (go_at_call 13; go_must (refine (HB.out _ ((V.out.fr F1.out).fr F2.out)).mono ?_; rintro e w3 ⟨rfl, hf3⟩; have F3 := hid hf3; have y0 := (F3.out.cell hg2 (fun x => x)).trans x0; have y1 := (F3.out.cell hg2 (fun x => x)).trans x1; clear hf3)))
              go_ret
              exact ⟨rfl, (F1.out.tr F2.out).tr F3.out⟩
end Go.Proofs.YtcodonidmopodaaDoor
