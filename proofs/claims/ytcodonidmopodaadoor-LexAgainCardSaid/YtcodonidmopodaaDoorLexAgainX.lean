/- LexAgain: the walk. -/
import Derived.Test.YtcodonidmopodaaDoorLexAgainW
namespace Go.Proofs.YtcodonidmopodaaDoor
open Go.RowKit
set_option linter.unusedVariables false
set_option linter.unusedSimpArgs false

theorem spell_text (t : Tok) (h : t.kind = 2) (G : List UInt8) : bs G ++ (⟨#[32, 34]⟩ : ByteArray) ++ bs t.text ++ (⟨#[34]⟩ : ByteArray) = bs (G ++ spell t) := by
  show bs G ++ bs [32, 34] ++ bs t.text ++ bs [34] = _
  rw [bs_cat, bs_cat, bs_cat]
  unfold spell
  rw [if_pos h]
  simp
theorem spell_other (t : Tok) (h : t.kind ≠ 2) (G : List UInt8) : bs G ++ (⟨#[32]⟩ : ByteArray) ++ bs t.text = bs (G ++ spell t) := by
  show bs G ++ bs [32] ++ bs t.text = _
  rw [bs_cat, bs_cat]
  unfold spell
  rw [if_neg h]
  simp
theorem spell_len (t : Tok) : t.text.length ≤ (spell t).length := by
  unfold spell
  split <;> simp; omega

set_option maxHeartbeats 4000000 in
set_option maxRecDepth 100000 in
theorem again_walk (s : ByteArray) (hs : s.size ≤ 281474976710656) (w : World) (hv : Vars w) :
    Calls Tryd.prog 4 #[.string s] w fun e w' => e = .returned (.bool true) ∧ Fr nob w w' := by
  have V := hid hv
  clear hv
  have hsh := fun w' => short_any s hs w'
  have hts : (cutS s 700).size ≤ 700 := (cutS_size s 700).1
  generalize cutS s 700 = t at *
  have HSH := hid hsh
  obtain ⟨r, hr⟩ : ∃ r, lexM t.data.toList = r := ⟨_, rfl⟩
  have hA := fun w' hv' => all_any t w' (by omega) hv'
  rw [hr] at hA
  have R := hid hr
  have HA := hid hA
  clear hr hsh hA
  cases r with
  | bad p e =>
    have he : 1 ≤ e := lexM_bad R.out
    have he2 : ((e : Int) != 0) = true := by simp; omega
    clear he
    go_enter Tryd.func4, Tryd.ntmps4
    go_wp2_with (first | (go_at_call 11; go_must (refine (shown_any _ V.out).mono ?_; rintro e w1 ⟨rfl, hf⟩; have F1 := hid hf; clear hf)) | (go_at_call 12; go_must (refine (HSH.out _).mono ?_; rintro e w3 ⟨rfl, rfl⟩)) | (go_at_call 13; go_must (refine (HA.out _ (V.out.fr F1.out)).mono ?_; rintro e w2 ⟨rfl, hf2⟩; have F2 := hid hf2; clear hf2)))
    go_ret
    exact ⟨rfl, F1.out.tr F2.out⟩
  | good K =>
    have TK := hid trivial
    obtain ⟨hK0, hG, K', hl', hat', hM⟩ := lexM_again R.out
    have HK := hid hK0
    have HG := hid hG
    have HL := hid hl'
    have HAT := hid hat'
    have HM := hid hM
    clear hK0 hG hl' hat' hM
    go_enter Tryd.func4, Tryd.ntmps4
    go_wp2_with (first | (go_at_call 11; go_must (refine (shown_any _ V.out).mono ?_; rintro e w1 ⟨rfl, hf⟩; have F1 := hid hf; clear hf)) | (go_at_call 12; go_must (refine (HSH.out _).mono ?_; rintro e w3 ⟨rfl, rfl⟩)) | (go_at_call 13; clear TK; go_must (refine (HA.out _ (V.out.fr F1.out)).mono ?_; rintro e w2 ⟨⟨v, rfl, ht⟩, hf2⟩; obtain ⟨A, c9, rfl, hc1, hc2⟩ := ht.slice; have hK6 : K.length ≤ 9223372036854775807 := Nat.le_trans (Nat.le_trans hc1 hc2) (by decide); have TA := hid ht; have F2 := hid hf2; clear hf2 ht hc1)))
    obtain ⟨g1, rfl, hg1, hg1w, hat1⟩ := TA.out.some HK.out
    have H1 := hid hat1
    clear hat1
    go_loopw [7, 8] (fun s7 i w' => ∃ n : Nat, n + 1 ≤ K.length ∧ s7 = .string (bs (again (K.take n))) ∧ i = .int .i64 n ∧ w' = w2) (fun _ i _ => K.length - (intOf i).toNat)
    case atStart => exact ⟨0, HK.out, rfl, rfl, rfl⟩
    case round =>
      obtain ⟨n, hn, rfl, rfl, rfl⟩ := hrel
      have hK1 : (1 : Int) ≤ (K.length : Int) := by omega
      have hK7 : (K.length : Int) ≤ 9223372036854775807 := by omega
      by_cases hlt : n + 1 < K.length
      · have hlt1 : (n : Int) < (K.length : Int) - 1 := by omega
        have hlt2 : (n : Int) < (K.length : Int) := by omega
        obtain ⟨tk, htk⟩ : ∃ tk, K[n]? = some tk := ⟨K[n], List.getElem?_eq_getElem (by omega)⟩
        obtain ⟨x0, x1, x2⟩ := H1.out n tk htk
        have hsu := again_succ K n tk htk
        have hle := again_take K (n + 1) (by omega)
        have hG2 := HG.out
        rw [hsu, List.length_append] at hle
        have hsl := spell_len tk
        have ht12 : tk.text.length ≤ 1200 := by omega
        have hg12 : (again (K.take n)).length ≤ 1200 := by omega
        have SU := hid hsu
        clear hsu hle hG2 hsl htk hlt
        generalize again (K.take n) = G at *
        have hgs : (bs G).size ≤ 1200 := by rw [bs_len]; exact hg12
        have htt : (bs tk.text).size ≤ 1200 := by rw [bs_len]; exact ht12
        by_cases hk : tk.kind = 2
        · have HC := hid (spell_text tk hk G)
          have hkb : ((tk.kind : Int) == 2) = true := by simp; omega
          clear hk
          generalize bs tk.text = tt at *
          generalize hgm : bs G = gm at *
          have hz1 : gm.size + (⟨#[32, 34]⟩ : ByteArray).size ≤ 9223372036854775807 := by
            have : (⟨#[32, 34]⟩ : ByteArray).size = 2 := rfl
            omega
          have hz2 : (gm ++ (⟨#[32, 34]⟩ : ByteArray)).size + tt.size ≤ 9223372036854775807 := by
            have : (⟨#[32, 34]⟩ : ByteArray).size = 2 := rfl
            rw [ByteArray.size_append]; omega
          have hz3 : (gm ++ (⟨#[32, 34]⟩ : ByteArray) ++ tt).size + (⟨#[34]⟩ : ByteArray).size ≤ 9223372036854775807 := by
            have : (⟨#[32, 34]⟩ : ByteArray).size = 2 := rfl
            have : (⟨#[34]⟩ : ByteArray).size = 1 := rfl
            rw [ByteArray.size_append, ByteArray.size_append]; omega
          clear hgm
          go_wp2
          go_roundw
          case rel => exact ⟨n + 1, by omega, by rw [SU.out, ← HC.out], by go_num, trivial⟩
          case measure => simp [intOf]; omega
        · have HC := hid (spell_other tk hk G)
          have hkb : ((tk.kind : Int) == 2) = false := by simp; omega
          clear hk
          generalize bs tk.text = tt at *
          generalize hgm : bs G = gm at *
          have hz1 : gm.size + (⟨#[32]⟩ : ByteArray).size ≤ 9223372036854775807 := by
            have : (⟨#[32]⟩ : ByteArray).size = 1 := rfl
            omega
          have hz2 : (gm ++ (⟨#[32]⟩ : ByteArray)).size + tt.size ≤ 9223372036854775807 := by
            have : (⟨#[32]⟩ : ByteArray).size = 1 := rfl
            rw [ByteArray.size_append]; omega
          clear hgm
          go_wp2
          go_roundw
          case rel => exact ⟨n + 1, by omega, by rw [SU.out, ← HC.out], by go_num, trivial⟩
          case measure => simp [intOf]; omega
      · have hge1 : (K.length : Int) - 1 ≤ (n : Int) := by omega
        have hd : K.take n = K.dropLast := by rw [List.dropLast_eq_take, show K.length - 1 = n by omega]
        rw [hd]
        clear hd hlt
        have hG2 := HG.out
        have HM2 := HM.out
        generalize again K.dropLast = G at *
        have hN := fun w' hv' => all_any (bs G) w' (by rw [bs_len]; omega) hv'
        rw [show (bs G).data.toList = G from rfl] at hN
        have hbl2 : (bs G).size = G.length := bs_len G
        generalize hnm' : bs G = gm at *
        have hgm : gm.size ≤ 1200 := by omega
        by_cases hbig : 600 < gm.size
        · have hbig2 : (600 : Int) < (gm.size : Int) := by omega
          rw [HM2, if_pos (by omega)] at hN
          have HN := hid hN
          clear hN hbig HM2 hbl2 hnm' hG2
          go_wp2_with (go_at_call 13; go_must (refine (HN.out _ ((V.out.fr F1.out).fr F2.out)).mono ?_; rintro e w4 ⟨rfl, hf4⟩; have F4 := hid hf4; clear hf4))
          go_ret
          exact ⟨rfl, (F1.out.tr F2.out).tr F4.out⟩
        · have hbig2 : (gm.size : Int) ≤ 600 := by omega
          rw [HM2, if_neg (by omega)] at hN
          have HN := hid hN
          clear hN hbig HM2 hbl2 hnm' hG2
          go_wp2_with (go_at_call 13; go_must (refine (HN.out _ ((V.out.fr F1.out).fr F2.out)).mono ?_; rintro e w4 ⟨⟨v, rfl, ht4⟩, hf4⟩; obtain ⟨A5, c5, hv5, hc5, hc6⟩ := ht4.slice; rw [HL.out] at hv5; subst hv5; have TB := hid ht4; have F4 := hid hf4; clear hf4 ht4 hc5))
          obtain ⟨g2, rfl, hg2, hg2w, hat2⟩ := TB.out.some (by rw [HL.out]; exact HK.out)
          have hg1v : g1 < w4.heap.size := Nat.lt_of_lt_of_le hg1w F4.out.size
          have H2 := hid hat2
          clear hat2
          go_loopw [12] (fun i w' => ∃ j : Nat, j ≤ K.length ∧ i = .int .i64 j ∧ Hid (Fr nob w4 w')) (fun i _ => K.length - (intOf i).toNat)
          case atStart => exact ⟨0, Nat.zero_le _, rfl, hid (Fr.refl nob w4)⟩
          case round =>
            obtain ⟨j, hj, rfl, F5⟩ := hrel
            by_cases hjl : j < K.length
            · have hjl2 : (j : Int) < (K.length : Int) := by omega
              obtain ⟨tk, htk⟩ : ∃ tk, K[j]? = some tk := ⟨K[j], List.getElem?_eq_getElem hjl⟩
              obtain ⟨tk2, htk2, e1, e2⟩ := HAT.out j tk htk
              obtain ⟨x0, x1, x2⟩ := H1.out j tk htk
              obtain ⟨y0, y1, y2⟩ := H2.out j tk2 htk2
              rw [e1] at y0
              rw [e2] at y1
              have x0 := ((F4.out.tr F5.out).cell hg1w (fun x => x)).trans x0
              have x1 := ((F4.out.tr F5.out).cell hg1w (fun x => x)).trans x1
              have y0 := (F5.out.cell hg2w (fun x => x)).trans y0
              have y1 := (F5.out.cell hg2w (fun x => x)).trans y1
              have hj6 : (j : Int) + 1 ≤ 9223372036854775807 := by omega
              clear htk htk2 e1 e2 x2 y2
              generalize bs tk.text = tt at *
              go_wp2
              go_quiet (fail)
              go_wp2
              go_roundw
              case rel => exact ⟨j + 1, by omega, by go_num, hid (F5.out.drewN _)⟩
              case measure => simp [intOf]; omega
            · have hjl2 : (K.length : Int) ≤ (j : Int) := by omega
              go_wp2
              go_ret
              exact ⟨rfl, ((F1.out.tr F2.out).tr F4.out).tr F5.out⟩
end Go.Proofs.YtcodonidmopodaaDoor
