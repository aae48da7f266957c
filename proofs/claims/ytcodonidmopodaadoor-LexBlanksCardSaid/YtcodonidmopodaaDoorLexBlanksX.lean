/- LexBlanks: the walk. -/
import Derived.Test.YtcodonidmopodaaDoorLexBlanksW
import Derived.Test.YtcodonidmopodaaDoorLexPlacesW
namespace Go.Proofs.YtcodonidmopodaaDoor
open Go.RowKit
set_option linter.unusedVariables false
set_option linter.unusedSimpArgs false
theorem and_small (a b : Int) (B : Nat) (h1 : 0 ≤ a) (h2 : a < 256) (h3 : 0 ≤ b) (h4 : b < 256) (hB : b.toNat ≤ B) : ∃ m : Nat, bits .and .u8 a b = (m : Int) ∧ m ≤ B :=
  ⟨a.toNat &&& b.toNat, u8_and a b h1 h2 h3 h4, Nat.le_trans Nat.and_le_right hB⟩
theorem and_u8 (a b : Int) : ∃ m : Nat, bits .and .u8 a b = (m : Int) ∧ m ≤ 255 := by
  unfold bits
  rw [IntKind.wrap_u8']
  refine ⟨(_ % 256 : Int).toNat, (Int.toNat_of_nonneg (Int.emod_nonneg _ (by decide))).symm, ?_⟩
  have := Int.emod_lt_of_pos ((BitVec.ofInt IntKind.u8.bits a &&& BitVec.ofInt IntKind.u8.bits b).toNat : Int) (b := 256) (by decide)
  omega
def lexUp (d : Nat) (K : List Tok) : List Tok := K.map (Tok.up d)
/-- What the two rows hold at i. -/
theorem up_at (d : Nat) (K : List Tok) {i : Nat} (h : i < K.length) : ∃ t, K[i]? = some t ∧ (lexUp d K)[i]? = some (t.up d) := by
  refine ⟨K[i], List.getElem?_eq_getElem h, ?_⟩
  unfold lexUp
  rw [List.getElem?_map, List.getElem?_eq_getElem h]; rfl
theorem place_le {l : List UInt8} {K : List Tok} (h : lexM l = .good K) {i : Nat} {t : Tok} (hi : K[i]? = some t) : t.place ≤ l.length := by
  have hp := (lex_placed h).2
  have hlt := (List.getElem?_eq_some_iff.1 hi).1
  by_cases e : i + 1 < K.length
  · obtain ⟨u, u', h1, h2, h3, h4, h5, _⟩ := hp.at_ i e
    rw [hi] at h1
    injection h1 with h1
    subst h1
    have := h3.room
    unfold Tok.from at this
    split at this <;> omega
  · have h2 := hp.end_.2
    rw [show K.length - 1 = i by omega, hi] at h2
    injection h2 with h2
    subst h2
    exact Nat.le_refl _

/-- The blank that is chosen. -/
theorem blank_at (wh : Nat) (h : wh ≤ 3) : ∃ B : ByteArray, (#[Value.string ⟨#[32]⟩, .string ⟨#[9]⟩, .string ⟨#[10]⟩, .string ⟨#[47, 47, 32, 120, 32, 34, 10]⟩] : Array Value)[wh]? = some (.string B) ∧ B = bs (blankL wh) := by
  rcases (by omega : wh = 0 ∨ wh = 1 ∨ wh = 2 ∨ wh = 3) with rfl | rfl | rfl | rfl
  · exact ⟨_, rfl, rfl⟩
  · exact ⟨_, rfl, rfl⟩
  · exact ⟨_, rfl, rfl⟩
  · exact ⟨_, rfl, rfl⟩
theorem lexUp_len (d : Nat) (K : List Tok) : (lexUp d K).length = K.length := by unfold lexUp; simp
theorem up_place (t : Tok) (d : Nat) : (.int .i64 ((t.up d).place : Nat) : Value) = .int .i64 ((t.place : Int) + (d : Int)) := by
  show Value.int .i64 ((t.place + d : Nat) : Int) = _
  rw [Int.natCast_add]

set_option maxHeartbeats 4000000 in
set_option maxRecDepth 100000 in
theorem blanks_walk (s : ByteArray) (hs : s.size ≤ 281474976710656) (a b : Int) (ha1 : 0 ≤ a) (ha2 : a < 256) (w : World) (hv : Vars w) :
    Calls Tryd.prog 8 #[.string s, .int .u8 a, .int .u8 b] w fun e w' => e = .returned (.bool true) ∧ Fr nob w w' := by
  have V := hid hv
  clear hv
  obtain ⟨wh, hwh, hwh3⟩ := and_small a 3 3 ha1 ha2 (by decide) (by decide) (by decide)
  obtain ⟨m, hm, hm2⟩ := and_u8 b 15
  have hm3 : (m : Int) ≤ 255 := by omega
  have hw3 : (wh : Int) < 4 := by omega
  clear ha1 ha2
  obtain ⟨B, hB, hB2⟩ := blank_at wh hwh3
  have HB := hid hB2
  clear hB2
  obtain ⟨t, ht⟩ : ∃ t, cutS s 300 = t := ⟨_, rfl⟩
  have hts : t.size ≤ 300 := by rw [← ht]; exact (cutS_size s 300).1
  unfold cutS at ht
  obtain ⟨r, hr⟩ : ∃ r, lexM t.data.toList = r := ⟨_, rfl⟩
  have hA := fun w' hv' => all_any t w' (by omega) hv'
  rw [hr] at hA
  have R := hid hr
  clear hr
  cases r with
  | bad p e =>
    have he : 1 ≤ e := lexM_bad R.out
    have he2 : ((e : Int) != 0) = true := by simp; omega
    clear he
    by_cases h : 300 < s.size
    · rw [if_pos h] at ht
      have h2 : (300 : Int) < (s.size : Int) := by omega
      have h3 : (300 : Int) ≤ (s.size : Int) := by omega
      clear h
      rw [← ht] at hA
      have HA := hid hA
      clear ht hA
      go_enter Tryd.func8, Tryd.ntmps8
      go_wp2_with (first | (go_at_call 11; go_must (refine (shown_any _ V.out).mono ?_; rintro e w1 ⟨rfl, hf⟩; have F1 := hid hf; clear hf)) | (go_at_call 13; go_must (refine (HA.out _ (V.out.fr F1.out)).mono ?_; rintro e w2 ⟨rfl, hf2⟩; have F2 := hid hf2; clear hf2)))
      go_ret
      exact ⟨rfl, F1.out.tr F2.out⟩
    · rw [if_neg h] at ht
      have h2 : (s.size : Int) ≤ 300 := by omega
      clear h
      rw [← ht] at hA
      have HA := hid hA
      clear ht hA
      go_enter Tryd.func8, Tryd.ntmps8
      go_wp2_with (first | (go_at_call 11; go_must (refine (shown_any _ V.out).mono ?_; rintro e w1 ⟨rfl, hf⟩; have F1 := hid hf; clear hf)) | (go_at_call 13; go_must (refine (HA.out _ (V.out.fr F1.out)).mono ?_; rintro e w2 ⟨rfl, hf2⟩; have F2 := hid hf2; clear hf2)))
      go_ret
      exact ⟨rfl, F1.out.tr F2.out⟩
  | good K =>
    have TK := hid trivial
    by_cases h : 300 < s.size
    case' pos =>
      rw [if_pos h] at ht
      have h2 : (300 : Int) < (s.size : Int) := by omega
      have h3 : (300 : Int) ≤ (s.size : Int) := by omega
      clear h
      rw [← ht] at hA
      have HA := hid hA
      have T := hid ht
      clear ht hA
      go_enter Tryd.func8, Tryd.ntmps8
      go_wp2_with (first | (go_at_call 11; go_must (refine (shown_any _ V.out).mono ?_; rintro e w1 ⟨rfl, hf⟩; have F1 := hid hf; clear hf)) | (go_at_call 13; clear TK; go_must (refine (HA.out _ (V.out.fr F1.out)).mono ?_; rintro e w2 ⟨⟨v, rfl, ht⟩, hf2⟩; obtain ⟨A, c9, rfl, hc1, hc2⟩ := ht.slice; have hK6 : K.length ≤ 9223372036854775807 := Nat.le_trans (Nat.le_trans hc1 hc2) (by decide); have TA := hid ht; have F2 := hid hf2; clear hf2 ht hc1)))
      rw [T.out]
      clear T HA h2 h3 hs
    case' neg =>
      rw [if_neg h] at ht
      have h2 : (s.size : Int) ≤ 300 := by omega
      clear h
      have ht' := ht.symm
      subst ht'
      have HA := hid hA
      clear ht hA
      go_enter Tryd.func8, Tryd.ntmps8
      go_wp2_with (first | (go_at_call 11; go_must (refine (shown_any _ V.out).mono ?_; rintro e w1 ⟨rfl, hf⟩; have F1 := hid hf; clear hf)) | (go_at_call 13; clear TK; go_must (refine (HA.out _ (V.out.fr F1.out)).mono ?_; rintro e w2 ⟨⟨v, rfl, ht⟩, hf2⟩; obtain ⟨A, c9, rfl, hc1, hc2⟩ := ht.slice; have hK6 : K.length ≤ 9223372036854775807 := Nat.le_trans (Nat.le_trans hc1 hc2) (by decide); have TA := hid ht; have F2 := hid hf2; clear hf2 ht hc1)))
      clear HA h2 hs
    all_goals
      clear hB
      go_loopw [12, 13] (fun g i w' => ∃ n : Nat, n ≤ m ∧ g = .string (bs (gapL wh n)) ∧ i = .int .i64 n ∧ Hid (Fr nob w2 w')) (fun _ i _ => m - (intOf i).toNat)
      case atStart => exact ⟨0, Nat.zero_le _, rfl, rfl, hid ((Fr.refl nob w2).alloc _)⟩
      case round =>
        obtain ⟨n, hnm, rfl, rfl, F3⟩ := hrel
        have hgl := gapL_len wh n
        have hbl := blankL_len wh
        have hg : (gapL wh n).length ≤ 2000 := by
          have := Nat.mul_le_mul (Nat.le_trans hnm hm2) hbl
          omega
        clear hgl
        by_cases hlt : n < m
        · have hlt2 : (n : Int) < (m : Int) := by omega
          have hz : (bs (gapL wh n)).size + B.size ≤ 9223372036854775807 := by rw [HB.out, bs_len, bs_len]; omega
          have HC := hid (show bs (gapL wh n) ++ B = bs (gapL wh (n + 1)) by rw [HB.out, bs_cat, gapL_succ])
          clear hg hbl hlt
          go_wp2
          go_roundw
          case rel => exact ⟨n + 1, by omega, by rw [HC.out], by go_num, F3⟩
          case measure => simp [intOf]; omega
        · have hge : (m : Int) ≤ (n : Int) := by omega
          have hL := lex_blanks wh n t.data.toList
          have htl : t.data.toList.length = t.size := by simp
          rw [R.out, htl] at hL
          have HL := hid hL
          clear hbl hlt hL
          generalize gapL wh n = G at *
          have hN := fun w' hv' => all_any (bs G ++ t) w' (by rw [ByteArray.size_append, bs_len]; omega) hv'
          rw [cat_data, show (bs G).data.toList = G from rfl] at hN
          have hz : (bs G).size + t.size ≤ 9223372036854775807 := by rw [bs_len]; omega
          have hbl2 : (bs G).size = G.length := bs_len G
          have HS := hid hbl2
          have F3' := F3.out
          generalize hnm' : bs G = gm at *
          clear hbl2
          have NM := hid hnm'
          clear hnm'
          have hgm : gm.size ≤ 2000 := by rw [HS.out]; exact hg
          by_cases hbig : 600 < gm.size + t.size
          · have hbig2 : (600 : Int) < (gm.size : Int) + (t.size : Int) := by omega
            rw [lex_big (by rw [List.length_append, htl, ← HS.out]; exact hbig)] at hN
            have HN := hid hN
            clear hN hbig F3' hg
            go_wp2_with (go_at_call 13; go_must (refine (HN.out _ (((V.out.fr F1.out).fr F2.out).fr F3.out)).mono ?_; rintro e w4 ⟨rfl, hf4⟩; have F4 := hid hf4; clear hf4))
            go_ret
            exact ⟨rfl, ((F1.out.tr F2.out).tr F3.out).tr F4.out⟩
          · have hbig2 : (gm.size : Int) + (t.size : Int) ≤ 600 := by omega
            rw [HL.out (by rw [← HS.out]; omega)] at hN
            have HN := hid hN
            have hul := hid (lexUp_len G.length K)
            have hK0 := (lex_placed R.out).2.end_.1
            have HK := hid hK0
            clear hN hbig F3' hg hK0
            go_wp2_with (go_at_call 13; go_must (refine (HN.out _ (((V.out.fr F1.out).fr F2.out).fr F3.out)).mono ?_; rintro e w4 ⟨⟨v, rfl, ht4⟩, hf4⟩; obtain ⟨A5, c5, hv5, hc5, hc6⟩ := ht4.slice; rw [show (List.map (Tok.up G.length) K).length = K.length from hul.out] at hv5; subst hv5; have TB := hid ht4; have F4 := hid hf4; clear hf4 ht4 hc5))
            obtain ⟨g1, rfl, hg1, hg1w, hat1⟩ := (((TA.out.no F3.out).no F4.out)).some HK.out
            obtain ⟨g2, rfl, hg2, hg2w, hat2⟩ := TB.out.some (by (have := HK.out); have := hul.out; unfold lexUp at this; omega)
            have H1 := hid hat1
            have H2 := hid hat2
            clear hat1 hat2
            go_loopw [17] (fun i w' => ∃ j : Nat, j ≤ K.length ∧ i = .int .i64 j ∧ Hid (Fr nob w4 w')) (fun i _ => K.length - (intOf i).toNat)
            case atStart => exact ⟨0, Nat.zero_le _, rfl, hid (Fr.refl nob w4)⟩
            case round =>
              obtain ⟨j, hj, rfl, F5⟩ := hrel
              by_cases hjl : j < K.length
              · have hjl2 : (j : Int) < (K.length : Int) := by omega
                obtain ⟨tk, htk, huk⟩ := up_at G.length K hjl
                have hpl := place_le R.out htk
                rw [htl] at hpl
                obtain ⟨x0, x1, x2⟩ := H1.out j tk htk
                obtain ⟨y0, y1, y2⟩ := H2.out j _ huk
                have x0 := (F5.out.cell hg1w (fun x => x)).trans x0
                have x1 := (F5.out.cell hg1w (fun x => x)).trans x1
                have x2 := (F5.out.cell hg1w (fun x => x)).trans x2
                have y0 := (F5.out.cell hg2w (fun x => x)).trans y0
                have y1 := (F5.out.cell hg2w (fun x => x)).trans y1
                have y2 := (F5.out.cell hg2w (fun x => x)).trans y2
                rw [up_place, ← HS.out] at y2
                rw [show (tk.up G.length).kind = tk.kind from rfl] at y0
                rw [show (tk.up G.length).text = tk.text from rfl] at y1
                have hj6 : (j : Int) + 1 ≤ 9223372036854775807 := by omega
                have hp1 : (tk.place : Int) ≤ 300 := by omega
                clear huk htk hpl
                generalize bs tk.text = tt at *
                go_wp2
                go_quiet (fail)
                go_wp2
                go_roundw
                case rel => exact ⟨j + 1, by omega, by go_num, hid (F5.out.drewN _)⟩
                case measure => simp [intOf]; omega
              · have hjl2 : (K.length : Int) ≤ (j : Int) := by omega
                go_wp2
                go_ret
                exact ⟨rfl, (((F1.out.tr F2.out).tr F3.out).tr F4.out).tr F5.out⟩
end Go.Proofs.YtcodonidmopodaaDoor
