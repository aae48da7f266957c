/- LexNumbers: the digits' walk. -/
import Derived.Test.YtcodonidmopodaaDoorLexNumbersW
namespace Go.Proofs.YtcodonidmopodaaDoor
open Go.RowKit
set_option linter.unusedVariables false
set_option linter.unusedSimpArgs false

set_option maxHeartbeats 800000 in
set_option maxRecDepth 100000 in
theorem digits_any (n : Nat) (hn : n ≤ 9223372036854775807) (w : World) :
    Calls Tryd.prog 15 #[.int .i64 n] w fun e w' => (∃ l, e = .returned (.string (bs l)) ∧ allDigits l ∧ 0 < l.length ∧ l.length ≤ 19 ∧ digitsVal 0 l = n) ∧ w = w' := by
  go_enter Tryd.func15, Tryd.ntmps15
  go_wp2
  go_loopw [0, 3, 4] (fun a s i w' => ∃ (q k : Nat) (l : List UInt8), a = .int .i64 q ∧ s = .string (bs l) ∧ i = .int .i64 k ∧ k ≤ 18 ∧ q ≤ n ∧ Hid (DigL n q k l) ∧ w = w') (fun _ _ i _ => 20 - (intOf i).toNat)
  case atStart => exact ⟨n, 0, [], rfl, rfl, rfl, by omega, Nat.le_refl _, hid ⟨fun c hc => (by cases hc), rfl, by simp [digitsVal]⟩, rfl⟩
  case round =>
    obtain ⟨q, k, l, rfl, rfl, rfl, hk, hqn, H, rfl⟩ := hrel
    obtain ⟨d, hd⟩ : ∃ d, q % 10 = d := ⟨_, rfl⟩
    obtain ⟨q2, hq2⟩ : ∃ q2, q / 10 = q2 := ⟨_, rfl⟩
    have hd10 : d < 10 := by omega
    have hN := H.out.next (48 + d).toUInt8 (by rw [hd, Nat.toUInt8_eq, UInt8.toNat_ofNat']; omega)
    rw [hq2] at hN
    have HN := hid hN
    have hx : (⟨#[48, 49, 50, 51, 52, 53, 54, 55, 56, 57]⟩ : ByteArray).extract d (d + 1) = bs [(48 + d).toUInt8] := by
      rcases (by omega : d = 0 ∨ d = 1 ∨ d = 2 ∨ d = 3 ∨ d = 4 ∨ d = 5 ∨ d = 6 ∨ d = 7 ∨ d = 8 ∨ d = 9) with rfl | rfl | rfl | rfl | rfl | rfl | rfl | rfl | rfl | rfl <;> rfl
    have hlk : l.length = k := H.out.len
    have ht : ((q : Int)).tmod 10 = (d : Int) := by rw [Int.tmod_eq_emod_of_nonneg (by omega)]; omega
    have hq : ((q : Int)).tdiv 10 = (q2 : Int) := by rw [Int.tdiv_eq_ediv_of_nonneg (by omega)]; omega
    have hqb : (q2 : Int) ≤ 922337203685477580 := by omega
    have hsz : ((⟨#[48, 49, 50, 51, 52, 53, 54, 55, 56, 57]⟩ : ByteArray).extract d (d + 1)).size + (bs l).size ≤ 9223372036854775807 := by
      rw [hx, bs_len, bs_len, hlk]; simp; omega
    have X := hid hx
    have hqs := fun (h : 0 < q2) => hN.short hn h
    have HQ := hid hqs
    have HL := hid hlk
    have Q2 := hid hq2
    have D := hid hd
    clear hN hx hqs hlk hq2 hd
    by_cases h0 : q2 = 0
    · subst h0
      go_wp2
      go_ret
      rw [X.out, bs_cat]
      exact ⟨⟨_, rfl, HN.out.all, by simp, by rw [List.length_append]; simp [HL.out]; omega, HN.out.done⟩, rfl⟩
    · have h1 : ((q2 : Int) == 0) = false := by simp; omega
      go_wp2
      go_roundw
      case rel => exact ⟨q2, k + 1, (48 + d).toUInt8 :: l, rfl, by rw [X.out, bs_cat]; rfl, by go_num, HQ.out (by omega), by (have := Q2.out); omega, hid HN.out, trivial⟩
      case measure => simp [intOf]; omega

theorem and63 (n : Int) : ∃ m : Nat, bits .and .i64 n 9223372036854775807 = (m : Int) ∧ m ≤ 9223372036854775807 := by
  have h127 : (BitVec.ofInt 64 9223372036854775807).toNat = 2 ^ 63 - 1 := by decide
  have key : (BitVec.ofInt 64 n &&& BitVec.ofInt 64 9223372036854775807).toNat = (n % ((2 ^ 64 : Nat) : Int)).toNat % 2 ^ 63 := by
    rw [BitVec.toNat_and, BitVec.toNat_ofInt, h127, Nat.and_two_pow_sub_one_eq_mod]
  refine ⟨(n % ((2 ^ 64 : Nat) : Int)).toNat % 2 ^ 63, ?_, by omega⟩
  show IntKind.i64.wrap ((BitVec.ofInt 64 n &&& BitVec.ofInt 64 9223372036854775807).toNat : Nat) = _
  rw [key, IntKind.wrap_i64]
  omega
theorem and_u8 (a b : Int) : ∃ m : Nat, bits .and .u8 a b = (m : Int) ∧ m ≤ 255 := by
  unfold bits
  rw [IntKind.wrap_u8']
  refine ⟨(_ % 256 : Int).toNat, (Int.toNat_of_nonneg (Int.emod_nonneg _ (by decide))).symm, ?_⟩
  have := Int.emod_lt_of_pos ((BitVec.ofInt IntKind.u8.bits a &&& BitVec.ofInt IntKind.u8.bits b).toNat : Int) (b := 256) (by decide)
  omega

set_option maxHeartbeats 4000000 in
set_option maxRecDepth 100000 in
theorem numbers_walk (n b : Int) (w : World) (hv : Vars w) :
    Calls Tryd.prog 6 #[.int .i64 n, .int .u8 b] w fun e w' => e = .returned (.bool true) ∧ Fr nob w w' := by
  have V := hid hv
  clear hv
  obtain ⟨v, hv, hvm⟩ := and63 n
  obtain ⟨m, hm, hm2⟩ := and_u8 b 7
  have hm3 : (m : Int) ≤ 255 := by omega
  go_enter Tryd.func6, Tryd.ntmps6
  go_wp2_with (first | (go_at_call 11; go_must (refine (shown_any _ V.out).mono ?_; rintro e w1 ⟨rfl, hf⟩; have F1 := hid hf; clear hf)) | (go_at_call 15; go_must (refine (digits_any v hvm _).mono ?_; rintro e w2 ⟨⟨l, rfl, h1, h2, h3, h4⟩, rfl⟩; have L1 := hid h1; have L2 := hid h2; have L3 := hid h3; have L4 := hid h4; clear h1 h2 h3 h4)))
  go_loopw [6, 7] (fun s i w' => ∃ j : Nat, j ≤ m ∧ s = .string (bs (List.replicate j 48 ++ l)) ∧ i = .int .i64 j ∧ w' = w1) (fun _ i _ => m - (intOf i).toNat)
  case atStart => exact ⟨0, Nat.zero_le _, rfl, rfl, rfl⟩
  case round =>
    obtain ⟨j, hj, rfl, rfl, rfl⟩ := hrel
    have hl : (List.replicate j (48 : UInt8) ++ l).length = j + l.length := by simp
    by_cases hlt : j < m
    · have hlt2 : (j : Int) < (m : Int) := by omega
      have hz : (⟨#[48]⟩ : ByteArray).size + (bs (List.replicate j 48 ++ l)).size ≤ 9223372036854775807 := by
        have e1 : (⟨#[48]⟩ : ByteArray).size = 1 := rfl
        have := L3.out
        rw [bs_len, hl]; omega
      have hcat : (⟨#[48]⟩ : ByteArray) ++ bs (List.replicate j 48 ++ l) = bs (List.replicate (j + 1) 48 ++ l) := by
        show bs [48] ++ bs (List.replicate j 48 ++ l) = _
        rw [bs_cat]; rfl
      have HC := hid hcat
      clear hcat hl
      go_wp2
      go_roundw
      case rel => exact ⟨j + 1, by omega, by rw [HC.out], by go_num, trivial⟩
      case measure => simp [intOf]; omega
    · have hge : (m : Int) ≤ (j : Int) := by omega
      have hall := L1.out.noughts j
      have hval : digitsVal 0 (List.replicate j (48 : UInt8) ++ l) ≤ 9223372036854775807 := by rw [digitsVal_noughts, L4.out]; exact hvm
      have h0 : 0 < (List.replicate j (48 : UInt8) ++ l).length := by have := L2.out; omega
      have h6 : (List.replicate j (48 : UInt8) ++ l).length ≤ 500 := by have := L3.out; omega
      clear hl hlt
      generalize List.replicate j (48 : UInt8) ++ l = L at *
      have hLs : (bs L).size = L.length := bs_len L
      have hz : (bs L).size + (⟨#[59]⟩ : ByteArray).size ≤ 9223372036854775807 := by
        have e1 : (⟨#[59]⟩ : ByteArray).size = 1 := rfl
        rw [hLs]; omega
      have hA := fun w' hv' => all_any (bs L ++ (⟨#[59]⟩ : ByteArray)) w' (by (have e1 : (⟨#[59]⟩ : ByteArray).size = 1 := rfl); rw [ByteArray.size_append, hLs]; omega) hv'
      have e1 : (bs L ++ (⟨#[59]⟩ : ByteArray)).data.toList = L ++ [59] := by rw [cat_data]; rfl
      rw [e1, lex_digits hall h0 h6 hval] at hA
      have hB := fun w' hv' => all_any ⟨#[57, 50, 50, 51, 51, 55, 50, 48, 51, 54, 56, 53, 52, 55, 55, 53, 56, 48, 56]⟩ w' (by decide) hv'
      have hC := fun w' hv' => all_any ⟨#[57, 50, 50, 51, 51, 55, 50, 48, 51, 54, 56, 53, 52, 55, 55, 53, 56, 48, 55]⟩ w' (by decide) hv'
      rw [show (⟨#[57, 50, 50, 51, 51, 55, 50, 48, 51, 54, 56, 53, 52, 55, 55, 53, 56, 48, 56]⟩ : ByteArray).data.toList = [57, 50, 50, 51, 51, 55, 50, 48, 51, 54, 56, 53, 52, 55, 55, 53, 56, 48, 56] from rfl, lex_over] at hB
      rw [show (⟨#[57, 50, 50, 51, 51, 55, 50, 48, 51, 54, 56, 53, 52, 55, 55, 53, 56, 48, 55]⟩ : ByteArray).data.toList = [57, 50, 50, 51, 51, 55, 50, 48, 51, 54, 56, 53, 52, 55, 55, 53, 56, 48, 55] from rfl, lex_most] at hC
      have HB := hid hB
      have HC := hid hC
      have T1 := hid trivial
      have T2 := hid trivial
      have HS := hid hLs
      clear hB hC e1 hall hval h0
      generalize hnm : bs L = nm at *
      have NM := hid hnm
      clear hnm hLs
      by_cases h19 : 19 < L.length
      · rw [if_pos h19] at hA
        have HA := hid hA
        have h9 : (19 : Int) < (nm.size : Int) := by rw [HS.out]; omega
        clear hA h19
        go_wp2_with (go_at_call 13; go_must (refine (HA.out _ (V.out.fr F1.out)).mono ?_; rintro e w2 ⟨rfl, hf2⟩; have F2 := hid hf2; clear hf2))
        go_ret
        exact ⟨rfl, F1.out.tr F2.out⟩
      · rw [if_neg h19] at hA
        have HA := hid hA
        have h9 : (nm.size : Int) ≤ 19 := by rw [HS.out]; omega
        clear hA h19
        go_wp2_with (first | (go_at_call 13; clear T1; go_must (refine (HA.out _ (V.out.fr F1.out)).mono ?_; rintro e w2 ⟨⟨v, rfl, ht⟩, hf2⟩; obtain ⟨A, c9, rfl, hc1, hc2⟩ := ht.slice; obtain ⟨g, rfl, hg, hg2, hat⟩ := ht.some (by simp); obtain ⟨x0, x1, x2⟩ := hat 0 _ rfl; rw [NM.out] at x1; have F2 := hid hf2; clear hf2 ht hat hc1)) | (go_at_call 13; clear T2; go_must (refine (HB.out _ ((V.out.fr F1.out).fr F2.out)).mono ?_; rintro e w3 ⟨rfl, hf3⟩; have F3 := hid hf3; have y0 := (F3.out.cell hg2 (fun x => x)).trans x0; have y1 := (F3.out.cell hg2 (fun x => x)).trans x1; have hg3 := Nat.lt_of_lt_of_le hg2 hf3.size; clear hf3 x0 x1)) | (go_at_call 13; go_must (refine (HC.out _ (((V.out.fr F1.out).fr F2.out).fr F3.out)).mono ?_; rintro e w4 ⟨⟨v4, rfl, ht4⟩, hf4⟩; obtain ⟨A4, c4, rfl, hc4, hc5⟩ := ht4.slice; have F4 := hid hf4; have z0 := (F4.out.cell hg3 (fun x => x)).trans y0; have z1 := (F4.out.cell hg3 (fun x => x)).trans y1; clear hf4 ht4 y0 y1 hc4)))
        go_ret
        exact ⟨rfl, ((F1.out.tr F2.out).tr F3.out).tr F4.out⟩
end Go.Proofs.YtcodonidmopodaaDoor
