/- The lexer's texts and signs: the walks. -/
import Derived.Test.YtcodonidmopodaaDoorLexD
namespace Go.Proofs.YtcodonidmopodaaDoor
open Go.RowKit
set_option linter.unusedVariables false
set_option linter.unusedSimpArgs false

def textM (l : List UInt8) : One :=
  if l.length ≤ runN plainI (l.drop 1) + 1 ∨ byteAt l (runN plainI (l.drop 1) + 1) ≠ 34 then .err 11
  else if 12 < runN plainI (l.drop 1) then .err 4 else .ok 2 1 (runN plainI (l.drop 1)) (runN plainI (l.drop 1) + 2)
def oneB (c : Int) : Bool := decide (0 ≤ Lib.indexByte onesS.data.toList c.toNat.toUInt8)
def signM (l : List UInt8) : One := if 1 < l.length ∧ twoB (l.take 2) = true then .ok 5 0 2 2 else if oneB (byteAt l 0) then .ok 5 0 1 1 else .err 10

set_option maxHeartbeats 800000 in
theorem text_any (s : ByteArray) (w : World) (hs : s.size ≤ 281474976710656) (h0 : 0 < s.size) :
    Calls Tryd.prog 37 #[.string s] w fun e w' => e = .returned (oneV s (textM s.data.toList)) ∧ Fr nob w w' := by
  have hex : (s.extract 1 s.size).data.toList = s.data.toList.drop 1 := Lib.extract_to_end s 1
  have hsx : (s.extract 1 s.size).size = s.size - 1 := by simp
  have hn := runN_le plainI (s.extract 1 s.size).data.toList
  have hn2 : runN plainI (s.extract 1 s.size).data.toList + 1 ≤ s.size := by
    have : (s.extract 1 s.size).data.toList.length = s.size - 1 := by simp
    omega
  have hr := hid (run_plain (s.extract 1 s.size) (by omega))
  unfold textM
  rw [hex] at hr hn2
  have hl : s.data.toList.length = s.size := by simp
  rw [hl]
  have hby := fun h => byteAt_eq s (runN plainI (s.data.toList.drop 1) + 1) h
  generalize runN plainI (s.data.toList.drop 1) = n at *
  clear hn hex hsx hl
  by_cases h1 : s.size ≤ n + 1
  · rw [if_pos (.inl h1)]
    have h2 : (s.size : Int) ≤ (n : Int) + 1 := by omega
    clear hby
    go_enter Tryd.func37, Tryd.ntmps37
    go_wp2_with (go_at_call 23; refine (hr.out _).mono ?_; rintro e w1 ⟨rfl, rfl⟩)
    refine bodyPost_ret (v := oneV s (.err 11)) (by simp [results, Tryd.results37, go_sem, oneV, tokV]; try rfl) rfl ⟨by simp, (Fr.refl nob w).alloc _⟩
  · have h3 : n + 1 < s.size := by omega
    have hb := hby h3
    clear hby
    by_cases hq : ((s[n + 1]'h3).toNat : Int) = 34
    · rw [if_neg (by rw [hb, hq]; simp; omega)]
      have hqb : s[n + 1]'h3 = 34 := by
        have : (s[n + 1]'h3).toNat = 34 := by omega
        exact UInt8.toNat_inj.1 this
      have hi : (n : Int) + 1 < (s.size : Int) := by omega
      by_cases h12 : 12 < n
      · rw [if_pos h12]
        have h4 : (12 : Int) < (n : Int) := by omega
        clear hb h1
        go_enter Tryd.func37, Tryd.ntmps37
        go_wp2_with (go_at_call 23; refine (hr.out _).mono ?_; rintro e w1 ⟨rfl, rfl⟩)
        refine bodyPost_ret (v := oneV s (.err 4)) (by simp [results, Tryd.results37, go_sem, oneV, tokV]; try rfl) rfl ⟨by simp, (Fr.refl nob w).alloc _⟩
      · rw [if_neg h12]
        have h4 : (n : Int) ≤ 12 := by omega
        clear hb h1
        go_enter Tryd.func37, Tryd.ntmps37
        go_wp2_with (go_at_call 23; refine (hr.out _).mono ?_; rintro e w1 ⟨rfl, rfl⟩)
        refine bodyPost_ret (v := oneV s (.ok 2 1 n (n + 2))) (by simp [results, Tryd.results37, go_sem, oneV, tokV]; try rfl) rfl ⟨by simp, (Fr.refl nob w).alloc _⟩
    · rw [if_pos (.inr (by rw [hb]; exact hq))]
      have hi : (n : Int) + 1 < (s.size : Int) := by omega
      have hq1 : (((s[n + 1]'h3).toNat : Int) != 34) = true := bne_iff_ne.2 hq
      clear hb h1 hq
      go_enter Tryd.func37, Tryd.ntmps37
      go_wp2_with (go_at_call 23; refine (hr.out _).mono ?_; rintro e w1 ⟨rfl, rfl⟩)
      refine bodyPost_ret (v := oneV s (.err 11)) (by simp [results, Tryd.results37, go_sem, oneV, tokV]; try rfl) rfl ⟨by simp, (Fr.refl nob w).alloc _⟩

theorem among2 (ss : List ByteArray) (n : Nat) (hn : ss.length = n) (hm : n ≤ 9223372036854775807) (x : ByteArray) (g : Nat) (w : World) (hB : Blk w g 9 (ss.map Value.string).toArray) :
    Calls Tryd.prog 26 #[.slice (some ⟨g, 0, none⟩) n n, .string x] w fun e w' => e = .returned (.bool (isIn ss x.data.toList)) ∧ w = w' := by
  refine (Tryd.slices_Contains_string _ _ _ _ ss x _ (by omega) hm (fun j hj => ?_)).mono ?_
  · have := hB.cell j
    rw [Nat.zero_add, this]
    simp [List.getD, hj]
  · rintro e w' ⟨rfl, rfl⟩
    rw [List.take_of_length_le (by omega), mem_bytes]
    exact ⟨rfl, rfl⟩
theorem idx_ones (c : Int) (w : World) : Calls Tryd.prog 21 #[.string ⟨#[40, 41, 123, 125, 91, 93, 44, 59, 61, 60, 43, 45, 42, 47, 37, 33]⟩, .int .u8 c] w fun e w' =>
    ∃ i : Int, e = .returned (.int .i64 i) ∧ oneB c = decide (0 ≤ i) ∧ w' = w := by
  refine (Tryd.strings_IndexByte _ c w).mono ?_
  rintro e w' ⟨rfl, rfl⟩
  exact ⟨_, rfl, rfl, rfl⟩

set_option maxHeartbeats 1600000 in
set_option maxRecDepth 100000 in
theorem sign_any (s : ByteArray) (w : World) (hs : s.size ≤ 281474976710656) (h0 : 0 < s.size) (hv : Vars w) :
    Calls Tryd.prog 38 #[.string s] w fun e w' => e = .returned (oneV s (signM s.data.toList)) ∧ Fr nob w w' := by
  have hl : s.data.toList.length = s.size := by simp
  have hb := byteAt_eq s 0 h0
  have hex : (s.extract 0 2).data.toList = s.data.toList.take 2 := ext_take _ _
  unfold signM
  rw [hl, hb]
  have V := hid hv
  clear hv hl hb
  have HA := hid (fun g w' hB => among2 twosS 5 rfl (by decide) (s.extract 0 2) g w' hB)
  rw [hex] at HA
  have e2 : twoB (s.data.toList.take 2) = isIn twosS (s.data.toList.take 2) := rfl
  rw [e2]
  generalize isIn twosS (s.data.toList.take 2) = b at *
  have HO := hid (idx_ones ((s[0]'h0).toNat : Int))
  generalize oneB ((s[0]'h0).toNat : Int) = ob at *
  clear hex e2
  have h3 : (0 : Int) < (s.size : Int) := by omega
  by_cases h1 : 1 < s.size
  · have h2 : (1 : Int) < (s.size : Int) := by omega
    have h4 : (2 : Int) ≤ (s.size : Int) := by omega
    have hd : decide ((1 : Int) < (s.size : Int)) = true := decide_eq_true h2
    cases b with
    | true =>
      rw [if_pos ⟨h1, rfl⟩]
      go_enter Tryd.func38, Tryd.ntmps38
      go_wp2
      go_region_held3 (fun _ => True) (trivial) (first | (go_at_call 27; with_reducible refine (split_twos _ (V.out.fr (((Fr.refl nob w).alloc _).drew))).mono ?_; rintro e w6 ⟨rfl, rfl⟩) | (go_at_call 26; with_reducible refine (HA.out _ _ (by (have hB := Blk.new (w.alloc (.cells #[.int .i64 0, .string ⟨#[]⟩, .int .i64 0] 29)) 9 (twosS.map Value.string).toArray); rw [World.size_alloc] at hB; exact hB.fr ((Fr.refl nob _).drew) (fun x => x))).mono ?_; rintro e w7 ⟨rfl, rfl⟩))
      go_wp2
      refine bodyPost_ret (v := oneV s (.ok 5 0 2 2)) (by simp [results, Tryd.results38, go_sem, oneV, tokV]; try rfl) rfl ⟨by simp, (((Fr.refl nob w).alloc _).alloc _).drew⟩
    | false =>
      rw [if_neg (by simp)]
      go_enter Tryd.func38, Tryd.ntmps38
      go_wp2
      go_region_held3 (fun _ => True) (trivial) (first | (go_at_call 27; with_reducible refine (split_twos _ (V.out.fr (((Fr.refl nob w).alloc _).drew))).mono ?_; rintro e w6 ⟨rfl, rfl⟩) | (go_at_call 26; with_reducible refine (HA.out _ _ (by (have hB := Blk.new (w.alloc (.cells #[.int .i64 0, .string ⟨#[]⟩, .int .i64 0] 29)) 9 (twosS.map Value.string).toArray); rw [World.size_alloc] at hB; exact hB.fr ((Fr.refl nob _).drew) (fun x => x))).mono ?_; rintro e w7 ⟨rfl, rfl⟩))
      cases ob with
      | true =>
        go_wp2_with (go_at_call 21; go_must (refine (HO.out _).mono ?_; rintro e w5 ⟨i, rfl, hob, rfl⟩; have hi : (0 : Int) ≤ i := of_decide_eq_true hob.symm; clear hob))
        refine bodyPost_ret (v := oneV s (.ok 5 0 1 1)) (by simp [results, Tryd.results38, go_sem, oneV, tokV]; try rfl) rfl ⟨by simp, (((Fr.refl nob w).alloc _).alloc _).drew⟩
      | false =>
        go_wp2_with (go_at_call 21; go_must (refine (HO.out _).mono ?_; rintro e w5 ⟨i, rfl, hob, rfl⟩; have hi : i < (0 : Int) := Int.not_le.1 (of_decide_eq_false hob.symm); clear hob))
        refine bodyPost_ret (v := oneV s (.err 10)) (by simp [results, Tryd.results38, go_sem, oneV, tokV]; try rfl) rfl ⟨by simp, (((Fr.refl nob w).alloc _).alloc _).drew⟩
  · rw [if_neg (by omega)]
    have hd : decide ((1 : Int) < (s.size : Int)) = false := decide_eq_false (by omega)
    clear h1
    go_enter Tryd.func38, Tryd.ntmps38
    go_wp2
    go_quiet (fail)
    cases ob with
    | true =>
      go_wp2_with (go_at_call 21; go_must (refine (HO.out _).mono ?_; rintro e w5 ⟨i, rfl, hob, rfl⟩; have hi : (0 : Int) ≤ i := of_decide_eq_true hob.symm; clear hob))
      refine bodyPost_ret (v := oneV s (.ok 5 0 1 1)) (by simp [results, Tryd.results38, go_sem, oneV, tokV]; try rfl) rfl ⟨by simp, Fr.box3 ((Fr.refl nob _).drewN _) _ _ _⟩
    | false =>
      go_wp2_with (go_at_call 21; go_must (refine (HO.out _).mono ?_; rintro e w5 ⟨i, rfl, hob, rfl⟩; have hi : i < (0 : Int) := Int.not_le.1 (of_decide_eq_false hob.symm); clear hob))
      refine bodyPost_ret (v := oneV s (.err 10)) (by simp [results, Tryd.results38, go_sem, oneV, tokV]; try rfl) rfl ⟨by simp, Fr.box3 ((Fr.refl nob _).drewN _) _ _ _⟩
end Go.Proofs.YtcodonidmopodaaDoor
