/- The reference's token: texts and signs. -/
import Derived.Test.YtcodonidmopodaaDoorLexRefG
namespace Go.Proofs.YtcodonidmopodaaDoor
open Go.RowKit
set_option linter.unusedVariables false
set_option linter.unusedSimpArgs false

theorem textM_shape {l : List UInt8} {k o m n : Nat} (h : textM l = .ok k o m n) : k = 2 ∧ o = 1 ∧ n = m + 2 := by
  unfold textM at h
  split at h
  · cases h
  · split at h
    · cases h
    · injection h with h1 h2 h3 h4; omega
theorem signM_shape {l : List UInt8} {k o m n : Nat} (h : signM l = .ok k o m n) : k = 5 ∧ o = 0 ∧ n = m ∧ 1 ≤ m := by
  unfold signM at h
  split at h
  · injection h with h1 h2 h3 h4; omega
  · split at h
    · injection h with h1 h2 h3 h4; omega
    · cases h
theorem signM_err {l : List UInt8} {e : Nat} (h : signM l = .err e) : e = 10 := by
  unfold signM at h
  split at h
  · cases h
  · split at h
    · cases h
    · injection h with h; exact h.symm

set_option maxRecDepth 100000 in
set_option maxHeartbeats 1600000 in
theorem rone_quote (s : ByteArray) (hs : s.size ≤ 281474976710656) (a : Nat) (ha : a < s.size) (w : World) (hq : byteAt s.data.toList a = 34) :
    Calls Tryd.prog 29 #[.string s, .int .i64 a] w fun e w' => OneAt s.data.toList a e ∧ Fr nob w w' := by
  have hf : firstM (s.data.toList.drop a) = textM (s.data.toList.drop a) := by
    unfold firstM
    rw [byteAt_drop', Nat.add_zero, hq, if_neg (by decide), if_neg (by decide), if_pos (by decide)]
  have HF := hid hf
  have hai : (a : Int) < (s.size : Int) := by omega
  obtain ⟨c, hc⟩ : ∃ c, s[a]'ha = c := ⟨_, rfl⟩
  rw [byteAt_eq s a ha, hc] at hq
  have HD := hid (fun w' => rdigit_any 34 w')
  rw [show digitI 34 = false from rfl] at HD
  have HT := hid (fun w' => rletter_any 34 w')
  rw [show letterI 34 = false from rfl] at HT
  have hX := fun w' => rtext_any s hs a ha w'
  clear hf
  cases hx : textM (s.data.toList.drop a) with
  | ok k o m n =>
    obtain ⟨rfl, rfl, rfl⟩ := textM_shape hx
    have e1 : textR s.data.toList a = .returned (.tuple #[.string (bs ((s.data.toList.drop (a + 1)).take m)), .int .i64 ((a + (m + 2) : Nat) : Int), .int .i64 0]) := by
      unfold textR; rw [hx]
    rw [e1] at hX
    obtain ⟨x, hx1⟩ : ∃ x, bs ((s.data.toList.drop (a + 1)).take m) = x := ⟨_, rfl⟩
    obtain ⟨q, hq1⟩ : ∃ q : Nat, a + (m + 2) = q := ⟨_, rfl⟩
    rw [hx1, hq1] at hX
    have HX := hid hX
    have X1 := hid (show x = bs (((s.data.toList.drop a).drop 1).take m) by rw [List.drop_drop]; exact hx1.symm)
    have Q1 := hid hq1.symm
    have HFX := hid (HF.out.trans hx)
    clear hX e1 hx1 hq1 hx
    go_enter Tryd.func29, Tryd.ntmps29
    go_wp2_with (first | (go_at_call 41; refine (HD.out _).mono ?_; rintro e w1 ⟨rfl, rfl⟩) | (go_at_call 43; refine (HT.out _).mono ?_; rintro e w1 ⟨rfl, rfl⟩) | (go_at_call 44; refine (HX.out _).mono ?_; rintro e w1 ⟨rfl, rfl⟩))
    refine bodyPost_ret (v := .tuple #[tokV 2 x a, .int .i64 q, .int .i64 0]) (by simp [results, Tryd.results29, go_sem, tokV]; try rfl) rfl ⟨one_ok HFX.out _ X1.out _ Q1.out, (Fr.refl nob w).alloc _⟩
  | err e =>
    have e1 : textR s.data.toList a = .returned (.tuple #[.string ⟨#[]⟩, .int .i64 a, .int .i64 e]) := by
      unfold textR; rw [hx]
    rw [e1] at hX
    have HX := hid hX
    have HFX := hid (HF.out.trans hx)
    clear hX e1 hx
    go_enter Tryd.func29, Tryd.ntmps29
    go_wp2_with (first | (go_at_call 41; refine (HD.out _).mono ?_; rintro e w1 ⟨rfl, rfl⟩) | (go_at_call 43; refine (HT.out _).mono ?_; rintro e w1 ⟨rfl, rfl⟩) | (go_at_call 44; refine (HX.out _).mono ?_; rintro e w1 ⟨rfl, rfl⟩))
    refine bodyPost_ret (v := .tuple #[.agg #[.int .i64 2, .string ⟨#[]⟩, .int .i64 a], .int .i64 a, .int .i64 e]) (by simp [results, Tryd.results29, go_sem, tokV]; try rfl) rfl ⟨one_err HFX.out _ _ _ _, (Fr.refl nob w).alloc _⟩

set_option maxRecDepth 100000 in
set_option maxHeartbeats 1600000 in
theorem rone_sign (s : ByteArray) (hs : s.size ≤ 281474976710656) (a : Nat) (ha : a < s.size) (w : World) (hd : digitI (byteAt s.data.toList a) = false) (hlt : letterI (byteAt s.data.toList a) = false) (hq : byteAt s.data.toList a ≠ 34) :
    Calls Tryd.prog 29 #[.string s, .int .i64 a] w fun e w' => OneAt s.data.toList a e ∧ Fr nob w w' := by
  have hl : s.data.toList.length = s.size := by simp
  have hf : firstM (s.data.toList.drop a) = signM (s.data.toList.drop a) := by
    unfold firstM
    rw [byteAt_drop', Nat.add_zero, if_neg (by rw [hd]; simp), if_neg (by rw [hlt]; simp), if_neg (by simpa using hq)]
  have HF := hid hf
  have hai : (a : Int) < (s.size : Int) := by omega
  obtain ⟨c, hc⟩ : ∃ c, s[a]'ha = c := ⟨_, rfl⟩
  rw [byteAt_eq s a ha, hc] at hd hlt hq
  have HD := hid (fun w' => rdigit_any (c.toNat : Int) w')
  rw [hd] at HD
  have HT := hid (fun w' => rletter_any (c.toNat : Int) w')
  rw [hlt] at HT
  have hqb : ((c.toNat : Int) == 34) = false := beq_eq_false_iff_ne.2 hq
  have hR : (s.extract a s.size).data.toList = s.data.toList.drop a := Lib.extract_to_end s a
  have hX := fun w' => rsign_any (s.extract a s.size) (by simp; omega) w'
  rw [hR] at hX
  clear hd hlt hq hR
  cases hx : signM (s.data.toList.drop a) with
  | ok k o m n =>
    obtain ⟨rfl, rfl, rfl, h1⟩ := signM_shape hx
    have hfx := hf.trans hx
    obtain ⟨_, hn2, hom⟩ := firstM_ok (by rw [List.length_drop, hl]; omega) hfx
    rw [List.length_drop, hl] at hn2
    have e1 : signL (s.data.toList.drop a) = (s.data.toList.drop a).take n := by
      unfold signL; rw [hx]
    rw [e1] at hX
    obtain ⟨x, hx1⟩ : ∃ x, bs ((s.data.toList.drop a).take n) = x := ⟨_, rfl⟩
    have hxs : x.size = n := by rw [← hx1, bs_len, List.length_take, List.length_drop, hl]; omega
    have hxe : x.toList.isEmpty = false := by
      rw [ByteArray.toList_eq]
      cases hd : x.data.toList with
      | nil =>
        have : x.data.toList.length = x.size := by simp
        rw [hd] at this
        simp at this; omega
      | cons _ _ => rfl
    rw [hx1] at hX
    have HX := hid hX
    have X1 := hid (show x = bs (((s.data.toList.drop a).drop 0).take n) by rw [List.drop_zero]; exact hx1.symm)
    have HFX := hid hfx
    have XS := hid hxs
    have hxi : (x.size : Int) ≤ (s.size : Int) - (a : Int) := by omega
    clear hX e1 hx1 hx hf hfx hxs hom
    go_enter Tryd.func29, Tryd.ntmps29
    go_wp2_with (first | (go_at_call 41; refine (HD.out _).mono ?_; rintro e w1 ⟨rfl, rfl⟩) | (go_at_call 43; refine (HT.out _).mono ?_; rintro e w1 ⟨rfl, rfl⟩) | (go_at_call 45; go_must (refine (HX.out _).mono ?_; rintro e w2 ⟨rfl, hf⟩; have F2 := hid hf; (have B := (Blk.new w 29 #[.int .i64 0, .string ⟨#[]⟩, .int .i64 0]).fr F2.out (fun x => x)); have c0 := B.cell 0; have c1 := B.cell 1; have c2 := B.cell 2; have f0 := B.frozen 0; have f1 := B.frozen 1; have f2 := B.frozen 2; clear B; clear hf)))
    refine bodyPost_ret (v := .tuple #[tokV 5 x a, .int .i64 ((a : Int) + (x.size : Int)), .int .i64 0]) (by simp [results, Tryd.results29, go_sem, tokV, c0, c1, c2]; try rfl) rfl ⟨(by have := one_ok HFX.out x X1.out (a + x.size) (by rw [XS.out]); rwa [Int.natCast_add] at this), Fr.box3 F2.out _ _ _⟩
  | err e =>
    obtain rfl := signM_err hx
    have e1 : signL (s.data.toList.drop a) = [] := by
      unfold signL; rw [hx]
    rw [e1] at hX
    have HX := hid hX
    have HFX := hid (hf.trans hx)
    have hxe : (bs []).toList.isEmpty = true := by rw [ByteArray.toList_eq]; rfl
    clear hX e1 hx hf
    go_enter Tryd.func29, Tryd.ntmps29
    go_wp2_with (first | (go_at_call 41; refine (HD.out _).mono ?_; rintro e w1 ⟨rfl, rfl⟩) | (go_at_call 43; refine (HT.out _).mono ?_; rintro e w1 ⟨rfl, rfl⟩) | (go_at_call 45; go_must (refine (HX.out _).mono ?_; rintro e w2 ⟨rfl, hf⟩; have F2 := hid hf; (have B := (Blk.new w 29 #[.int .i64 0, .string ⟨#[]⟩, .int .i64 0]).fr F2.out (fun x => x)); have c0 := B.cell 0; have c1 := B.cell 1; have c2 := B.cell 2; have f0 := B.frozen 0; have f1 := B.frozen 1; have f2 := B.frozen 2; clear B; clear hf)))
    refine bodyPost_ret (v := .tuple #[.agg #[.int .i64 0, .string ⟨#[]⟩, .int .i64 0], .int .i64 a, .int .i64 10]) (by simp [results, Tryd.results29, go_sem, tokV, c0, c1, c2]; try rfl) rfl ⟨one_err HFX.out _ _ _ _, Fr.box3 F2.out _ _ _⟩

theorem rone_any (s : ByteArray) (hs : s.size ≤ 281474976710656) (a : Nat) (ha : a < s.size) (w : World) :
    Calls Tryd.prog 29 #[.string s, .int .i64 a] w fun e w' => OneAt s.data.toList a e ∧ Fr nob w w' := by
  cases hd : digitI (byteAt s.data.toList a) with
  | true => exact rone_digit s hs a ha w hd
  | false =>
    cases hl : letterI (byteAt s.data.toList a) with
    | true => exact rone_letter s hs a ha w hd hl
    | false =>
      by_cases hq : byteAt s.data.toList a = 34
      · exact rone_quote s hs a ha w hq
      · exact rone_sign s hs a ha w hd hl hq
end Go.Proofs.YtcodonidmopodaaDoor
