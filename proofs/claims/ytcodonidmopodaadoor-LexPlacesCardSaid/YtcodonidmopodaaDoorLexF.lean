/- What a text begins with: the walk. -/
import Derived.Test.YtcodonidmopodaaDoorLexE
namespace Go.Proofs.YtcodonidmopodaaDoor
open Go.RowKit
set_option linter.unusedVariables false
set_option linter.unusedSimpArgs false

theorem oneV_open (s : ByteArray) (o : One) : ∃ (k : Nat) (t : ByteArray) (n er : Nat), oneV s o = .tuple #[.agg #[.int .i64 k, .string t, .int .i64 0], .int .i64 n, .int .i64 er] := by
  cases o with
  | ok k o m n => exact ⟨k, _, n, 0, rfl⟩
  | err e => exact ⟨0, _, 0, e, rfl⟩
def firstM (l : List UInt8) : One := if digitI (byteAt l 0) then numberM l else if letterI (byteAt l 0) then nameM l else if byteAt l 0 == 34 then textM l else signM l

set_option maxHeartbeats 1600000 in
theorem first_any (s : ByteArray) (w : World) (hs : s.size ≤ 281474976710656) (h0 : 0 < s.size) (hv : Vars w) :
    Calls Tryd.prog 25 #[.string s] w fun e w' => e = .returned (oneV s (firstM s.data.toList)) ∧ Fr nob w w' := by
  have hb := byteAt_eq s 0 h0
  have h3 : (0 : Int) < (s.size : Int) := by omega
  have V := hid hv
  clear hv
  unfold firstM
  by_cases hd : digitI (byteAt s.data.toList 0) = true
  · rw [if_pos hd]
    have hr : 0 < runN digitI s.data.toList := by
      have := runN_step digitI s.data.toList 0 (by simpa using h0)
      rw [List.drop_zero, if_pos hd] at this
      omega
    rw [hb] at hd
    clear hb
    have HC := hid (fun w' (hf : Fr nob w w') => number_any s w' hs hr (V.out.fr hf))
    obtain ⟨k, t, n, er, hV⟩ := oneV_open s (numberM s.data.toList)
    rw [hV] at HC ⊢
    go_enter Tryd.func25, Tryd.ntmps25
    go_wp2_with (first | (go_at_call 33; refine (digit_any _ _).mono ?_; rintro e w1 ⟨rfl, rfl⟩) | (go_at_call 35; refine (letter_any _ _).mono ?_; rintro e w1 ⟨rfl, rfl⟩) | (go_at_call 34; go_must (refine (HC.out _ ((Fr.refl nob w).alloc _)).mono ?_; rintro e w2 ⟨rfl, hf⟩; have F2 := hid hf; (have B := (Blk.new w 29 #[.int .i64 0, .string ⟨#[]⟩, .int .i64 0]).fr F2.out (fun x => x)); have c0 := B.cell 0; have c1 := B.cell 1; have c2 := B.cell 2; have f0 := B.frozen 0; have f1 := B.frozen 1; have f2 := B.frozen 2; clear B; clear hf)))
    refine bodyPost_ret (v := .tuple #[.agg #[.int .i64 k, .string t, .int .i64 0], .int .i64 n, .int .i64 er]) (by simp [results, Tryd.results25, go_sem, c0, c1, c2]; try rfl) rfl ⟨by simp, Fr.box3 F2.out _ _ _⟩

  · rw [if_neg hd]
    rw [hb] at hd ⊢
    have hd' : digitI ((s[0]'h0).toNat : Int) = false := by simpa using hd
    clear hd hb
    by_cases hl : letterI ((s[0]'h0).toNat : Int) = true
    · rw [if_pos hl]
      have HC := hid (fun w' (hf : Fr nob w w') => name_any s w' hs (V.out.fr hf))
      obtain ⟨k, t, n, er, hV⟩ := oneV_open s (nameM s.data.toList)
      rw [hV] at HC ⊢
      go_enter Tryd.func25, Tryd.ntmps25
      go_wp2_with (first | (go_at_call 33; refine (digit_any _ _).mono ?_; rintro e w1 ⟨rfl, rfl⟩) | (go_at_call 35; refine (letter_any _ _).mono ?_; rintro e w1 ⟨rfl, rfl⟩) | (go_at_call 36; go_must (refine (HC.out _ ((Fr.refl nob w).alloc _)).mono ?_; rintro e w2 ⟨rfl, hf⟩; have F2 := hid hf; (have B := (Blk.new w 29 #[.int .i64 0, .string ⟨#[]⟩, .int .i64 0]).fr F2.out (fun x => x)); have c0 := B.cell 0; have c1 := B.cell 1; have c2 := B.cell 2; have f0 := B.frozen 0; have f1 := B.frozen 1; have f2 := B.frozen 2; clear B; clear hf)))
      refine bodyPost_ret (v := .tuple #[.agg #[.int .i64 k, .string t, .int .i64 0], .int .i64 n, .int .i64 er]) (by simp [results, Tryd.results25, go_sem, c0, c1, c2]; try rfl) rfl ⟨by simp, Fr.box3 F2.out _ _ _⟩

    · rw [if_neg hl]
      have hl' : letterI ((s[0]'h0).toNat : Int) = false := by simpa using hl
      clear hl
      by_cases hq : ((s[0]'h0).toNat : Int) = 34
      · have hq' : (((s[0]'h0).toNat : Int) == 34) = true := beq_iff_eq.2 hq
        rw [if_pos hq']
        clear hq
        have HC := hid (fun w' (hf : Fr nob w w') => text_any s w' hs h0)
        obtain ⟨k, t, n, er, hV⟩ := oneV_open s (textM s.data.toList)
        rw [hV] at HC ⊢
        go_enter Tryd.func25, Tryd.ntmps25
        go_wp2_with (first | (go_at_call 33; refine (digit_any _ _).mono ?_; rintro e w1 ⟨rfl, rfl⟩) | (go_at_call 35; refine (letter_any _ _).mono ?_; rintro e w1 ⟨rfl, rfl⟩) | (go_at_call 37; go_must (refine (HC.out _ ((Fr.refl nob w).alloc _)).mono ?_; rintro e w2 ⟨rfl, hf⟩; have F2 := hid hf; (have B := (Blk.new w 29 #[.int .i64 0, .string ⟨#[]⟩, .int .i64 0]).fr F2.out (fun x => x)); have c0 := B.cell 0; have c1 := B.cell 1; have c2 := B.cell 2; have f0 := B.frozen 0; have f1 := B.frozen 1; have f2 := B.frozen 2; clear B; clear hf)))
        refine bodyPost_ret (v := .tuple #[.agg #[.int .i64 k, .string t, .int .i64 0], .int .i64 n, .int .i64 er]) (by simp [results, Tryd.results25, go_sem, c0, c1, c2]; try rfl) rfl ⟨by simp, Fr.box3 F2.out _ _ _⟩

      · have hq' : (((s[0]'h0).toNat : Int) == 34) = false := by simpa using hq
        rw [if_neg (by rw [hq']; simp)]
        clear hq
        have HC := hid (fun w' (hf : Fr nob w w') => sign_any s w' hs h0 (V.out.fr hf))
        obtain ⟨k, t, n, er, hV⟩ := oneV_open s (signM s.data.toList)
        rw [hV] at HC ⊢
        go_enter Tryd.func25, Tryd.ntmps25
        go_wp2_with (first | (go_at_call 33; refine (digit_any _ _).mono ?_; rintro e w1 ⟨rfl, rfl⟩) | (go_at_call 35; refine (letter_any _ _).mono ?_; rintro e w1 ⟨rfl, rfl⟩) | (go_at_call 38; go_must (refine (HC.out _ ((Fr.refl nob w).alloc _)).mono ?_; rintro e w2 ⟨rfl, hf⟩; have F2 := hid hf; (have B := (Blk.new w 29 #[.int .i64 0, .string ⟨#[]⟩, .int .i64 0]).fr F2.out (fun x => x)); have c0 := B.cell 0; have c1 := B.cell 1; have c2 := B.cell 2; have f0 := B.frozen 0; have f1 := B.frozen 1; have f2 := B.frozen 2; clear B; clear hf)))
        refine bodyPost_ret (v := .tuple #[.agg #[.int .i64 k, .string t, .int .i64 0], .int .i64 n, .int .i64 er]) (by simp [results, Tryd.results25, go_sem, c0, c1, c2]; try rfl) rfl ⟨by simp, Fr.box3 F2.out _ _ _⟩

end Go.Proofs.YtcodonidmopodaaDoor
