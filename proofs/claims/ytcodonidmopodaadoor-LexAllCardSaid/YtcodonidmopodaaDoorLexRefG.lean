/- The reference's token: names and words. -/
import Derived.Test.YtcodonidmopodaaDoorLexRefF
namespace Go.Proofs.YtcodonidmopodaaDoor
open Go.RowKit
set_option linter.unusedVariables false
set_option linter.unusedSimpArgs false

set_option maxRecDepth 100000 in
set_option maxHeartbeats 1600000 in
theorem rone_letter (s : ByteArray) (hs : s.size ≤ 281474976710656) (a : Nat) (ha : a < s.size) (w : World) (hd : digitI (byteAt s.data.toList a) = false) (hlt : letterI (byteAt s.data.toList a) = true) :
    Calls Tryd.prog 29 #[.string s, .int .i64 a] w fun e w' => OneAt s.data.toList a e ∧ Fr nob w w' := by
  have hl : s.data.toList.length = s.size := by simp
  have HL := hid hl
  clear hl
  have hf : firstM (s.data.toList.drop a) = nameM (s.data.toList.drop a) := by
    unfold firstM
    rw [byteAt_drop', Nat.add_zero, if_neg (by rw [hd]; simp), if_pos hlt]
  have HF := hid hf
  have hai : (a : Int) < (s.size : Int) := by omega
  obtain ⟨c, hc⟩ : ∃ c, s[a]'ha = c := ⟨_, rfl⟩
  rw [byteAt_eq s a ha, hc] at hd hlt
  have HD := hid (fun w' => rdigit_any (c.toNat : Int) w')
  rw [hd] at HD
  have HT := hid (fun w' => rletter_any (c.toNat : Int) w')
  rw [hlt] at HT
  have T1 := hid trivial
  have T2 := hid trivial
  clear hf hd hlt
  go_enter Tryd.func29, Tryd.ntmps29
  go_wp2_with (first | (go_at_call 41; refine (HD.out _).mono ?_; rintro e w1 ⟨rfl, rfl⟩) | (go_at_call 43; refine (HT.out _).mono ?_; rintro e w1 ⟨rfl, rfl⟩))
  go_loopw [8] (fun v w' => ∃ m : Nat, a ≤ m ∧ m ≤ s.size ∧ v = .int .i64 m ∧ Hid (runN withinI (s.data.toList.drop a) = (m - a) + runN withinI (s.data.toList.drop m)) ∧ w' = w.alloc (.cells #[.int .i64 0, .string ⟨#[]⟩, .int .i64 0] 29)) (fun v _ => s.size - (intOf v).toNat)
  case atStart => exact ⟨a, Nat.le_refl _, by omega, rfl, hid (by omega), rfl⟩
  case round =>
    obtain ⟨m, ham, hm, rfl, HR, rfl⟩ := hrel
    have ham2 : (a : Int) ≤ (m : Int) := by omega
    have HEND := hid (show runN withinI (s.data.toList.drop m) = 0 → (runN withinI (s.data.toList.drop a) = m - a) from fun h => by have := HR.out; omega)
    have FIN := hid (show runN withinI (s.data.toList.drop a) = m - a → nameM (s.data.toList.drop a) = (if wordB (s.extract a m).data.toList then .ok 4 0 (m - a) (m - a) else if 8 < m - a then .err 13 else .ok 3 0 (m - a) (m - a)) from fun h => by
      unfold nameM
      rw [ext_run, ← h])
    have HX := hid (show s.extract a m = bs (((s.data.toList.drop a).drop 0).take (m - a)) by rw [List.drop_zero, ← ext_run, bs_data])
    have hm64 : (m : Int) ≤ (s.size : Int) := by omega
    have HW := hid (fun w' => rword_any (s.extract a m) w')
    have HSZ := hid (show (s.extract a m).size = m - a by simp; omega)
    obtain ⟨x, hx⟩ : ∃ x, s.extract a m = x := ⟨_, rfl⟩
    rw [hx] at FIN HX HW HSZ
    by_cases hms : m < s.size
    · have hms2 : (m : Int) < (s.size : Int) := by omega
      obtain ⟨d, hdd⟩ : ∃ d, s[m]'hms = d := ⟨_, rfl⟩
      have hst := runN_step withinI s.data.toList m (by rw [HL.out]; exact hms)
      rw [byteAt_eq s m hms, hdd] at hst
      have HST := hid hst
      have HE := hid (fun w' => rdigit_any (d.toNat : Int) w')
      have HL2 := hid (fun w' => rletter_any (d.toNat : Int) w')
      have hwi : withinI (d.toNat : Int) = (letterI (d.toNat : Int) || digitI (d.toNat : Int) || ((d.toNat : Int) == 95)) := rfl
      have HWI := hid hwi
      clear hst hwi
      generalize digitI (d.toNat : Int) = db at *
      generalize letterI (d.toNat : Int) = lb at *
      cases lb with
      | true =>
        have hwt : withinI (d.toNat : Int) = true := by rw [HWI.out]; rfl
        have HS2 := hid (show runN withinI (s.data.toList.drop m) = 1 + runN withinI (s.data.toList.drop (m + 1)) from HST.out.trans (if_pos hwt))
        clear hwt HST HWI
        go_wp2_with (first | (go_at_call 41; refine (HE.out _).mono ?_; rintro e w1 ⟨rfl, rfl⟩) | (go_at_call 43; refine (HL2.out _).mono ?_; rintro e w1 ⟨rfl, rfl⟩))
        go_roundw
        case rel => exact ⟨m + 1, by omega, by omega, by go_num, hid (by (have h1 := HR.out); have h2 := HS2.out; omega), trivial⟩
        case measure => simp [intOf]; omega
      | false =>
        cases db with
        | true =>
          have hwt : withinI (d.toNat : Int) = true := by rw [HWI.out]; rfl
          have HS2 := hid (show runN withinI (s.data.toList.drop m) = 1 + runN withinI (s.data.toList.drop (m + 1)) from HST.out.trans (if_pos hwt))
          clear hwt HST HWI
          go_wp2_with (first | (go_at_call 41; refine (HE.out _).mono ?_; rintro e w1 ⟨rfl, rfl⟩) | (go_at_call 43; refine (HL2.out _).mono ?_; rintro e w1 ⟨rfl, rfl⟩))
          go_roundw
          case rel => exact ⟨m + 1, by omega, by omega, by go_num, hid (by (have h1 := HR.out); have h2 := HS2.out; omega), trivial⟩
          case measure => simp [intOf]; omega
        | false =>
          by_cases h95 : (d.toNat : Int) = 95
          · have hu : ((d.toNat : Int) == 95) = true := beq_iff_eq.2 h95
            have hwt : withinI (d.toNat : Int) = true := by rw [HWI.out, hu]; rfl
            rw [h95] at HE HL2
            have HS2 := hid (show runN withinI (s.data.toList.drop m) = 1 + runN withinI (s.data.toList.drop (m + 1)) from HST.out.trans (if_pos hwt))
            clear hwt HST HWI
            go_wp2_with (first | (go_at_call 41; refine (HE.out _).mono ?_; rintro e w1 ⟨rfl, rfl⟩) | (go_at_call 43; refine (HL2.out _).mono ?_; rintro e w1 ⟨rfl, rfl⟩))
            go_roundw
            case rel => exact ⟨m + 1, by omega, by omega, by go_num, hid (by (have h1 := HR.out); have h2 := HS2.out; omega), trivial⟩
            case measure => simp [intOf]; omega
          · have hu : ((d.toNat : Int) == 95) = false := beq_eq_false_iff_ne.2 h95
            have hz := HEND.out (HST.out.trans (if_neg (by rw [HWI.out, hu]; simp)))
            have HNM := hid (HF.out.trans (FIN.out hz))
            clear hz HR HST HWI
            generalize wordB x.data.toList = wb at *
            by_cases h8 : 8 < m - a
            · have h9 : (8 : Int) < (x.size : Int) := by rw [HSZ.out]; omega
              cases wb with
              | true =>
                go_wp2_with (first | (go_at_call 41; refine (HE.out _).mono ?_; rintro e w1 ⟨rfl, rfl⟩) | (go_at_call 43; refine (HL2.out _).mono ?_; rintro e w1 ⟨rfl, rfl⟩) | (go_at_call 20; go_must (refine (HW.out _).mono ?_; rintro e w2 ⟨rfl, hf⟩; have F2 := hid hf; (have B := (Blk.new w 29 #[.int .i64 0, .string ⟨#[]⟩, .int .i64 0]).fr F2.out (fun x => x)); have c0 := B.cell 0; have c1 := B.cell 1; have c2 := B.cell 2; have f0 := B.frozen 0; have f1 := B.frozen 1; have f2 := B.frozen 2; clear B; clear hf)))
                refine bodyPost_ret (v := .tuple #[tokV 4 x a, .int .i64 m, .int .i64 0]) (by simp [results, Tryd.results29, go_sem, tokV, c0, c1, c2]; try rfl) rfl ⟨one_ok (k := 4) (o := 0) (m := m - a) (n := m - a) (HNM.out.trans (by simp)) _ HX.out _ (by omega), Fr.box3 F2.out _ _ _⟩
              | false =>
                go_wp2_with (first | (go_at_call 41; refine (HE.out _).mono ?_; rintro e w1 ⟨rfl, rfl⟩) | (go_at_call 43; refine (HL2.out _).mono ?_; rintro e w1 ⟨rfl, rfl⟩) | (go_at_call 20; go_must (refine (HW.out _).mono ?_; rintro e w2 ⟨rfl, hf⟩; have F2 := hid hf; (have B := (Blk.new w 29 #[.int .i64 0, .string ⟨#[]⟩, .int .i64 0]).fr F2.out (fun x => x)); have c0 := B.cell 0; have c1 := B.cell 1; have c2 := B.cell 2; have f0 := B.frozen 0; have f1 := B.frozen 1; have f2 := B.frozen 2; clear B; clear hf)))
                refine bodyPost_ret (v := .tuple #[.agg #[.int .i64 0, .string ⟨#[]⟩, .int .i64 0], .int .i64 a, .int .i64 13]) (by simp [results, Tryd.results29, go_sem, tokV, c0, c1, c2]; try rfl) rfl ⟨one_err (er := 13) (HNM.out.trans (by simp [h8])) _ _ _ _, Fr.box3 F2.out _ _ _⟩
            · have h9 : (x.size : Int) ≤ 8 := by rw [HSZ.out]; omega
              cases wb with
              | true =>
                go_wp2_with (first | (go_at_call 41; refine (HE.out _).mono ?_; rintro e w1 ⟨rfl, rfl⟩) | (go_at_call 43; refine (HL2.out _).mono ?_; rintro e w1 ⟨rfl, rfl⟩) | (go_at_call 20; go_must (refine (HW.out _).mono ?_; rintro e w2 ⟨rfl, hf⟩; have F2 := hid hf; (have B := (Blk.new w 29 #[.int .i64 0, .string ⟨#[]⟩, .int .i64 0]).fr F2.out (fun x => x)); have c0 := B.cell 0; have c1 := B.cell 1; have c2 := B.cell 2; have f0 := B.frozen 0; have f1 := B.frozen 1; have f2 := B.frozen 2; clear B; clear hf)))
                refine bodyPost_ret (v := .tuple #[tokV 4 x a, .int .i64 m, .int .i64 0]) (by simp [results, Tryd.results29, go_sem, tokV, c0, c1, c2]; try rfl) rfl ⟨one_ok (k := 4) (o := 0) (m := m - a) (n := m - a) (HNM.out.trans (by simp)) _ HX.out _ (by omega), Fr.box3 F2.out _ _ _⟩
              | false =>
                go_wp2_with (first | (go_at_call 41; refine (HE.out _).mono ?_; rintro e w1 ⟨rfl, rfl⟩) | (go_at_call 43; refine (HL2.out _).mono ?_; rintro e w1 ⟨rfl, rfl⟩) | (go_at_call 20; go_must (refine (HW.out _).mono ?_; rintro e w2 ⟨rfl, hf⟩; have F2 := hid hf; (have B := (Blk.new w 29 #[.int .i64 0, .string ⟨#[]⟩, .int .i64 0]).fr F2.out (fun x => x)); have c0 := B.cell 0; have c1 := B.cell 1; have c2 := B.cell 2; have f0 := B.frozen 0; have f1 := B.frozen 1; have f2 := B.frozen 2; clear B; clear hf)))
                refine bodyPost_ret (v := .tuple #[tokV 3 x a, .int .i64 m, .int .i64 0]) (by simp [results, Tryd.results29, go_sem, tokV, c0, c1, c2]; try rfl) rfl ⟨one_ok (k := 3) (o := 0) (m := m - a) (n := m - a) (HNM.out.trans (by simp [h8])) _ HX.out _ (by omega), Fr.box3 F2.out _ _ _⟩
    · have hms2 : (s.size : Int) ≤ (m : Int) := by omega
      have hz := HEND.out (by rw [List.drop_of_length_le (by rw [HL.out]; omega)]; rfl)
      have HNM := hid (HF.out.trans (FIN.out hz))
      clear hz HR hms
      generalize wordB x.data.toList = wb at *
      by_cases h8 : 8 < m - a
      · have h9 : (8 : Int) < (x.size : Int) := by rw [HSZ.out]; omega
        cases wb with
        | true =>
          go_wp2_with (go_at_call 20; go_must (refine (HW.out _).mono ?_; rintro e w2 ⟨rfl, hf⟩; have F2 := hid hf; (have B := (Blk.new w 29 #[.int .i64 0, .string ⟨#[]⟩, .int .i64 0]).fr F2.out (fun x => x)); have c0 := B.cell 0; have c1 := B.cell 1; have c2 := B.cell 2; have f0 := B.frozen 0; have f1 := B.frozen 1; have f2 := B.frozen 2; clear B; clear hf))
          refine bodyPost_ret (v := .tuple #[tokV 4 x a, .int .i64 m, .int .i64 0]) (by simp [results, Tryd.results29, go_sem, tokV, c0, c1, c2]; try rfl) rfl ⟨one_ok (k := 4) (o := 0) (m := m - a) (n := m - a) (HNM.out.trans (by simp)) _ HX.out _ (by omega), Fr.box3 F2.out _ _ _⟩
        | false =>
          go_wp2_with (go_at_call 20; go_must (refine (HW.out _).mono ?_; rintro e w2 ⟨rfl, hf⟩; have F2 := hid hf; (have B := (Blk.new w 29 #[.int .i64 0, .string ⟨#[]⟩, .int .i64 0]).fr F2.out (fun x => x)); have c0 := B.cell 0; have c1 := B.cell 1; have c2 := B.cell 2; have f0 := B.frozen 0; have f1 := B.frozen 1; have f2 := B.frozen 2; clear B; clear hf))
          refine bodyPost_ret (v := .tuple #[.agg #[.int .i64 0, .string ⟨#[]⟩, .int .i64 0], .int .i64 a, .int .i64 13]) (by simp [results, Tryd.results29, go_sem, tokV, c0, c1, c2]; try rfl) rfl ⟨one_err (er := 13) (HNM.out.trans (by simp [h8])) _ _ _ _, Fr.box3 F2.out _ _ _⟩
      · have h9 : (x.size : Int) ≤ 8 := by rw [HSZ.out]; omega
        cases wb with
        | true =>
          go_wp2_with (go_at_call 20; go_must (refine (HW.out _).mono ?_; rintro e w2 ⟨rfl, hf⟩; have F2 := hid hf; (have B := (Blk.new w 29 #[.int .i64 0, .string ⟨#[]⟩, .int .i64 0]).fr F2.out (fun x => x)); have c0 := B.cell 0; have c1 := B.cell 1; have c2 := B.cell 2; have f0 := B.frozen 0; have f1 := B.frozen 1; have f2 := B.frozen 2; clear B; clear hf))
          refine bodyPost_ret (v := .tuple #[tokV 4 x a, .int .i64 m, .int .i64 0]) (by simp [results, Tryd.results29, go_sem, tokV, c0, c1, c2]; try rfl) rfl ⟨one_ok (k := 4) (o := 0) (m := m - a) (n := m - a) (HNM.out.trans (by simp)) _ HX.out _ (by omega), Fr.box3 F2.out _ _ _⟩
        | false =>
          go_wp2_with (go_at_call 20; go_must (refine (HW.out _).mono ?_; rintro e w2 ⟨rfl, hf⟩; have F2 := hid hf; (have B := (Blk.new w 29 #[.int .i64 0, .string ⟨#[]⟩, .int .i64 0]).fr F2.out (fun x => x)); have c0 := B.cell 0; have c1 := B.cell 1; have c2 := B.cell 2; have f0 := B.frozen 0; have f1 := B.frozen 1; have f2 := B.frozen 2; clear B; clear hf))
          refine bodyPost_ret (v := .tuple #[tokV 3 x a, .int .i64 m, .int .i64 0]) (by simp [results, Tryd.results29, go_sem, tokV, c0, c1, c2]; try rfl) rfl ⟨one_ok (k := 3) (o := 0) (m := m - a) (n := m - a) (HNM.out.trans (by simp [h8])) _ HX.out _ (by omega), Fr.box3 F2.out _ _ _⟩
end Go.Proofs.YtcodonidmopodaaDoor
