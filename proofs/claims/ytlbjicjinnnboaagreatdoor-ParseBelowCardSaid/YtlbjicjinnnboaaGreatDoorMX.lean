/- MX: LXA, LXB, LXC, LXD, LXE, LXF, LXG, LXH, LXLine. -/
import Derived.Test.YtlbjicjinnnboaaGreatDoorMA
import Derived.Test.YtlbjicjinnnboaaGreatDoorShelf
import Derived.WalkMore
/- The lexer's small functions: which byte is what, and how many bytes from the beginning on are so. -/
namespace Go.Proofs.YtlbjicjinnnboaaGreatDoor.Lx
open Go.RowKit
set_option linter.unusedVariables false
set_option linter.unusedSimpArgs false

theorem digit_any (c : Int) (w : World) : Calls Tryz.prog 111 #[.int .u8 c] w fun e w' => e = .returned (.bool (digitI c)) ∧ w = w' := by
  unfold digitI
  go_enter Tryz.func111, Tryz.ntmps111
  go_wp2
  all_goals (go_ret; simp_all; try omega)
theorem letter_any (c : Int) (w : World) : Calls Tryz.prog 113 #[.int .u8 c] w fun e w' => e = .returned (.bool (letterI c)) ∧ w = w' := by
  unfold letterI
  go_enter Tryz.func113, Tryz.ntmps113
  go_wp2
  all_goals (go_ret; simp_all; try omega)
theorem within_any (c : Int) (w : World) : Calls Tryz.prog 153 #[.int .u8 c] w fun e w' => e = .returned (.bool (withinI c)) ∧ w = w' := by
  unfold withinI
  go_enter Tryz.func153, Tryz.ntmps153
  go_wp2_with (first | (go_at_call 113; refine (letter_any _ _).mono ?_; rintro e w1 ⟨rfl, rfl⟩) | (go_at_call 111; refine (digit_any _ _).mono ?_; rintro e w1 ⟨rfl, rfl⟩))
  all_goals (go_ret; simp_all; try omega)
theorem line_any (c : Int) (w : World) : Calls Tryz.prog 74 #[.int .u8 c] w fun e w' => e = .returned (.bool (lineI c)) ∧ w = w' := by
  unfold lineI
  go_enter Tryz.func74, Tryz.ntmps74
  go_wp2
  all_goals (go_ret; simp_all; try omega)
theorem plain_any (c : Int) (w : World) : Calls Tryz.prog 155 #[.int .u8 c] w fun e w' => e = .returned (.bool (plainI c)) ∧ w = w' := by
  unfold plainI
  go_enter Tryz.func155, Tryz.ntmps155
  go_wp2
  all_goals (go_ret; simp_all; try omega)

theorem run_digit (s : ByteArray) (hs : s.size ≤ 9223372036854775807) (w : World) :
    Calls Tryz.prog 73 #[.string s, .func (.func 111) #[] #[]] w fun e w' => e = .returned (.int .i64 (runN digitI s.data.toList)) ∧ w = w' := by
  have hl : s.data.toList.length = s.size := by simp
  have HL := hid hl
  clear hl
  go_enter Tryz.func73, Tryz.ntmps73
  go_wp2
  go_loopw [5, 8] (fun _ i w' => ∃ k : Nat, k ≤ s.size ∧ i = .int .i64 k ∧ w = w' ∧ Hid (runN digitI s.data.toList = k + runN digitI (s.data.toList.drop k))) (fun _ i _ => s.size - (intOf i).toNat)
  case atStart => exact ⟨0, Nat.zero_le _, rfl, rfl, hid (by simp)⟩
  case round =>
    obtain ⟨k, hk, rfl, rfl, H⟩ := hrel
    by_cases hlt : k < s.size
    · have hst := hid (runN_step digitI s.data.toList k (by rw [HL.out]; exact hlt))
      rw [byteAt_eq s k hlt] at hst
      by_cases hb : digitI ((s[k]'hlt).toNat : Int) = true
      · have HB := hid hb
        go_wp2_with (go_at_call 111; refine (digit_any _ _).mono ?_; rintro e w1 ⟨rfl, rfl⟩)
        go_roundw
        case rel => exact ⟨k + 1, by omega, by go_num, trivial, hid (by rw [H.out, hst.out, if_pos HB.out]; omega)⟩
        case measure => simp [intOf]; omega
      · have hb' : digitI ((s[k]'hlt).toNat : Int) = false := by simpa using hb
        have HB := hid hb
        clear hb
        go_wp2_with (go_at_call 111; refine (digit_any _ _).mono ?_; rintro e w1 ⟨rfl, rfl⟩)
        go_ret
        exact ⟨by rw [H.out, hst.out, if_neg HB.out]; simp, rfl⟩
    · have h0 : runN digitI (s.data.toList.drop k) = 0 := by rw [List.drop_of_length_le (by rw [HL.out]; omega)]; rfl
      have H0 := hid h0
      clear h0
      go_wp2
      go_ret
      exact ⟨by rw [H.out, H0.out]; have : k = s.size := by omega
                subst this; rfl, rfl⟩

theorem run_within (s : ByteArray) (hs : s.size ≤ 9223372036854775807) (w : World) :
    Calls Tryz.prog 73 #[.string s, .func (.func 153) #[] #[]] w fun e w' => e = .returned (.int .i64 (runN withinI s.data.toList)) ∧ w = w' := by
  have hl : s.data.toList.length = s.size := by simp
  have HL := hid hl
  clear hl
  go_enter Tryz.func73, Tryz.ntmps73
  go_wp2
  go_loopw [5, 8] (fun _ i w' => ∃ k : Nat, k ≤ s.size ∧ i = .int .i64 k ∧ w = w' ∧ Hid (runN withinI s.data.toList = k + runN withinI (s.data.toList.drop k))) (fun _ i _ => s.size - (intOf i).toNat)
  case atStart => exact ⟨0, Nat.zero_le _, rfl, rfl, hid (by simp)⟩
  case round =>
    obtain ⟨k, hk, rfl, rfl, H⟩ := hrel
    by_cases hlt : k < s.size
    · have hst := hid (runN_step withinI s.data.toList k (by rw [HL.out]; exact hlt))
      rw [byteAt_eq s k hlt] at hst
      by_cases hb : withinI ((s[k]'hlt).toNat : Int) = true
      · have HB := hid hb
        go_wp2_with (go_at_call 153; refine (within_any _ _).mono ?_; rintro e w1 ⟨rfl, rfl⟩)
        go_roundw
        case rel => exact ⟨k + 1, by omega, by go_num, trivial, hid (by rw [H.out, hst.out, if_pos HB.out]; omega)⟩
        case measure => simp [intOf]; omega
      · have hb' : withinI ((s[k]'hlt).toNat : Int) = false := by simpa using hb
        have HB := hid hb
        clear hb
        go_wp2_with (go_at_call 153; refine (within_any _ _).mono ?_; rintro e w1 ⟨rfl, rfl⟩)
        go_ret
        exact ⟨by rw [H.out, hst.out, if_neg HB.out]; simp, rfl⟩
    · have h0 : runN withinI (s.data.toList.drop k) = 0 := by rw [List.drop_of_length_le (by rw [HL.out]; omega)]; rfl
      have H0 := hid h0
      clear h0
      go_wp2
      go_ret
      exact ⟨by rw [H.out, H0.out]; have : k = s.size := by omega
                subst this; rfl, rfl⟩

theorem run_line (s : ByteArray) (hs : s.size ≤ 9223372036854775807) (w : World) :
    Calls Tryz.prog 73 #[.string s, .func (.func 74) #[] #[]] w fun e w' => e = .returned (.int .i64 (runN lineI s.data.toList)) ∧ w = w' := by
  have hl : s.data.toList.length = s.size := by simp
  have HL := hid hl
  clear hl
  go_enter Tryz.func73, Tryz.ntmps73
  go_wp2
  go_loopw [5, 8] (fun _ i w' => ∃ k : Nat, k ≤ s.size ∧ i = .int .i64 k ∧ w = w' ∧ Hid (runN lineI s.data.toList = k + runN lineI (s.data.toList.drop k))) (fun _ i _ => s.size - (intOf i).toNat)
  case atStart => exact ⟨0, Nat.zero_le _, rfl, rfl, hid (by simp)⟩
  case round =>
    obtain ⟨k, hk, rfl, rfl, H⟩ := hrel
    by_cases hlt : k < s.size
    · have hst := hid (runN_step lineI s.data.toList k (by rw [HL.out]; exact hlt))
      rw [byteAt_eq s k hlt] at hst
      by_cases hb : lineI ((s[k]'hlt).toNat : Int) = true
      · have HB := hid hb
        go_wp2_with (go_at_call 74; refine (line_any _ _).mono ?_; rintro e w1 ⟨rfl, rfl⟩)
        go_roundw
        case rel => exact ⟨k + 1, by omega, by go_num, trivial, hid (by rw [H.out, hst.out, if_pos HB.out]; omega)⟩
        case measure => simp [intOf]; omega
      · have hb' : lineI ((s[k]'hlt).toNat : Int) = false := by simpa using hb
        have HB := hid hb
        clear hb
        go_wp2_with (go_at_call 74; refine (line_any _ _).mono ?_; rintro e w1 ⟨rfl, rfl⟩)
        go_ret
        exact ⟨by rw [H.out, hst.out, if_neg HB.out]; simp, rfl⟩
    · have h0 : runN lineI (s.data.toList.drop k) = 0 := by rw [List.drop_of_length_le (by rw [HL.out]; omega)]; rfl
      have H0 := hid h0
      clear h0
      go_wp2
      go_ret
      exact ⟨by rw [H.out, H0.out]; have : k = s.size := by omega
                subst this; rfl, rfl⟩

theorem run_plain (s : ByteArray) (hs : s.size ≤ 9223372036854775807) (w : World) :
    Calls Tryz.prog 73 #[.string s, .func (.func 155) #[] #[]] w fun e w' => e = .returned (.int .i64 (runN plainI s.data.toList)) ∧ w = w' := by
  have hl : s.data.toList.length = s.size := by simp
  have HL := hid hl
  clear hl
  go_enter Tryz.func73, Tryz.ntmps73
  go_wp2
  go_loopw [5, 8] (fun _ i w' => ∃ k : Nat, k ≤ s.size ∧ i = .int .i64 k ∧ w = w' ∧ Hid (runN plainI s.data.toList = k + runN plainI (s.data.toList.drop k))) (fun _ i _ => s.size - (intOf i).toNat)
  case atStart => exact ⟨0, Nat.zero_le _, rfl, rfl, hid (by simp)⟩
  case round =>
    obtain ⟨k, hk, rfl, rfl, H⟩ := hrel
    by_cases hlt : k < s.size
    · have hst := hid (runN_step plainI s.data.toList k (by rw [HL.out]; exact hlt))
      rw [byteAt_eq s k hlt] at hst
      by_cases hb : plainI ((s[k]'hlt).toNat : Int) = true
      · have HB := hid hb
        go_wp2_with (go_at_call 155; refine (plain_any _ _).mono ?_; rintro e w1 ⟨rfl, rfl⟩)
        go_roundw
        case rel => exact ⟨k + 1, by omega, by go_num, trivial, hid (by rw [H.out, hst.out, if_pos HB.out]; omega)⟩
        case measure => simp [intOf]; omega
      · have hb' : plainI ((s[k]'hlt).toNat : Int) = false := by simpa using hb
        have HB := hid hb
        clear hb
        go_wp2_with (go_at_call 155; refine (plain_any _ _).mono ?_; rintro e w1 ⟨rfl, rfl⟩)
        go_ret
        exact ⟨by rw [H.out, hst.out, if_neg HB.out]; simp, rfl⟩
    · have h0 : runN plainI (s.data.toList.drop k) = 0 := by rw [List.drop_of_length_le (by rw [HL.out]; omega)]; rfl
      have H0 := hid h0
      clear h0
      go_wp2
      go_ret
      exact ⟨by rw [H.out, H0.out]; have : k = s.size := by omega
                subst this; rfl, rfl⟩
end Go.Proofs.YtlbjicjinnnboaaGreatDoor.Lx
/- The lexer's numbers. -/
namespace Go.Proofs.YtlbjicjinnnboaaGreatDoor.Lx
open Go.RowKit
set_option linter.unusedVariables false
set_option linter.unusedSimpArgs false

theorem parse_digits (M : Nat) (hM : M < 18446744073709551616) (l : List UInt8) (h : allDigits l) (a : Nat) (ha : a ≤ M) :
    Lib.parseUintM M a l = if M < digitsVal a l then .range else .ok (digitsVal a l) := by
  induction l generalizing a with
  | nil =>
    have : ¬ M < digitsVal a [] := by show ¬ M < a; omega
    rw [Lib.parseUintM, if_neg this]; rfl
  | cons c l ih =>
    have hc := h c (by simp)
    have hg := digitsVal_ge (a * 10 + (c.toNat - 48)) l
    rw [Lib.parseUintM, if_pos hc, digitsVal_cons]
    by_cases h1 : 1844674407370955162 ≤ a
    · rw [if_pos h1, if_pos (by omega)]
    · rw [if_neg h1]
      by_cases h2 : M < a * 10 + (c.toNat - 48)
      · rw [if_pos h2, if_pos (by omega)]
      · rw [if_neg h2]
        exact ih (fun x hx => h x (by simp [hx])) _ (by omega)
theorem parseInt_digits (l : List UInt8) (h : allDigits l) (hne : l ≠ []) :
    Lib.parseIntB 64 l = if digitsVal 0 l ≤ 9223372036854775807 then .ok (digitsVal 0 l : Int) else .range := by
  cases l with
  | nil => exact absurd rfl hne
  | cons c r =>
    have hc := h c (by simp)
    have e : Lib.parseUintB 64 (c :: r) = if 18446744073709551615 < digitsVal 0 (c :: r) then .range else .ok (digitsVal 0 (c :: r)) := by
      unfold Lib.parseUintB
      rw [if_neg (by simp)]
      generalize hM : 2 ^ 64 - 1 = M
      have hM2 : M = 18446744073709551615 := by omega
      rw [parse_digits M (by omega) (c :: r) h 0 (by omega), hM2]
    unfold Lib.parseIntB
    simp only
    rw [if_neg (by omega), e]
    by_cases h1 : 18446744073709551615 < digitsVal 0 (c :: r)
    · rw [if_pos h1, if_neg (by omega)]
    · rw [if_neg h1]
      simp only
      by_cases h2 : digitsVal 0 (c :: r) ≤ 9223372036854775807
      · rw [if_pos h2, if_neg (by omega), if_neg (by omega), if_neg (by omega)]
      · rw [if_neg h2, if_pos (by omega)]
/-- What the lexer needs of the world. -/
structure Vars (w : World) : Prop where
  most : ∃ m, w.cell? ⟨0, 0, none⟩ = some (.int .i64 m)
  rng : ∃ tp p, w.var? Tryz.prog "strconv.ErrRange" = some #[.iface tp p]
end Go.Proofs.YtlbjicjinnnboaaGreatDoor.Lx
/- The lexer's number: the walk. -/
namespace Go.Proofs.YtlbjicjinnnboaaGreatDoor.Lx
open Go.RowKit
set_option linter.unusedVariables false
set_option linter.unusedSimpArgs false

theorem var_fr {P : Program} {w w' : World} {x : String} {cs : Array Value} (h : w.var? P x = some cs) (f : Fr nob w w') : w'.var? P x = some cs := by
  unfold World.var? at *
  cases hg : P.globalNamed x with
  | none => rw [hg] at h; simp at h
  | some g =>
    rw [hg] at h
    simp only [Option.bind_some] at h ⊢
    have hlt : g < w.heap.size := by
      by_cases hlt : g < w.heap.size
      · exact hlt
      · rw [Array.getElem?_eq_none (by omega)] at h; simp at h
    rw [f.block g hlt (fun x => x)]
    exact h
theorem Vars.fr {w w' : World} (h : Vars w) (f : Fr nob w w') : Vars w' := by
  obtain ⟨⟨m, hm⟩, tp, p, hr⟩ := h
  exact ⟨⟨m, (f.cell (World.block_lt_of_cell? _ _ hm) (fun x => x)).trans hm⟩, tp, p, var_fr hr f⟩
theorem Fr.no_below {w w' : World} (h : Below w.heap.size w w') : Fr nob w w' := ⟨h.os, h.tape, h.output, h.size, fun k hk _ => h.block k hk⟩
theorem Fr.bytes {w w' : World} (e : TypeId) (h : w' = w ∨ ∃ t, w' = Lib.bytesWorld w e t) : Fr nob w w' := by
  rcases h with rfl | ⟨t, rfl⟩
  · exact Fr.refl _ _
  · exact Fr.no_below (Lib.bytesWorld_below _ _ _)
set_option maxHeartbeats 800000 in
theorem number_any (s : ByteArray) (w : World) (hs : s.size ≤ 281474976710656) (hd : 0 < runN digitI s.data.toList) (hv : Vars w) :
    Calls Tryz.prog 112 #[.string s] w fun e w' => e = .returned (oneV s (numberM s.data.toList)) ∧ Fr nob w w' := by
  have hn := runN_le digitI s.data.toList
  have hn2 : runN digitI s.data.toList ≤ s.size := by simpa using hn
  have hex : (s.extract 0 (runN digitI s.data.toList)).data.toList = s.data.toList.take (runN digitI s.data.toList) := ext_take _ _
  have hdg := run_digits s.data.toList
  have hlen : (s.data.toList.take (runN digitI s.data.toList)).length = runN digitI s.data.toList := by rw [List.length_take]; omega
  have hsz : (s.extract 0 (runN digitI s.data.toList)).size = runN digitI s.data.toList := by simp; omega
  have hr := hid (run_digit s (by omega) )
  unfold numberM
  have hp := parseInt_digits _ hdg (by intro h; rw [h] at hlen; simp at hlen; omega)
  rw [← hex] at hp
  generalize runN digitI s.data.toList = n at *
  obtain ⟨tp, p, hrv⟩ := hv.rng
  have RV := hid hrv
  have hok : numOk (s.data.toList.take n) = (decide (n ≤ 19) && decide (digitsVal 0 (s.extract 0 n).data.toList ≤ 9223372036854775807)) := by unfold numOk; rw [hlen, hex]
  rw [hok]
  clear hok hdg hlen hex hn hrv hv
  have HP := hid hp
  have HSZ := hid hsz
  clear hp hsz
  by_cases h1 : digitsVal 0 (s.extract 0 n).data.toList ≤ 9223372036854775807
  · have hp := HP.out
    rw [if_pos h1] at hp
    have HQ := hid hp
    clear hp
    rw [decide_eq_true h1]
    clear h1 HP
    by_cases h2 : n ≤ 19
    · rw [decide_eq_true h2]
      go_enter Tryz.func112, Tryz.ntmps112
      go_wp2_with (first | (go_at_call 73; refine (hr.out _).mono ?_; rintro e w1 ⟨rfl, rfl⟩) | (go_at_call 152; go_must (refine (Tryz.strconv_ParseInt_10_at64_ok _ (by (have := HSZ.out; omega)) _ HQ.out _).mono ?_; rintro e w2 ⟨rfl, hw⟩; have F2 := hid (Fr.bytes _ hw); (have B := (Blk.new w 115 #[.int .i64 0, .string ⟨#[]⟩, .int .i64 0]).fr F2.out (fun x => x)); have c0 := B.cell 0; have c1 := B.cell 1; have c2 := B.cell 2; have f0 := B.frozen 0; have f1 := B.frozen 1; have f2 := B.frozen 2; clear B; clear hw)))
      refine bodyPost_ret (v := oneV s (.ok 1 0 n n)) (by simp [results, Tryz.results112, go_sem, oneV, tokV, c0, c1, c2]; try rfl) rfl ⟨by simp, Fr.box3 F2.out _ _ _⟩
    · rw [decide_eq_false h2]
      have h3 : (19 : Int) < (n : Int) := by omega
      clear h2
      go_enter Tryz.func112, Tryz.ntmps112
      go_wp2_with (first | (go_at_call 73; refine (hr.out _).mono ?_; rintro e w1 ⟨rfl, rfl⟩) | (go_at_call 152; go_must (refine (Tryz.strconv_ParseInt_10_at64_ok _ (by (have := HSZ.out; omega)) _ HQ.out _).mono ?_; rintro e w2 ⟨rfl, hw⟩; have F2 := hid (Fr.bytes _ hw); (have B := (Blk.new w 115 #[.int .i64 0, .string ⟨#[]⟩, .int .i64 0]).fr F2.out (fun x => x)); have c0 := B.cell 0; have c1 := B.cell 1; have c2 := B.cell 2; have f0 := B.frozen 0; have f1 := B.frozen 1; have f2 := B.frozen 2; clear B; clear hw)))
      refine bodyPost_ret (v := oneV s (.err 12)) (by simp [results, Tryz.results112, go_sem, oneV, tokV, c0, c1, c2]; try rfl) rfl ⟨by simp, Fr.box3 F2.out _ _ _⟩
  · have hp := HP.out
    rw [if_neg h1] at hp
    have HQ := hid hp
    clear hp
    rw [decide_eq_false h1]
    clear h1 HP
    rw [Bool.and_false]
    by_cases h2 : n ≤ 19
    · have h3 : (n : Int) ≤ 19 := by omega
      clear h2
      go_enter Tryz.func112, Tryz.ntmps112
      go_wp2_with (first | (go_at_call 73; refine (hr.out _).mono ?_; rintro e w1 ⟨rfl, rfl⟩) | (go_at_call 152; go_must (refine (Tryz.strconv_ParseInt_10_at64_range_var _ (by (have := HSZ.out; omega)) HQ.out tp p _ (var_fr RV.out ((Fr.refl nob w).alloc _))).mono ?_; rintro e w2 ⟨N, rfl, _, _, hb⟩; have F2 := hid (Fr.no_below hb); (have B := (Blk.new w 115 #[.int .i64 0, .string ⟨#[]⟩, .int .i64 0]).fr F2.out (fun x => x)); have c0 := B.cell 0; have c1 := B.cell 1; have c2 := B.cell 2; have f0 := B.frozen 0; have f1 := B.frozen 1; have f2 := B.frozen 2; clear B; clear hb)))
      refine bodyPost_ret (v := oneV s (.err 12)) (by simp [results, Tryz.results112, go_sem, oneV, tokV, c0, c1, c2]; try rfl) rfl ⟨by simp, Fr.box3 F2.out _ _ _⟩
    · have h3 : (19 : Int) < (n : Int) := by omega
      clear h2
      go_enter Tryz.func112, Tryz.ntmps112
      go_wp2_with (first | (go_at_call 73; refine (hr.out _).mono ?_; rintro e w1 ⟨rfl, rfl⟩) | (go_at_call 152; go_must (refine (Tryz.strconv_ParseInt_10_at64_range_var _ (by (have := HSZ.out; omega)) HQ.out tp p _ (var_fr RV.out ((Fr.refl nob w).alloc _))).mono ?_; rintro e w2 ⟨N, rfl, _, _, hb⟩; have F2 := hid (Fr.no_below hb); (have B := (Blk.new w 115 #[.int .i64 0, .string ⟨#[]⟩, .int .i64 0]).fr F2.out (fun x => x)); have c0 := B.cell 0; have c1 := B.cell 1; have c2 := B.cell 2; have f0 := B.frozen 0; have f1 := B.frozen 1; have f2 := B.frozen 2; clear B; clear hb)))
      refine bodyPost_ret (v := oneV s (.err 12)) (by simp [results, Tryz.results112, go_sem, oneV, tokV, c0, c1, c2]; try rfl) rfl ⟨by simp, Fr.box3 F2.out _ _ _⟩
end Go.Proofs.YtlbjicjinnnboaaGreatDoor.Lx
/- The lexer's words and names: the walks. -/
namespace Go.Proofs.YtlbjicjinnnboaaGreatDoor.Lx
open Go.RowKit
set_option linter.unusedVariables false
set_option linter.unusedSimpArgs false

theorem cnt_words : Lib.countB ⟨(List.append [102, 110, 32, 108, 101, 116, 32, 105, 102, 32, 101, 108, 115, 101, 32, 119, 104, 105, 108, 101, 32, 114, 101, 116, 117, 114, 110, 32, 112, 114, 105, 110, 116, 32, 105, 110, 112, 117, 116, 32] [110, 101, 119, 32, 108, 101, 110, 32, 116, 114, 117, 101, 32, 102, 97, 108, 115, 101, 32, 105, 110, 116, 32, 98, 111, 111, 108, 32, 116, 101, 120, 116, 32, 108, 105, 115, 116]).toArray⟩ ⟨#[32]⟩ = 15 := by kernel_rfl
theorem spl_words : Lib.splitB ⟨#[32]⟩ 0 15 ⟨(List.append [102, 110, 32, 108, 101, 116, 32, 105, 102, 32, 101, 108, 115, 101, 32, 119, 104, 105, 108, 101, 32, 114, 101, 116, 117, 114, 110, 32, 112, 114, 105, 110, 116, 32, 105, 110, 112, 117, 116, 32] [110, 101, 119, 32, 108, 101, 110, 32, 116, 114, 117, 101, 32, 102, 97, 108, 115, 101, 32, 105, 110, 116, 32, 98, 111, 111, 108, 32, 116, 101, 120, 116, 32, 108, 105, 115, 116]).toArray⟩ = wordsS := by kernel_rfl
theorem split_words (w : World) (hv : Vars w) : Calls Tryz.prog 156 #[.string ⟨(List.append [102, 110, 32, 108, 101, 116, 32, 105, 102, 32, 101, 108, 115, 101, 32, 119, 104, 105, 108, 101, 32, 114, 101, 116, 117, 114, 110, 32, 112, 114, 105, 110, 116, 32, 105, 110, 112, 117, 116, 32] [110, 101, 119, 32, 108, 101, 110, 32, 116, 114, 117, 101, 32, 102, 97, 108, 115, 101, 32, 105, 110, 116, 32, 98, 111, 111, 108, 32, 116, 101, 120, 116, 32, 108, 105, 115, 116]).toArray⟩, .string ⟨#[32]⟩] w fun e w' =>
    e = .returned (.slice (some ⟨w.heap.size, 0, none⟩) 16 16) ∧ w' = w.alloc (.cells (wordsS.map Value.string).toArray 9) := by
  obtain ⟨m, hm⟩ := hv.most
  refine (Tryz.strings_Split _ _ m w (by decide) hm (by decide)).mono ?_
  rintro e w' ⟨rfl, rfl⟩
  rw [cnt_words, spl_words]
  exact ⟨rfl, rfl⟩
theorem cnt_twos : Lib.countB ⟨#[124, 124, 32, 38, 38, 32, 60, 61, 32, 61, 61, 32, 33, 61]⟩ ⟨#[32]⟩ = 4 := by kernel_rfl
theorem spl_twos : Lib.splitB ⟨#[32]⟩ 0 4 ⟨#[124, 124, 32, 38, 38, 32, 60, 61, 32, 61, 61, 32, 33, 61]⟩ = twosS := by kernel_rfl
theorem split_twos (w : World) (hv : Vars w) : Calls Tryz.prog 156 #[.string ⟨#[124, 124, 32, 38, 38, 32, 60, 61, 32, 61, 61, 32, 33, 61]⟩, .string ⟨#[32]⟩] w fun e w' =>
    e = .returned (.slice (some ⟨w.heap.size, 0, none⟩) 5 5) ∧ w' = w.alloc (.cells (twosS.map Value.string).toArray 9) := by
  obtain ⟨m, hm⟩ := hv.most
  refine (Tryz.strings_Split _ _ m w (by decide) hm (by decide)).mono ?_
  rintro e w' ⟨rfl, rfl⟩
  rw [cnt_twos, spl_twos]
  exact ⟨rfl, rfl⟩
theorem among (ss : List ByteArray) (n : Nat) (hn : ss.length = n) (hm : n ≤ 9223372036854775807) (x : ByteArray) (w : World) :
    Calls Tryz.prog 122 #[.slice (some ⟨w.heap.size, 0, none⟩) n n, .string x] (w.alloc (.cells (ss.map Value.string).toArray 9)) fun e w' =>
      e = .returned (.bool (isIn ss x.data.toList)) ∧ w' = w.alloc (.cells (ss.map Value.string).toArray 9) := by
  refine (Tryz.slices_Contains_string _ _ _ _ ss x _ (by omega) hm (fun j hj => ?_)).mono ?_
  · have := (Blk.new w 9 (ss.map Value.string).toArray).cell j
    rw [Nat.zero_add, this]
    simp [List.getD, hj]
  · rintro e w' ⟨rfl, rfl⟩
    rw [List.take_of_length_le (by omega), mem_bytes]
    exact ⟨rfl, rfl⟩

theorem word_any (s : ByteArray) (w : World) (hv : Vars w) : Calls Tryz.prog 154 #[.string s] w fun e w' => e = .returned (.bool (wordB s.data.toList)) ∧ Fr nob w w' := by
  unfold wordB
  have V := hid hv
  clear hv
  go_enter Tryz.func154, Tryz.ntmps154
  go_wp2_with (first | (go_at_call 156; go_must (refine (split_words _ V.out).mono ?_; rintro e w1 ⟨rfl, rfl⟩)) | (go_at_call 122; go_must (refine (among wordsS 16 rfl (by decide) _ w).mono ?_; rintro e w1 ⟨rfl, rfl⟩)))
  go_ret
  exact ⟨rfl, (Fr.refl nob w).alloc _⟩

set_option maxHeartbeats 800000 in
theorem name_any (s : ByteArray) (w : World) (hs : s.size ≤ 281474976710656) (hv : Vars w) :
    Calls Tryz.prog 114 #[.string s] w fun e w' => e = .returned (oneV s (nameM s.data.toList)) ∧ Fr nob w w' := by
  have hn := runN_le withinI s.data.toList
  have hn2 : runN withinI s.data.toList ≤ s.size := by simpa using hn
  have hex : (s.extract 0 (runN withinI s.data.toList)).data.toList = s.data.toList.take (runN withinI s.data.toList) := ext_take _ _
  have hr := hid (run_within s (by omega))
  have HW := hid (fun w' hv' => word_any (s.extract 0 (runN withinI s.data.toList)) w' hv')
  rw [hex] at HW
  unfold nameM
  generalize runN withinI s.data.toList = n at *
  generalize wordB (s.data.toList.take n) = b at *
  have V := hid hv
  clear hv hex hn
  cases b with
  | true =>
    go_enter Tryz.func114, Tryz.ntmps114
    go_wp2_with (first | (go_at_call 73; refine (hr.out _).mono ?_; rintro e w1 ⟨rfl, rfl⟩) | (go_at_call 154; go_must (refine (HW.out _ (V.out.fr ((Fr.refl nob w).alloc _))).mono ?_; rintro e w2 ⟨rfl, hf⟩; have F2 := hid hf; (have B := (Blk.new w 115 #[.int .i64 0, .string ⟨#[]⟩, .int .i64 0]).fr F2.out (fun x => x)); have c0 := B.cell 0; have c1 := B.cell 1; have c2 := B.cell 2; have f0 := B.frozen 0; have f1 := B.frozen 1; have f2 := B.frozen 2; clear B; clear hf)))
    refine bodyPost_ret (v := oneV s (.ok 4 0 n n)) (by simp [results, Tryz.results114, go_sem, oneV, tokV, c0, c1, c2]; try rfl) rfl ⟨by simp, Fr.box3 F2.out _ _ _⟩
  | false =>
    by_cases h8 : 8 < n
    · have h3 : (8 : Int) < (n : Int) := by omega
      rw [if_neg (by decide), if_pos h8]
      clear h8
      go_enter Tryz.func114, Tryz.ntmps114
      go_wp2_with (first | (go_at_call 73; refine (hr.out _).mono ?_; rintro e w1 ⟨rfl, rfl⟩) | (go_at_call 154; go_must (refine (HW.out _ (V.out.fr ((Fr.refl nob w).alloc _))).mono ?_; rintro e w2 ⟨rfl, hf⟩; have F2 := hid hf; (have B := (Blk.new w 115 #[.int .i64 0, .string ⟨#[]⟩, .int .i64 0]).fr F2.out (fun x => x)); have c0 := B.cell 0; have c1 := B.cell 1; have c2 := B.cell 2; have f0 := B.frozen 0; have f1 := B.frozen 1; have f2 := B.frozen 2; clear B; clear hf)))
      refine bodyPost_ret (v := oneV s (.err 13)) (by simp [results, Tryz.results114, go_sem, oneV, tokV, c0, c1, c2]; try rfl) rfl ⟨by simp, Fr.box3 F2.out _ _ _⟩
    · have h3 : (n : Int) ≤ 8 := by omega
      rw [if_neg (by decide), if_neg h8]
      clear h8
      go_enter Tryz.func114, Tryz.ntmps114
      go_wp2_with (first | (go_at_call 73; refine (hr.out _).mono ?_; rintro e w1 ⟨rfl, rfl⟩) | (go_at_call 154; go_must (refine (HW.out _ (V.out.fr ((Fr.refl nob w).alloc _))).mono ?_; rintro e w2 ⟨rfl, hf⟩; have F2 := hid hf; (have B := (Blk.new w 115 #[.int .i64 0, .string ⟨#[]⟩, .int .i64 0]).fr F2.out (fun x => x)); have c0 := B.cell 0; have c1 := B.cell 1; have c2 := B.cell 2; have f0 := B.frozen 0; have f1 := B.frozen 1; have f2 := B.frozen 2; clear B; clear hf)))
      refine bodyPost_ret (v := oneV s (.ok 3 0 n n)) (by simp [results, Tryz.results114, go_sem, oneV, tokV, c0, c1, c2]; try rfl) rfl ⟨by simp, Fr.box3 F2.out _ _ _⟩
end Go.Proofs.YtlbjicjinnnboaaGreatDoor.Lx
/- The lexer's texts and signs: the walks. -/
namespace Go.Proofs.YtlbjicjinnnboaaGreatDoor.Lx
open Go.RowKit
set_option linter.unusedVariables false
set_option linter.unusedSimpArgs false

set_option maxHeartbeats 800000 in
theorem text_any (s : ByteArray) (w : World) (hs : s.size ≤ 281474976710656) (h0 : 0 < s.size) :
    Calls Tryz.prog 115 #[.string s] w fun e w' => e = .returned (oneV s (textM s.data.toList)) ∧ Fr nob w w' := by
  have hex : (s.extract 1 s.size).data.toList = s.data.toList.drop 1 := Lib.extract_to_end s 1
  have hsx : (s.extract 1 s.size).size = s.size - 1 := by simp
  have hn := runN_le plainI (s.extract 1 s.size).data.toList
  have hn2 : runN plainI (s.extract 1 s.size).data.toList + 1 ≤ s.size := by
    have : (s.extract 1 s.size).data.toList.length = s.size - 1 := by simp
    omega
  have hr := hid (run_plain (s.extract 1 s.size) (by omega))
  unfold textM
  rw [hex] at hr hn2
  have hl : s.data.toList.length = s.size := by simp
  rw [hl]
  have hby := fun h => byteAt_eq s (runN plainI (s.data.toList.drop 1) + 1) h
  generalize runN plainI (s.data.toList.drop 1) = n at *
  clear hn hex hsx hl
  by_cases h1 : s.size ≤ n + 1
  · rw [if_pos (.inl h1)]
    have h2 : (s.size : Int) ≤ (n : Int) + 1 := by omega
    clear hby
    go_enter Tryz.func115, Tryz.ntmps115
    go_wp2_with (go_at_call 73; refine (hr.out _).mono ?_; rintro e w1 ⟨rfl, rfl⟩)
    refine bodyPost_ret (v := oneV s (.err 11)) (by simp [results, Tryz.results115, go_sem, oneV, tokV]; try rfl) rfl ⟨by simp, (Fr.refl nob w).alloc _⟩
  · have h3 : n + 1 < s.size := by omega
    have hb := hby h3
    clear hby
    by_cases hq : ((s[n + 1]'h3).toNat : Int) = 34
    · rw [if_neg (by rw [hb, hq]; simp; omega)]
      have hqb : s[n + 1]'h3 = 34 := by
        have : (s[n + 1]'h3).toNat = 34 := by omega
        exact UInt8.toNat_inj.1 this
      have hi : (n : Int) + 1 < (s.size : Int) := by omega
      by_cases h12 : 12 < n
      · rw [if_pos h12]
        have h4 : (12 : Int) < (n : Int) := by omega
        clear hb h1
        go_enter Tryz.func115, Tryz.ntmps115
        go_wp2_with (go_at_call 73; refine (hr.out _).mono ?_; rintro e w1 ⟨rfl, rfl⟩)
        refine bodyPost_ret (v := oneV s (.err 4)) (by simp [results, Tryz.results115, go_sem, oneV, tokV]; try rfl) rfl ⟨by simp, (Fr.refl nob w).alloc _⟩
      · rw [if_neg h12]
        have h4 : (n : Int) ≤ 12 := by omega
        clear hb h1
        go_enter Tryz.func115, Tryz.ntmps115
        go_wp2_with (go_at_call 73; refine (hr.out _).mono ?_; rintro e w1 ⟨rfl, rfl⟩)
        refine bodyPost_ret (v := oneV s (.ok 2 1 n (n + 2))) (by simp [results, Tryz.results115, go_sem, oneV, tokV]; try rfl) rfl ⟨by simp, (Fr.refl nob w).alloc _⟩
    · rw [if_pos (.inr (by rw [hb]; exact hq))]
      have hi : (n : Int) + 1 < (s.size : Int) := by omega
      have hq1 : (((s[n + 1]'h3).toNat : Int) != 34) = true := bne_iff_ne.2 hq
      clear hb h1 hq
      go_enter Tryz.func115, Tryz.ntmps115
      go_wp2_with (go_at_call 73; refine (hr.out _).mono ?_; rintro e w1 ⟨rfl, rfl⟩)
      refine bodyPost_ret (v := oneV s (.err 11)) (by simp [results, Tryz.results115, go_sem, oneV, tokV]; try rfl) rfl ⟨by simp, (Fr.refl nob w).alloc _⟩

theorem among2 (ss : List ByteArray) (n : Nat) (hn : ss.length = n) (hm : n ≤ 9223372036854775807) (x : ByteArray) (g : Nat) (w : World) (hB : Blk w g 9 (ss.map Value.string).toArray) :
    Calls Tryz.prog 122 #[.slice (some ⟨g, 0, none⟩) n n, .string x] w fun e w' => e = .returned (.bool (isIn ss x.data.toList)) ∧ w = w' := by
  refine (Tryz.slices_Contains_string _ _ _ _ ss x _ (by omega) hm (fun j hj => ?_)).mono ?_
  · have := hB.cell j
    rw [Nat.zero_add, this]
    simp [List.getD, hj]
  · rintro e w' ⟨rfl, rfl⟩
    rw [List.take_of_length_le (by omega), mem_bytes]
    exact ⟨rfl, rfl⟩
theorem idx_ones (c : Int) (w : World) : Calls Tryz.prog 71 #[.string ⟨#[40, 41, 123, 125, 91, 93, 44, 59, 61, 60, 43, 45, 42, 47, 37, 33]⟩, .int .u8 c] w fun e w' =>
    ∃ i : Int, e = .returned (.int .i64 i) ∧ oneB c = decide (0 ≤ i) ∧ w' = w := by
  refine (Tryz.strings_IndexByte _ c w).mono ?_
  rintro e w' ⟨rfl, rfl⟩
  exact ⟨_, rfl, rfl, rfl⟩

set_option maxHeartbeats 1600000 in
set_option maxRecDepth 100000 in
theorem sign_any (s : ByteArray) (w : World) (hs : s.size ≤ 281474976710656) (h0 : 0 < s.size) (hv : Vars w) :
    Calls Tryz.prog 116 #[.string s] w fun e w' => e = .returned (oneV s (signM s.data.toList)) ∧ Fr nob w w' := by
  have hl : s.data.toList.length = s.size := by simp
  have hb := byteAt_eq s 0 h0
  have hex : (s.extract 0 2).data.toList = s.data.toList.take 2 := ext_take _ _
  unfold signM
  rw [hl, hb]
  have V := hid hv
  clear hv hl hb
  have HA := hid (fun g w' hB => among2 twosS 5 rfl (by decide) (s.extract 0 2) g w' hB)
  rw [hex] at HA
  have e2 : twoB (s.data.toList.take 2) = isIn twosS (s.data.toList.take 2) := rfl
  rw [e2]
  generalize isIn twosS (s.data.toList.take 2) = b at *
  have HO := hid (idx_ones ((s[0]'h0).toNat : Int))
  generalize oneB ((s[0]'h0).toNat : Int) = ob at *
  clear hex e2
  have h3 : (0 : Int) < (s.size : Int) := by omega
  by_cases h1 : 1 < s.size
  · have h2 : (1 : Int) < (s.size : Int) := by omega
    have h4 : (2 : Int) ≤ (s.size : Int) := by omega
    have hd : decide ((1 : Int) < (s.size : Int)) = true := decide_eq_true h2
    cases b with
    | true =>
      rw [if_pos ⟨h1, rfl⟩]
      go_enter Tryz.func116, Tryz.ntmps116
      go_wp2
      go_region_held3 (fun _ => True) (trivial) (first | (go_at_call 156; with_reducible refine (split_twos _ (V.out.fr (((Fr.refl nob w).alloc _).drew))).mono ?_; rintro e w6 ⟨rfl, rfl⟩) | (go_at_call 122; with_reducible refine (HA.out _ _ (by (have hB := Blk.new (w.alloc (.cells #[.int .i64 0, .string ⟨#[]⟩, .int .i64 0] 115)) 9 (twosS.map Value.string).toArray); rw [World.size_alloc] at hB; exact hB.fr ((Fr.refl nob _).drew) (fun x => x))).mono ?_; rintro e w7 ⟨rfl, rfl⟩))
      go_wp2
      refine bodyPost_ret (v := oneV s (.ok 5 0 2 2)) (by simp [results, Tryz.results116, go_sem, oneV, tokV]; try rfl) rfl ⟨by simp, (((Fr.refl nob w).alloc _).alloc _).drew⟩
    | false =>
      rw [if_neg (by simp)]
      go_enter Tryz.func116, Tryz.ntmps116
      go_wp2
      go_region_held3 (fun _ => True) (trivial) (first | (go_at_call 156; with_reducible refine (split_twos _ (V.out.fr (((Fr.refl nob w).alloc _).drew))).mono ?_; rintro e w6 ⟨rfl, rfl⟩) | (go_at_call 122; with_reducible refine (HA.out _ _ (by (have hB := Blk.new (w.alloc (.cells #[.int .i64 0, .string ⟨#[]⟩, .int .i64 0] 115)) 9 (twosS.map Value.string).toArray); rw [World.size_alloc] at hB; exact hB.fr ((Fr.refl nob _).drew) (fun x => x))).mono ?_; rintro e w7 ⟨rfl, rfl⟩))
      cases ob with
      | true =>
        go_wp2_with (go_at_call 71; go_must (refine (HO.out _).mono ?_; rintro e w5 ⟨i, rfl, hob, rfl⟩; have hi : (0 : Int) ≤ i := of_decide_eq_true hob.symm; clear hob))
        refine bodyPost_ret (v := oneV s (.ok 5 0 1 1)) (by simp [results, Tryz.results116, go_sem, oneV, tokV]; try rfl) rfl ⟨by simp, (((Fr.refl nob w).alloc _).alloc _).drew⟩
      | false =>
        go_wp2_with (go_at_call 71; go_must (refine (HO.out _).mono ?_; rintro e w5 ⟨i, rfl, hob, rfl⟩; have hi : i < (0 : Int) := Int.not_le.1 (of_decide_eq_false hob.symm); clear hob))
        refine bodyPost_ret (v := oneV s (.err 10)) (by simp [results, Tryz.results116, go_sem, oneV, tokV]; try rfl) rfl ⟨by simp, (((Fr.refl nob w).alloc _).alloc _).drew⟩
  · rw [if_neg (by omega)]
    have hd : decide ((1 : Int) < (s.size : Int)) = false := decide_eq_false (by omega)
    clear h1
    go_enter Tryz.func116, Tryz.ntmps116
    go_wp2
    go_quiet (fail)
    cases ob with
    | true =>
      go_wp2_with (go_at_call 71; go_must (refine (HO.out _).mono ?_; rintro e w5 ⟨i, rfl, hob, rfl⟩; have hi : (0 : Int) ≤ i := of_decide_eq_true hob.symm; clear hob))
      refine bodyPost_ret (v := oneV s (.ok 5 0 1 1)) (by simp [results, Tryz.results116, go_sem, oneV, tokV]; try rfl) rfl ⟨by simp, Fr.box3 ((Fr.refl nob _).drewN _) _ _ _⟩
    | false =>
      go_wp2_with (go_at_call 71; go_must (refine (HO.out _).mono ?_; rintro e w5 ⟨i, rfl, hob, rfl⟩; have hi : i < (0 : Int) := Int.not_le.1 (of_decide_eq_false hob.symm); clear hob))
      refine bodyPost_ret (v := oneV s (.err 10)) (by simp [results, Tryz.results116, go_sem, oneV, tokV]; try rfl) rfl ⟨by simp, Fr.box3 ((Fr.refl nob _).drewN _) _ _ _⟩
end Go.Proofs.YtlbjicjinnnboaaGreatDoor.Lx
/- What a text begins with: the walk. -/
namespace Go.Proofs.YtlbjicjinnnboaaGreatDoor.Lx
open Go.RowKit
set_option linter.unusedVariables false
set_option linter.unusedSimpArgs false

set_option maxHeartbeats 1600000 in
theorem first_any (s : ByteArray) (w : World) (hs : s.size ≤ 281474976710656) (h0 : 0 < s.size) (hv : Vars w) :
    Calls Tryz.prog 75 #[.string s] w fun e w' => e = .returned (oneV s (firstM s.data.toList)) ∧ Fr nob w w' := by
  have hb := byteAt_eq s 0 h0
  have h3 : (0 : Int) < (s.size : Int) := by omega
  have V := hid hv
  clear hv
  unfold firstM
  by_cases hd : digitI (byteAt s.data.toList 0) = true
  · rw [if_pos hd]
    have hr : 0 < runN digitI s.data.toList := by
      have := runN_step digitI s.data.toList 0 (by simpa using h0)
      rw [List.drop_zero, if_pos hd] at this
      omega
    rw [hb] at hd
    clear hb
    have HC := hid (fun w' (hf : Fr nob w w') => number_any s w' hs hr (V.out.fr hf))
    obtain ⟨k, t, n, er, hV⟩ := oneV_open s (numberM s.data.toList)
    rw [hV] at HC ⊢
    go_enter Tryz.func75, Tryz.ntmps75
    go_wp2_with (first | (go_at_call 111; refine (digit_any _ _).mono ?_; rintro e w1 ⟨rfl, rfl⟩) | (go_at_call 113; refine (letter_any _ _).mono ?_; rintro e w1 ⟨rfl, rfl⟩) | (go_at_call 112; go_must (refine (HC.out _ ((Fr.refl nob w).alloc _)).mono ?_; rintro e w2 ⟨rfl, hf⟩; have F2 := hid hf; (have B := (Blk.new w 115 #[.int .i64 0, .string ⟨#[]⟩, .int .i64 0]).fr F2.out (fun x => x)); have c0 := B.cell 0; have c1 := B.cell 1; have c2 := B.cell 2; have f0 := B.frozen 0; have f1 := B.frozen 1; have f2 := B.frozen 2; clear B; clear hf)))
    refine bodyPost_ret (v := .tuple #[.agg #[.int .i64 k, .string t, .int .i64 0], .int .i64 n, .int .i64 er]) (by simp [results, Tryz.results75, go_sem, c0, c1, c2]; try rfl) rfl ⟨by simp, Fr.box3 F2.out _ _ _⟩

  · rw [if_neg hd]
    rw [hb] at hd ⊢
    have hd' : digitI ((s[0]'h0).toNat : Int) = false := by simpa using hd
    clear hd hb
    by_cases hl : letterI ((s[0]'h0).toNat : Int) = true
    · rw [if_pos hl]
      have HC := hid (fun w' (hf : Fr nob w w') => name_any s w' hs (V.out.fr hf))
      obtain ⟨k, t, n, er, hV⟩ := oneV_open s (nameM s.data.toList)
      rw [hV] at HC ⊢
      go_enter Tryz.func75, Tryz.ntmps75
      go_wp2_with (first | (go_at_call 111; refine (digit_any _ _).mono ?_; rintro e w1 ⟨rfl, rfl⟩) | (go_at_call 113; refine (letter_any _ _).mono ?_; rintro e w1 ⟨rfl, rfl⟩) | (go_at_call 114; go_must (refine (HC.out _ ((Fr.refl nob w).alloc _)).mono ?_; rintro e w2 ⟨rfl, hf⟩; have F2 := hid hf; (have B := (Blk.new w 115 #[.int .i64 0, .string ⟨#[]⟩, .int .i64 0]).fr F2.out (fun x => x)); have c0 := B.cell 0; have c1 := B.cell 1; have c2 := B.cell 2; have f0 := B.frozen 0; have f1 := B.frozen 1; have f2 := B.frozen 2; clear B; clear hf)))
      refine bodyPost_ret (v := .tuple #[.agg #[.int .i64 k, .string t, .int .i64 0], .int .i64 n, .int .i64 er]) (by simp [results, Tryz.results75, go_sem, c0, c1, c2]; try rfl) rfl ⟨by simp, Fr.box3 F2.out _ _ _⟩

    · rw [if_neg hl]
      have hl' : letterI ((s[0]'h0).toNat : Int) = false := by simpa using hl
      clear hl
      by_cases hq : ((s[0]'h0).toNat : Int) = 34
      · have hq' : (((s[0]'h0).toNat : Int) == 34) = true := beq_iff_eq.2 hq
        rw [if_pos hq']
        clear hq
        have HC := hid (fun w' (hf : Fr nob w w') => text_any s w' hs h0)
        obtain ⟨k, t, n, er, hV⟩ := oneV_open s (textM s.data.toList)
        rw [hV] at HC ⊢
        go_enter Tryz.func75, Tryz.ntmps75
        go_wp2_with (first | (go_at_call 111; refine (digit_any _ _).mono ?_; rintro e w1 ⟨rfl, rfl⟩) | (go_at_call 113; refine (letter_any _ _).mono ?_; rintro e w1 ⟨rfl, rfl⟩) | (go_at_call 115; go_must (refine (HC.out _ ((Fr.refl nob w).alloc _)).mono ?_; rintro e w2 ⟨rfl, hf⟩; have F2 := hid hf; (have B := (Blk.new w 115 #[.int .i64 0, .string ⟨#[]⟩, .int .i64 0]).fr F2.out (fun x => x)); have c0 := B.cell 0; have c1 := B.cell 1; have c2 := B.cell 2; have f0 := B.frozen 0; have f1 := B.frozen 1; have f2 := B.frozen 2; clear B; clear hf)))
        refine bodyPost_ret (v := .tuple #[.agg #[.int .i64 k, .string t, .int .i64 0], .int .i64 n, .int .i64 er]) (by simp [results, Tryz.results75, go_sem, c0, c1, c2]; try rfl) rfl ⟨by simp, Fr.box3 F2.out _ _ _⟩

      · have hq' : (((s[0]'h0).toNat : Int) == 34) = false := by simpa using hq
        rw [if_neg (by rw [hq']; simp)]
        clear hq
        have HC := hid (fun w' (hf : Fr nob w w') => sign_any s w' hs h0 (V.out.fr hf))
        obtain ⟨k, t, n, er, hV⟩ := oneV_open s (signM s.data.toList)
        rw [hV] at HC ⊢
        go_enter Tryz.func75, Tryz.ntmps75
        go_wp2_with (first | (go_at_call 111; refine (digit_any _ _).mono ?_; rintro e w1 ⟨rfl, rfl⟩) | (go_at_call 113; refine (letter_any _ _).mono ?_; rintro e w1 ⟨rfl, rfl⟩) | (go_at_call 116; go_must (refine (HC.out _ ((Fr.refl nob w).alloc _)).mono ?_; rintro e w2 ⟨rfl, hf⟩; have F2 := hid hf; (have B := (Blk.new w 115 #[.int .i64 0, .string ⟨#[]⟩, .int .i64 0]).fr F2.out (fun x => x)); have c0 := B.cell 0; have c1 := B.cell 1; have c2 := B.cell 2; have f0 := B.frozen 0; have f1 := B.frozen 1; have f2 := B.frozen 2; clear B; clear hf)))
        refine bodyPost_ret (v := .tuple #[.agg #[.int .i64 k, .string t, .int .i64 0], .int .i64 n, .int .i64 er]) (by simp [results, Tryz.results75, go_sem, c0, c1, c2]; try rfl) rfl ⟨by simp, Fr.box3 F2.out _ _ _⟩

end Go.Proofs.YtlbjicjinnnboaaGreatDoor.Lx
/- The tokens of a source: the model, and how the walk goes along it. -/
namespace Go.Proofs.YtlbjicjinnnboaaGreatDoor.Lx
open Go.RowKit
set_option linter.unusedVariables false
set_option linter.unusedSimpArgs false

section
variable {l : List UInt8} {p : Nat}
end
end Go.Proofs.YtlbjicjinnnboaaGreatDoor.Lx
/- The tokens of a source: the walk. -/
namespace Go.Proofs.YtlbjicjinnnboaaGreatDoor.Lx
open Go.RowKit
set_option linter.unusedVariables false
set_option linter.unusedSimpArgs false

theorem idx_blank (c : Int) (w : World) : Calls Tryz.prog 71 #[.string ⟨#[32, 9, 13, 10]⟩, .int .u8 c] w fun e w' =>
    ∃ i : Int, e = .returned (.int .i64 i) ∧ blankI c = decide (0 ≤ i) ∧ w' = w := by
  refine (Tryz.strings_IndexByte _ c w).mono ?_
  rintro e w' ⟨rfl, rfl⟩
  exact ⟨_, rfl, rfl, rfl⟩
theorem has_remark (s : ByteArray) (w : World) : Calls Tryz.prog 72 #[.string s, .string ⟨#[47, 47]⟩] w fun e w' =>
    e = .returned (.bool (remarkB s.data.toList)) ∧ w = w' := by
  refine (Tryz.strings_HasPrefix _ _ w).mono ?_
  rintro e w' ⟨rfl, rfl⟩
  exact ⟨rfl, rfl⟩

set_option maxHeartbeats 4000000 in
set_option maxRecDepth 100000 in
theorem all_any (s : ByteArray) (w : World) (hs : s.size ≤ 281474976710656) (hv : Vars w) :
    Calls Tryz.prog 49 #[.string s] w fun e w' => LexAt w.heap.size w' e (lexM s.data.toList) ∧ Fr nob w w' := by
  have hl : s.data.toList.length = s.size := by simp
  have V := hid hv
  clear hv
  unfold lexM
  rw [hl]
  have HL := hid hl
  clear hl
  by_cases hbig : 600 < s.size
  · rw [if_pos hbig]
    have h2 : (600 : Int) < (s.size : Int) := by omega
    clear hbig
    go_enter Tryz.func49, Tryz.ntmps49
    go_wp2
    go_step3
    go_wp2
    rw [Exit.noGoto_ret]
    go_ret3
    exact ⟨rfl, Fr.refl _ _⟩
  · rw [if_neg hbig]
    have h2 : (s.size : Int) ≤ 600 := by omega
    have h600 : s.size ≤ 600 := by omega
    clear hbig
    go_enter Tryz.func49, Tryz.ntmps49
    go_wp2
    go_step3
    go_wp2
    go_step3
    go_wp2
    go_loopw [5, 6] (fun l i w' => ∃ (k : Nat) (K : List Tok), k ≤ s.size ∧ K.length ≤ k ∧ i = .int .i64 k ∧ Toks w.heap.size w' l K ∧ Fr nob w w' ∧ lexFrom s.data.toList 0 = (lexFrom (s.data.toList.drop k) k).pre K) (fun _ i _ => s.size - (intOf i).toNat)
    case atStart =>
      exact ⟨0, [], Nat.zero_le _, Nat.le_refl _, rfl, ⟨Own.nil _ _ _, fun g hg => by simp [blk] at hg⟩, Fr.refl _ _, by rw [pre_nil]; rfl⟩
    case round =>
      obtain ⟨k, K, hks, hKk, rfl, ht, hf, hlx⟩ := hrel
      have T := hid ht
      have F := hid hf
      have LX := hid hlx
      have V2 := hid (V.out.fr hf)
      obtain ⟨A, c, rfl, hc, hcm⟩ := ht.own.cap
      clear ht hf hlx
      by_cases hlt : k < s.size
      · have hR : (s.extract k s.size).data.toList = s.data.toList.drop k := Lib.extract_to_end s k
        have hRs : (s.extract k s.size).size = s.size - k := by simp
        have h0 : 0 < (s.data.toList.drop k).length := by rw [List.length_drop, HL.out]; omega
        have hb0 := byteAt_eq (s.extract k s.size) 0 (by omega)
        rw [hR] at hb0
        have HRS := hid hRs
        by_cases hbl : blankI (byteAt (s.data.toList.drop k) 0) = true
        · have N1 := hid (lex_blank (p := k) h0 hbl)
          rw [hb0] at hbl
          have HB := hid hbl
          clear hbl hb0 hR h0
          go_wp2_with (go_at_call 71; go_must (refine (idx_blank _ _).mono ?_; rintro e w5 ⟨i, rfl, hob, rfl⟩; have hi : (0 : Int) ≤ i := of_decide_eq_true (hob.symm.trans HB.out); clear hob))
          go_roundw
          case rel => exact ⟨k + 1, K, by omega, by omega, by go_num, T.out, F.out, by rw [LX.out, N1.out, List.drop_drop]⟩
          case measure => simp [intOf]; omega
        · have hblf : blankI (byteAt (s.data.toList.drop k) 0) = false := by simpa using hbl
          clear hbl
          have hP := fun w' => has_remark (s.extract k s.size) w'
          rw [hR] at hP
          by_cases hrm : remarkB (s.data.toList.drop k) = true
          · have N1 := hid (lex_remark (p := k) h0 hblf hrm)
            rw [hrm] at hP
            have HP := hid hP
            have hr := run_line (s.extract k s.size) (by omega)
            rw [hR] at hr
            have hrl := runN_le lineI (s.data.toList.drop k)
            have hr1 : 1 ≤ runN lineI (s.data.toList.drop k) := by
              refine runN_pos lineI _ h0 ?_
              cases hd : s.data.toList.drop k with
              | nil => rw [hd] at h0; simp at h0
              | cons c r =>
                rw [hd] at hrm
                unfold remarkB Lib.hasPrefix at hrm
                simp at hrm
                simp [lineI, byteAt, ← hrm.1]
            rw [List.length_drop, HL.out] at hrl
            generalize runN lineI (s.data.toList.drop k) = n at *
            have HR := hid hr
            rw [hb0] at hblf
            have HB := hid hblf
            clear hblf hb0 hR h0 hP hr hrm
            go_wp2_with (first | (go_at_call 71; go_must (refine (idx_blank _ _).mono ?_; rintro e w5 ⟨i, rfl, hob, rfl⟩; have hi : i < (0 : Int) := Int.not_le.1 (of_decide_eq_false (hob.symm.trans HB.out)); clear hob)) | (go_at_call 72; go_must (refine (HP.out _).mono ?_; rintro e w5 ⟨rfl, rfl⟩)) | (go_at_call 73; refine (HR.out _).mono ?_; rintro e w1 ⟨rfl, rfl⟩))
            go_roundw
            case rel => exact ⟨k + n, K, by omega, by omega, by go_num, T.out, F.out, by rw [LX.out, N1.out, List.drop_drop]⟩
            case measure => simp [intOf]; omega
          · have hrf : remarkB (s.data.toList.drop k) = false := by simpa using hrm
            clear hrm
            rw [hrf] at hP
            have HP := hid hP
            have hF := fun w' hv' => first_any (s.extract k s.size) w' (by omega) (by omega) hv'
            rw [hR] at hF
            cases hone : firstM (s.data.toList.drop k) with
            | err er =>
              have N1 := hid (lex_err (p := k) h0 hblf hrf hone)
              have her := firstM_err hone
              rw [hone] at hF
              simp only [oneV, tokV] at hF
              have HF := hid hF
              rw [hb0] at hblf
              have HB := hid hblf
              have he2 : ((er : Int) != 0) = true := by simp; omega
              clear hblf hb0 hR h0 hP hF hrf hone her
              go_wp2_with (first | (go_at_call 71; go_must (refine (idx_blank _ _).mono ?_; rintro e w5 ⟨i, rfl, hob, rfl⟩; have hi : i < (0 : Int) := Int.not_le.1 (of_decide_eq_false (hob.symm.trans HB.out)); clear hob)) | (go_at_call 72; go_must (refine (HP.out _).mono ?_; rintro e w5 ⟨rfl, rfl⟩)) | (go_at_call 75; go_must (refine (HF.out _ V2.out).mono ?_; rintro e w2 ⟨rfl, hf2⟩; have F2 := hid hf2; clear hf2)))
              rw [Exit.noGoto_ret]
              go_ret3
              rw [LX.out, N1.out]
              exact ⟨rfl, (F.out.tr F2.out).alloc _⟩
            | ok kd o m n =>
              have N1 := hid (lex_ok (p := k) h0 hblf hrf hone)
              obtain ⟨hn1, hn2, hom⟩ := firstM_ok h0 hone
              rw [List.length_drop, HL.out] at hn2
              rw [hone] at hF
              have htx : (s.extract k s.size).extract o (m + o) = bs (((s.data.toList.drop k).drop o).take m) := by
                rw [← hR, ← show m + o - o = m by omega, ← Lib.extract_data, show m + o - o + o = m + o by omega, bs_data]
              simp only [oneV, tokV] at hF
              rw [htx] at hF
              generalize ((s.data.toList.drop k).drop o).take m = tx at *
              have HF := hid hF
              rw [hb0] at hblf
              have HB := hid hblf
              clear hblf hb0 hR h0 hP hF hrf hone hom htx
              go_wp2_with (first | (go_at_call 71; go_must (refine (idx_blank _ _).mono ?_; rintro e w5 ⟨i, rfl, hob, rfl⟩; have hi : i < (0 : Int) := Int.not_le.1 (of_decide_eq_false (hob.symm.trans HB.out)); clear hob)) | (go_at_call 72; go_must (refine (HP.out _).mono ?_; rintro e w5 ⟨rfl, rfl⟩)) | (go_at_call 75; go_must (refine (HF.out _ V2.out).mono ?_; rintro e w2 ⟨rfl, hf2⟩; have F2 := hid hf2; have S2 := hid hf2.size; clear hf2)) | (at_builtin; refine wpList_append (v := .slice A K.length c) (m := 1) (news := [.int .i64 kd, .string (bs tx), .int .i64 k]) rfl _ _ rfl TyTok rfl rfl (((T.out.no F2.out).own.alloc _).alloc _) (Rd.ofBlk (n := 1) (cs := [.int .i64 kd, .string (bs tx), .int .i64 k]) (Blk.new2 _ _ _ _) rfl (by decide)) (by simp [Value.oneCell']) (by omega) (by unfold maxLen; omega) ?_; intro A3 c3 w3 ho3 hf3 hv3; have O3 := hid ho3; have F3 := hid hf3; have V3 := hid hv3; clear ho3 hf3 hv3))
              go_roundw
              case rel =>
                refine ⟨k + n, K ++ [⟨kd, tx, k⟩], by omega, by simp; omega, by go_num, ⟨?_, fun g hg => ?_⟩, ?_, ?_⟩
                · have e1 : tokCells (K ++ [⟨kd, tx, k⟩]) = tokCells K ++ [.int .i64 kd, .string (bs tx), .int .i64 k] := by simp [tokCells]
                  rw [e1, List.length_append]; exact O3.out
                · rcases V3.out with h | h
                  · exact T.out.new g (h ▸ hg)
                  · rw [hg] at h; injection h with h
                    simp at h
                    have := S2.out; have := F.out.size; omega
                · exact ((((F.out.tr F2.out).alloc _).alloc _).trans F3.out (fun _ _ x => x) (fun b hb h => by have := T.out.new b h; omega))
                · rw [LX.out, N1.out, pre_pre, List.drop_drop]
              case measure => simp [intOf]; omega
      · have hk : k = s.size := by omega
        have hend : lexFrom (s.data.toList.drop k) k = .good [⟨0, [], k⟩] := by rw [List.drop_of_length_le (by rw [HL.out]; omega), lex_nil]
        have E1 := hid hend
        clear hend hlt
        have hge : (s.size : Int) ≤ (k : Int) := by omega
        clear hk
        go_wp2_with (at_builtin; refine wpList_append (v := .slice A K.length c) (m := 1) (news := [.int .i64 0, .string ⟨#[]⟩, .int .i64 k]) rfl _ _ rfl TyTok rfl rfl (T.out.own.alloc _) (Rd.ofBlk (n := 1) (cs := [.int .i64 0, .string ⟨#[]⟩, .int .i64 k]) (Blk.new _ _ _) rfl (by decide)) (by simp [Value.oneCell']) (by omega) (by unfold maxLen; omega) ?_; intro A3 c3 w3 ho3 hf3 hv3; have O3 := hid ho3; have F3 := hid hf3; have V3 := hid hv3; clear ho3 hf3 hv3)
        try rw [Exit.noGoto_ret]
        go_ret3
        rw [LX.out, E1.out]
        refine ⟨⟨_, rfl, ?_, fun g hg => ?_⟩, ?_⟩
        · have e1 : tokCells (K ++ [⟨0, [], k⟩]) = tokCells K ++ [.int .i64 0, .string ⟨#[]⟩, .int .i64 k] := by simp [tokCells, bs]
          rw [e1, List.length_append]; exact O3.out
        · have hg' : blk (.slice A3 (K.length + 1) c3) = some g := hg
          rcases V3.out with h | h
          · exact T.out.new g (h ▸ hg')
          · rw [hg'] at h; injection h with h
            simp at h
            have := F.out.size; omega
        · exact (F.out.alloc _).trans F3.out (fun _ _ x => x) (fun b hb h => by have := T.out.new b h; omega)
end Go.Proofs.YtlbjicjinnnboaaGreatDoor.Lx
/- The line of a place. -/
namespace Go.Proofs.YtlbjicjinnnboaaGreatDoor.Lx
open Go.RowKit
set_option linter.unusedVariables false
set_option linter.unusedSimpArgs false

set_option maxHeartbeats 800000 in
set_option maxRecDepth 100000 in
theorem line_at (s : ByteArray) (hs : s.size ≤ 281474976710656) (a : Int) (w : World) :
    Calls Tryz.prog 117 #[.string s, .int .i64 a] w fun e w' => e = .returned (.int .i64 (lineN s.data.toList a)) ∧ w = w' := by
  have hl : s.data.toList.length = s.size := by simp
  have hle := (line_le s.data.toList a).2
  rw [hl] at hle
  have e : lineN s.data.toList a = 1 + Lib.countByte (s.extract 0 (min (max a 0) (s.size : Int)).toNat).data.toList 10 := by
    unfold lineN Lib.countByte
    rw [ext_take, ← hl, take_clamp]
  have hm1 : (0 : Int) ≤ min (max a 0) (s.size : Int) := by omega
  have hm2 : min (max a 0) (s.size : Int) ≤ (s.size : Int) := by omega
  rw [e] at hle ⊢
  have HC := hid (fun w' => Tryz.strings_Count_one (s.extract 0 (min (max a 0) (s.size : Int)).toNat) 10 w')
  generalize Lib.countByte (s.extract 0 (min (max a 0) (s.size : Int)).toNat).data.toList 10 = n at *
  have hn : (n : Int) ≤ 281474976710656 := by omega
  clear e hl hle
  go_enter Tryz.func117, Tryz.ntmps117
  go_wp2_with (go_at_call 157; go_must (refine (HC.out _).mono ?_; rintro e w5 ⟨rfl, rfl⟩))
  go_ret
  exact ⟨by congr 2, rfl⟩
end Go.Proofs.YtlbjicjinnnboaaGreatDoor.Lx
