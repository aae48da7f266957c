/- The lexer's number: the walk. -/
import Derived.Test.YtcodonidmopodaaDoorLexB
namespace Go.Proofs.YtcodonidmopodaaDoor
open Go.RowKit
set_option linter.unusedVariables false
set_option linter.unusedSimpArgs false

theorem var_fr {P : Program} {w w' : World} {x : String} {cs : Array Value} (h : w.var? P x = some cs) (f : Fr nob w w') : w'.var? P x = some cs := by
  unfold World.var? at *
  cases hg : P.globalNamed x with
  | none => rw [hg] at h; simp at h
  | some g =>
    rw [hg] at h
    simp only [Option.bind_some] at h ⊢
    have hlt : g < w.heap.size := by
      by_cases hlt : g < w.heap.size
      · exact hlt
      · rw [Array.getElem?_eq_none (by omega)] at h; simp at h
    rw [f.block g hlt (fun x => x)]
    exact h
theorem Vars.fr {w w' : World} (h : Vars w) (f : Fr nob w w') : Vars w' := by
  obtain ⟨⟨m, hm⟩, tp, p, hr⟩ := h
  exact ⟨⟨m, (f.cell (World.block_lt_of_cell? _ _ hm) (fun x => x)).trans hm⟩, tp, p, var_fr hr f⟩
theorem Fr.no_below {w w' : World} (h : Below w.heap.size w w') : Fr nob w w' := ⟨h.os, h.tape, h.output, h.size, fun k hk _ => h.block k hk⟩
theorem Fr.bytes {w w' : World} (e : TypeId) (h : w' = w ∨ ∃ t, w' = Lib.bytesWorld w e t) : Fr nob w w' := by
  rcases h with rfl | ⟨t, rfl⟩
  · exact Fr.refl _ _
  · exact Fr.no_below (Lib.bytesWorld_below _ _ _)
theorem ext_take (s : ByteArray) (n : Nat) : (s.extract 0 n).data.toList = s.data.toList.take n := by
  rw [Lib.extract_data]; simp

theorem Fr.box3 {w w2 : World} {o : Obj} (f : Fr nob (w.alloc o) w2) (x y z : Value) :
    Fr nob w (((w2.setCell ⟨w.heap.size, 0, none⟩ x).setCell ⟨w.heap.size, 1, none⟩ y).setCell ⟨w.heap.size, 2, none⟩ z) :=
  ((((Fr.refl nob w).alloc o).tr f).setCell _ _ (fun h => absurd h (Nat.lt_irrefl _)) |>.setCell _ _ (fun h => absurd h (Nat.lt_irrefl _))).setCell _ _ (fun h => absurd h (Nat.lt_irrefl _))

set_option maxHeartbeats 800000 in
theorem number_any (s : ByteArray) (w : World) (hs : s.size ≤ 281474976710656) (hd : 0 < runN digitI s.data.toList) (hv : Vars w) :
    Calls Tryd.prog 34 #[.string s] w fun e w' => e = .returned (oneV s (numberM s.data.toList)) ∧ Fr nob w w' := by
  have hn := runN_le digitI s.data.toList
  have hn2 : runN digitI s.data.toList ≤ s.size := by simpa using hn
  have hex : (s.extract 0 (runN digitI s.data.toList)).data.toList = s.data.toList.take (runN digitI s.data.toList) := ext_take _ _
  have hdg := run_digits s.data.toList
  have hlen : (s.data.toList.take (runN digitI s.data.toList)).length = runN digitI s.data.toList := by rw [List.length_take]; omega
  have hsz : (s.extract 0 (runN digitI s.data.toList)).size = runN digitI s.data.toList := by simp; omega
  have hr := hid (run_digit s (by omega) )
  unfold numberM
  have hp := parseInt_digits _ hdg (by intro h; rw [h] at hlen; simp at hlen; omega)
  rw [← hex] at hp
  generalize runN digitI s.data.toList = n at *
  obtain ⟨tp, p, hrv⟩ := hv.rng
  have RV := hid hrv
  have hok : numOk (s.data.toList.take n) = (decide (n ≤ 19) && decide (digitsVal 0 (s.extract 0 n).data.toList ≤ 9223372036854775807)) := by unfold numOk; rw [hlen, hex]
  rw [hok]
  clear hok hdg hlen hex hn hrv hv
  have HP := hid hp
  have HSZ := hid hsz
  clear hp hsz
  by_cases h1 : digitsVal 0 (s.extract 0 n).data.toList ≤ 9223372036854775807
  · have hp := HP.out
    rw [if_pos h1] at hp
    have HQ := hid hp
    clear hp
    rw [decide_eq_true h1]
    clear h1 HP
    by_cases h2 : n ≤ 19
    · rw [decide_eq_true h2]
      go_enter Tryd.func34, Tryd.ntmps34
      go_wp2_with (first | (go_at_call 23; refine (hr.out _).mono ?_; rintro e w1 ⟨rfl, rfl⟩) | (go_at_call 50; go_must (refine (Tryd.strconv_ParseInt_10_at64_ok _ (by (have := HSZ.out; omega)) _ HQ.out _).mono ?_; rintro e w2 ⟨rfl, hw⟩; have F2 := hid (Fr.bytes _ hw); (have B := (Blk.new w 29 #[.int .i64 0, .string ⟨#[]⟩, .int .i64 0]).fr F2.out (fun x => x)); have c0 := B.cell 0; have c1 := B.cell 1; have c2 := B.cell 2; have f0 := B.frozen 0; have f1 := B.frozen 1; have f2 := B.frozen 2; clear B; clear hw)))
      refine bodyPost_ret (v := oneV s (.ok 1 0 n n)) (by simp [results, Tryd.results34, go_sem, oneV, tokV, c0, c1, c2]; try rfl) rfl ⟨by simp, Fr.box3 F2.out _ _ _⟩
    · rw [decide_eq_false h2]
      have h3 : (19 : Int) < (n : Int) := by omega
      clear h2
      go_enter Tryd.func34, Tryd.ntmps34
      go_wp2_with (first | (go_at_call 23; refine (hr.out _).mono ?_; rintro e w1 ⟨rfl, rfl⟩) | (go_at_call 50; go_must (refine (Tryd.strconv_ParseInt_10_at64_ok _ (by (have := HSZ.out; omega)) _ HQ.out _).mono ?_; rintro e w2 ⟨rfl, hw⟩; have F2 := hid (Fr.bytes _ hw); (have B := (Blk.new w 29 #[.int .i64 0, .string ⟨#[]⟩, .int .i64 0]).fr F2.out (fun x => x)); have c0 := B.cell 0; have c1 := B.cell 1; have c2 := B.cell 2; have f0 := B.frozen 0; have f1 := B.frozen 1; have f2 := B.frozen 2; clear B; clear hw)))
      refine bodyPost_ret (v := oneV s (.err 12)) (by simp [results, Tryd.results34, go_sem, oneV, tokV, c0, c1, c2]; try rfl) rfl ⟨by simp, Fr.box3 F2.out _ _ _⟩
  · have hp := HP.out
    rw [if_neg h1] at hp
    have HQ := hid hp
    clear hp
    rw [decide_eq_false h1]
    clear h1 HP
    rw [Bool.and_false]
    by_cases h2 : n ≤ 19
    · have h3 : (n : Int) ≤ 19 := by omega
      clear h2
      go_enter Tryd.func34, Tryd.ntmps34
      go_wp2_with (first | (go_at_call 23; refine (hr.out _).mono ?_; rintro e w1 ⟨rfl, rfl⟩) | (go_at_call 50; go_must (refine (Tryd.strconv_ParseInt_10_at64_range_var _ (by (have := HSZ.out; omega)) HQ.out tp p _ (var_fr RV.out ((Fr.refl nob w).alloc _))).mono ?_; rintro e w2 ⟨N, rfl, _, _, hb⟩; have F2 := hid (Fr.no_below hb); (have B := (Blk.new w 29 #[.int .i64 0, .string ⟨#[]⟩, .int .i64 0]).fr F2.out (fun x => x)); have c0 := B.cell 0; have c1 := B.cell 1; have c2 := B.cell 2; have f0 := B.frozen 0; have f1 := B.frozen 1; have f2 := B.frozen 2; clear B; clear hb)))
      refine bodyPost_ret (v := oneV s (.err 12)) (by simp [results, Tryd.results34, go_sem, oneV, tokV, c0, c1, c2]; try rfl) rfl ⟨by simp, Fr.box3 F2.out _ _ _⟩
    · have h3 : (19 : Int) < (n : Int) := by omega
      clear h2
      go_enter Tryd.func34, Tryd.ntmps34
      go_wp2_with (first | (go_at_call 23; refine (hr.out _).mono ?_; rintro e w1 ⟨rfl, rfl⟩) | (go_at_call 50; go_must (refine (Tryd.strconv_ParseInt_10_at64_range_var _ (by (have := HSZ.out; omega)) HQ.out tp p _ (var_fr RV.out ((Fr.refl nob w).alloc _))).mono ?_; rintro e w2 ⟨N, rfl, _, _, hb⟩; have F2 := hid (Fr.no_below hb); (have B := (Blk.new w 29 #[.int .i64 0, .string ⟨#[]⟩, .int .i64 0]).fr F2.out (fun x => x)); have c0 := B.cell 0; have c1 := B.cell 1; have c2 := B.cell 2; have f0 := B.frozen 0; have f1 := B.frozen 1; have f2 := B.frozen 2; clear B; clear hb)))
      refine bodyPost_ret (v := oneV s (.err 12)) (by simp [results, Tryd.results34, go_sem, oneV, tokV, c0, c1, c2]; try rfl) rfl ⟨by simp, Fr.box3 F2.out _ _ _⟩
end Go.Proofs.YtcodonidmopodaaDoor
