/- ParseRefuses: the walk. Printed by wip/tools/mkprefuses.py. -/
import Derived.Test.YtjhhlmonomeofaaGreatDoorRLB
namespace Go.Proofs.YtjhhlmonomeofaaGreatDoor
open Go.RowKit
set_option linter.unusedVariables false
set_option linter.unusedSimpArgs false
theorem bad_pos {l : List UInt8} {p e : Nat} (h : parseM l = some (.bad p e)) : 1 ≤ e := by
  unfold parseM at h
  cases hl : lexM l with
  | bad i k =>
    rw [hl] at h
    simp at h
    have := lexM_bad hl
    omega
  | good ts =>
    rw [hl] at h
    simp only [parseT, Option.map_eq_some_iff] at h
    obtain ⟨q, hq, h⟩ := h
    split at h
    · injection h with h1 h2
      omega
    · split at h
      · injection h with h1 h2
        omega
      · cases h
theorem cut60 (s : ByteArray) (h : ¬ s.size ≤ 60) : (s.extract 0 60).size ≤ 60 := by
  have : (s.extract 0 60).data.toList = s.data.toList.take 60 := by rw [Lib.extract_data]; simp
  have h2 := congrArg List.length this
  rw [List.length_take] at h2
  have h3 : (s.extract 0 60).data.toList.length = (s.extract 0 60).size := by simp
  omega
theorem both_eq (l : List UInt8) (M : ByteArray) : bs l ++ (⟨#[10]⟩ : ByteArray) ++ M = bs (l ++ 10 :: M.data.toList) := by
  show _ = (⟨(l ++ 10 :: M.data.toList).toArray⟩ : ByteArray)
  have h : (bs l ++ (⟨#[10]⟩ : ByteArray) ++ M).data.toList = l ++ 10 :: M.data.toList := by
    rw [cat_data, cat_data]
    show l ++ [10] ++ M.data.toList = _
    simp
  rw [← h, Array.toArray_toList]
set_option maxHeartbeats 8000000 in
set_option maxRecDepth 100000 in
theorem parserefuses_walk (s m : ByteArray) (w : World) (hv : PVars w) :
    Calls Tryz.prog 5 #[.string s, .string m] w fun e w' => e = .returned (.bool true) ∧ Fr nob w w' := by
  have V := hid hv
  have HSD := hid (shown_any w hv)
  have HSH := hid (fun w' => short_any s w')
  have hl : (s.data.toList.take 700).length ≤ 700 := by rw [List.length_take]; omega
  generalize s.data.toList.take 700 = l at *
  have HLN := hid hl
  have hbl : (bs l).size = l.length := bs_size l
  obtain ⟨r, hr⟩ := parse_some l
  have HP := hid (fun w' hv' => qall_any (bs l) w' (by rw [bs_size]; omega) hv' (r := r) hr)
  have HLX := hid (fun w' => rall_any (bs l) w' (by rw [bs_size]; omega))
  rw [show (bs l).data.toList = l from rfl] at HLX
  clear hv hl
  cases hlx : lexM l with
  | bad lp le =>
    rw [hlx] at HLX
    have hr2 : r = .bad lp le := by
      unfold parseM at hr
      rw [hlx] at hr
      simp at hr
      exact hr.symm
    subst hr2
    have h1 := lexM_bad hlx
    have he : ((le : Int) == 0) = false := beq_eq_false_iff_ne.2 (by omega)
    have he2 : ((le : Int) != 0) = true := by rw [bne, he]; rfl
    clear hr hlx h1
    by_cases hM : m.size ≤ 60
    · have hMs : (m.size : Int) ≤ 60 := by omega
      have HM := hid hM
      clear hM
      go_enter Tryz.func5, Tryz.ntmps5
      go_wp2_with fail
      refine HSD.out.mono ?_
      rintro e w1 ⟨rfl, hf⟩
      have F1 := hid hf
      clear hf
      go_wp2_with fail
      refine (HSH.out w1).mono ?_
      rintro e w2 ⟨rfl, hw⟩
      have hw' := hw.symm
      subst hw'
      clear hw
      go_wp2_with fail
      refine (HP.out _ (V.out.no F1.out)).mono ?_
      rintro e w3 ⟨hpa, hf⟩
      have hpa : e = .returned (.tuple #[.agg #[.slice none 0 0, .slice none 0 0], .int .i64 lp, .int .i64 le]) := hpa
      subst hpa
      have F3 := hid (F1.out.tr hf)
      clear hf
      go_wp2_with fail
      have F4 := hid (F3.out.alloc (.cells #[.slice none 0 0, .slice none 0 0] 27))
      generalize w3.alloc (.cells #[.slice none 0 0, .slice none 0 0] 27) = w4 at *
      refine (HLX.out _).mono ?_
      rintro e w5 ⟨rfl, hf⟩
      have F5 := hid (F4.out.tr hf)
      clear hf
      go_wp2_with fail
      go_ret
      exact ⟨by simp, F5.out⟩
    · have hMs : 60 < (m.size : Int) := by omega
      have HM := hid (cut60 m hM)
      clear hM
      go_enter Tryz.func5, Tryz.ntmps5
      go_wp2_with fail
      refine HSD.out.mono ?_
      rintro e w1 ⟨rfl, hf⟩
      have F1 := hid hf
      clear hf
      go_wp2_with fail
      refine (HSH.out w1).mono ?_
      rintro e w2 ⟨rfl, hw⟩
      have hw' := hw.symm
      subst hw'
      clear hw
      go_wp2_with fail
      generalize m.extract 0 60 = M at *
      refine (HP.out _ (V.out.no F1.out)).mono ?_
      rintro e w3 ⟨hpa, hf⟩
      have hpa : e = .returned (.tuple #[.agg #[.slice none 0 0, .slice none 0 0], .int .i64 lp, .int .i64 le]) := hpa
      subst hpa
      have F3 := hid (F1.out.tr hf)
      clear hf
      go_wp2_with fail
      have F4 := hid (F3.out.alloc (.cells #[.slice none 0 0, .slice none 0 0] 27))
      generalize w3.alloc (.cells #[.slice none 0 0, .slice none 0 0] 27) = w4 at *
      refine (HLX.out _).mono ?_
      rintro e w5 ⟨rfl, hf⟩
      have F5 := hid (F4.out.tr hf)
      clear hf
      go_wp2_with fail
      go_ret
      exact ⟨by simp, F5.out⟩
  | good ts =>
    rw [hlx] at HLX
    cases r with
    | good ns fs =>
      clear hr hlx
      by_cases hM : m.size ≤ 60
      · have hMs : (m.size : Int) ≤ 60 := by omega
        have HM := hid hM
        clear hM
        go_enter Tryz.func5, Tryz.ntmps5
        go_wp2_with fail
        refine HSD.out.mono ?_
        rintro e w1 ⟨rfl, hf⟩
        have F1 := hid hf
        clear hf
        go_wp2_with fail
        refine (HSH.out w1).mono ?_
        rintro e w2 ⟨rfl, hw⟩
        have hw' := hw.symm
        subst hw'
        clear hw
        go_wp2_with fail
        refine (HP.out _ (V.out.no F1.out)).mono ?_
        rintro e w3 ⟨⟨nv, fv, lvs, pvs, rfl, ht⟩, hf⟩
        obtain ⟨NA, NC, rfl, _, _⟩ := ht.nodes.cap
        obtain ⟨FA, FC, rfl, _, _⟩ := ht.fns.cap
        have F3 := hid (F1.out.tr hf)
        clear hf ht
        go_wp2_with fail
        have F4 := hid (F3.out.alloc (.cells #[.slice NA ns.length NC, .slice FA fs.length FC] 27))
        generalize w3.alloc (.cells #[.slice NA ns.length NC, .slice FA fs.length FC] 27) = w4 at *
        refine (HLX.out _).mono ?_
        rintro e w5 ⟨⟨v, rfl, htk⟩, hf⟩
        obtain ⟨A, tc, rfl, hc1, hc2⟩ := htk.slice
        have F5 := hid (F4.out.tr hf)
        have TA := hid htk
        clear hf htk
        go_wp2_with fail
        go_ret
        exact ⟨rfl, F5.out⟩
      · have hMs : 60 < (m.size : Int) := by omega
        have HM := hid (cut60 m hM)
        clear hM
        go_enter Tryz.func5, Tryz.ntmps5
        go_wp2_with fail
        refine HSD.out.mono ?_
        rintro e w1 ⟨rfl, hf⟩
        have F1 := hid hf
        clear hf
        go_wp2_with fail
        refine (HSH.out w1).mono ?_
        rintro e w2 ⟨rfl, hw⟩
        have hw' := hw.symm
        subst hw'
        clear hw
        go_wp2_with fail
        generalize m.extract 0 60 = M at *
        refine (HP.out _ (V.out.no F1.out)).mono ?_
        rintro e w3 ⟨⟨nv, fv, lvs, pvs, rfl, ht⟩, hf⟩
        obtain ⟨NA, NC, rfl, _, _⟩ := ht.nodes.cap
        obtain ⟨FA, FC, rfl, _, _⟩ := ht.fns.cap
        have F3 := hid (F1.out.tr hf)
        clear hf ht
        go_wp2_with fail
        have F4 := hid (F3.out.alloc (.cells #[.slice NA ns.length NC, .slice FA fs.length FC] 27))
        generalize w3.alloc (.cells #[.slice NA ns.length NC, .slice FA fs.length FC] 27) = w4 at *
        refine (HLX.out _).mono ?_
        rintro e w5 ⟨⟨v, rfl, htk⟩, hf⟩
        obtain ⟨A, tc, rfl, hc1, hc2⟩ := htk.slice
        have F5 := hid (F4.out.tr hf)
        have TA := hid htk
        clear hf htk
        go_wp2_with fail
        go_ret
        exact ⟨rfl, F5.out⟩
    | bad p er =>
      have h1 := bad_pos hr
      have he : ((er : Int) == 0) = false := beq_eq_false_iff_ne.2 (by omega)
      have he2 : ((er : Int) != 0) = true := by rw [bne, he]; rfl
      have HR := hid hr
      rcases parse_refused hr hlx with ⟨h4, hp0⟩ | ⟨h20, hat, hboth⟩
      · subst h4; subst hp0
        clear hr hlx h1
        by_cases hM : m.size ≤ 60
        · have hMs : (m.size : Int) ≤ 60 := by omega
          have HM := hid hM
          clear hM
          go_enter Tryz.func5, Tryz.ntmps5
          go_wp2_with fail
          refine HSD.out.mono ?_
          rintro e w1 ⟨rfl, hf⟩
          have F1 := hid hf
          clear hf
          go_wp2_with fail
          refine (HSH.out w1).mono ?_
          rintro e w2 ⟨rfl, hw⟩
          have hw' := hw.symm
          subst hw'
          clear hw
          go_wp2_with fail
          refine (HP.out _ (V.out.no F1.out)).mono ?_
          rintro e w3 ⟨hpa, hf⟩
          have hpa : e = .returned (.tuple #[.agg #[.slice none 0 0, .slice none 0 0], .int .i64 ((0 : Nat) : Int), .int .i64 ((4 : Nat) : Int)]) := hpa
          subst hpa
          have F3 := hid (F1.out.tr hf)
          clear hf
          go_wp2_with fail
          have F4 := hid (F3.out.alloc (.cells #[.slice none 0 0, .slice none 0 0] 27))
          generalize w3.alloc (.cells #[.slice none 0 0, .slice none 0 0] 27) = w4 at *
          refine (HLX.out _).mono ?_
          rintro e w5 ⟨⟨v, rfl, htk⟩, hf⟩
          obtain ⟨A, tc, rfl, hc1, hc2⟩ := htk.slice
          have F5 := hid (F4.out.tr hf)
          have TA := hid htk
          clear hf htk
          go_wp2_with fail
          go_ret
          exact ⟨by rfl, F5.out⟩
        · have hMs : 60 < (m.size : Int) := by omega
          have HM := hid (cut60 m hM)
          clear hM
          go_enter Tryz.func5, Tryz.ntmps5
          go_wp2_with fail
          refine HSD.out.mono ?_
          rintro e w1 ⟨rfl, hf⟩
          have F1 := hid hf
          clear hf
          go_wp2_with fail
          refine (HSH.out w1).mono ?_
          rintro e w2 ⟨rfl, hw⟩
          have hw' := hw.symm
          subst hw'
          clear hw
          go_wp2_with fail
          generalize m.extract 0 60 = M at *
          refine (HP.out _ (V.out.no F1.out)).mono ?_
          rintro e w3 ⟨hpa, hf⟩
          have hpa : e = .returned (.tuple #[.agg #[.slice none 0 0, .slice none 0 0], .int .i64 ((0 : Nat) : Int), .int .i64 ((4 : Nat) : Int)]) := hpa
          subst hpa
          have F3 := hid (F1.out.tr hf)
          clear hf
          go_wp2_with fail
          have F4 := hid (F3.out.alloc (.cells #[.slice none 0 0, .slice none 0 0] 27))
          generalize w3.alloc (.cells #[.slice none 0 0, .slice none 0 0] 27) = w4 at *
          refine (HLX.out _).mono ?_
          rintro e w5 ⟨⟨v, rfl, htk⟩, hf⟩
          obtain ⟨A, tc, rfl, hc1, hc2⟩ := htk.slice
          have F5 := hid (F4.out.tr hf)
          have TA := hid htk
          clear hf htk
          go_wp2_with fail
          go_ret
          exact ⟨by rfl, F5.out⟩
      · have AT := hid (show (ts.any fun t => decide (t.place = p)) = true from by
          obtain ⟨j, hj, hpl⟩ := hat
          rw [List.any_eq_true]
          refine ⟨ts[j], List.getElem_mem hj, ?_⟩
          rw [List.getD, List.getElem?_eq_getElem hj] at hpl
          simpa using hpl)
        have TP := hid (show 0 < ts.length from (lexM_toks hlx).pos)
        have hfew := lexM_few hlx
        have hts : (ts.length : Int) ≤ 1000 := by omega
        have h4 : ((er : Int) == 4) = false := beq_eq_false_iff_ne.2 (by omega)
        clear hr hlx h1 hat hfew
        by_cases hM : m.size ≤ 60
        · have hMs : (m.size : Int) ≤ 60 := by omega
          have HM := hid hM
          clear hM
          go_enter Tryz.func5, Tryz.ntmps5
          go_wp2_with fail
          refine HSD.out.mono ?_
          rintro e w1 ⟨rfl, hf⟩
          have F1 := hid hf
          clear hf
          go_wp2_with fail
          refine (HSH.out w1).mono ?_
          rintro e w2 ⟨rfl, hw⟩
          have hw' := hw.symm
          subst hw'
          clear hw
          go_wp2_with fail
          refine (HP.out _ (V.out.no F1.out)).mono ?_
          rintro e w3 ⟨hpa, hf⟩
          have hpa : e = .returned (.tuple #[.agg #[.slice none 0 0, .slice none 0 0], .int .i64 p, .int .i64 er]) := hpa
          subst hpa
          have F3 := hid (F1.out.tr hf)
          clear hf
          go_wp2_with fail
          have F4 := hid (F3.out.alloc (.cells #[.slice none 0 0, .slice none 0 0] 27))
          generalize w3.alloc (.cells #[.slice none 0 0, .slice none 0 0] 27) = w4 at *
          refine (HLX.out _).mono ?_
          rintro e w5 ⟨⟨v, rfl, htk⟩, hf⟩
          obtain ⟨A, tc, rfl, hc1, hc2⟩ := htk.slice
          have F5 := hid (F4.out.tr hf)
          have TA := hid htk
          clear hf htk
          go_wp2_with fail
          obtain ⟨tb, rfl, _, _, hat1⟩ := TA.out.some TP.out
          have H1 := hid hat1
          clear hat1
          go_loopw [12, 13] (fun x i wr => ∃ n : Nat, n ≤ ts.length ∧ i = .int .i64 n ∧ x = .bool ((ts.take n).any fun t => decide (t.place = p)) ∧ wr = w5) (fun _ i _ => ts.length - (intOf i).toNat)
          case atStart => exact ⟨0, Nat.zero_le _, rfl, by simp, rfl⟩
          case round =>
            obtain ⟨n, hn, rfl, rfl, hwr⟩ := hrel
            subst hwr
            by_cases hlt : n < ts.length
            · have hlt2 : (n : Int) < (ts.length : Int) := by omega
              obtain ⟨tk, htk⟩ : ∃ tk, ts[n]? = some tk := ⟨ts[n], List.getElem?_eq_getElem (by omega)⟩
              obtain ⟨x0, x1, x2⟩ := H1.out n tk htk
              have HT := hid (show (ts.take (n + 1)).any (fun t => decide (t.place = p)) = ((ts.take n).any (fun t => decide (t.place = p)) || decide (tk.place = p)) by rw [List.take_add_one, htk, List.any_append]; simp)
              have hpp : ((tk.place : Int) == (p : Int)) = decide (tk.place = p) := by
                by_cases h2 : tk.place = p
                · rw [decide_eq_true h2, h2]; simp
                · rw [decide_eq_false h2]; exact beq_eq_false_iff_ne.2 (by omega)
              obtain ⟨cur, hcur⟩ : ∃ cur, (ts.take n).any (fun t => decide (t.place = p)) = cur := ⟨_, rfl⟩
              obtain ⟨z, hz⟩ : ∃ z, decide (tk.place = p) = z := ⟨_, rfl⟩
              rw [hcur, hz] at HT
              rw [hcur]
              rw [hz] at hpp
              clear hcur htk hz
              cases cur with
              | true =>
                go_wp2_with fail
                go_roundw
                case rel => exact ⟨n + 1, by omega, by go_num, by rw [HT.out]; rfl, trivial⟩
                case measure => simp [intOf]; omega
              | false =>
                go_wp2_with fail
                go_roundw
                case rel => exact ⟨n + 1, by omega, by go_num, by rw [HT.out]; simp, trivial⟩
                case measure => simp [intOf]; omega
            · have hnl : ¬ (n : Int) < (ts.length : Int) := by omega
              have hle : (ts.length : Int) ≤ (n : Int) := by omega
              have htk := List.take_of_length_le (show ts.length ≤ n by omega)
              rw [htk, AT.out]
              clear htk hlt
              by_cases hpl : p = l.length
              · have hpb : ((p : Int) == (l.length : Int)) = true := by rw [hpl]; simp
                clear hpl
                rcases h20 with h20 | h20
                all_goals
                  subst h20
                  go_wp2_with fail
                  go_ret
                  exact ⟨rfl, F5.out⟩
              · have hpb : ((p : Int) == (l.length : Int)) = false := beq_eq_false_iff_ne.2 (by omega)
                have z1 : (bs l).size + (⟨#[10]⟩ : ByteArray).size ≤ 9223372036854775807 := by
                  have h1 := HLN.out
                  have : (⟨#[10]⟩ : ByteArray).size = 1 := rfl
                  rw [bs_size]; omega
                have z2 : (bs l ++ (⟨#[10]⟩ : ByteArray)).size + m.size ≤ 9223372036854775807 := by
                  have h1 := HLN.out
                  have h2 := HM.out
                  have : (⟨#[10]⟩ : ByteArray).size = 1 := rfl
                  rw [ByteArray.size_append, bs_size]; omega
                have HBO := hid (hboth hpl)
                have hbs : (l ++ 10 :: m.data.toList).length ≤ 1000 := by
                  have h1 := HLN.out
                  have h2 := HM.out
                  have h3 : m.data.toList.length = m.size := by simp
                  rw [List.length_append, List.length_cons]; omega
                have HLX2 := hid (fun w' => rall_any (bs (l ++ 10 :: m.data.toList)) w' (by rw [bs_size]; omega))
                rw [show (bs (l ++ 10 :: m.data.toList)).data.toList = l ++ 10 :: m.data.toList from rfl, ← both_eq] at HLX2
                have HP2 := hid (show ∀ ts', lexM (l ++ 10 :: m.data.toList) = .good ts' → ∀ w', PVars w' → Calls Tryz.prog 12 #[.string (bs l ++ (⟨#[10]⟩ : ByteArray) ++ m)] w' fun e' w2 => e' = .returned (.tuple #[.agg #[.slice none 0 0, .slice none 0 0], .int .i64 p, .int .i64 er]) ∧ Fr nob w' w2 from fun ts' h9 w' hv' => by
                  rw [both_eq]
                  exact qall_any _ w' (by rw [bs_size]; omega) hv' (r := .bad p er) (HBO.out _ ts' h9))
                clear hpl hbs hboth
                cases hlx2 : lexM (l ++ 10 :: m.data.toList) with
                | bad lp le =>
                  rw [hlx2] at HLX2
                  have h3 := lexM_bad hlx2
                  have le2 : ((le : Int) != 0) = true := by
                    have : ((le : Int) == 0) = false := beq_eq_false_iff_ne.2 (by omega)
                    rw [bne, this]; rfl
                  clear hlx2 h3 HP2
                  rcases h20 with h20 | h20
                  all_goals
                    subst h20
                    go_wp2_with fail
                    refine (HLX2.out _).mono ?_
                    rintro e6 w6 ⟨rfl, hf⟩
                    have F6 := hid (F5.out.tr hf)
                    clear hf
                    go_wp2_with fail
                    go_ret
                    exact ⟨rfl, F6.out⟩
                | good ts' =>
                  rw [hlx2] at HLX2
                  have HP3 := hid (HP2.out ts' hlx2)
                  clear hlx2 HP2
                  rcases h20 with h20 | h20
                  all_goals
                    subst h20
                    go_wp2_with fail
                    refine (HLX2.out _).mono ?_
                    rintro e6 w6 ⟨⟨v6, rfl, htk⟩, hf⟩
                    obtain ⟨A6, tc6, rfl, _, _⟩ := htk.slice
                    have F6 := hid (F5.out.tr hf)
                    clear hf htk
                    go_wp2_with fail
                    refine (HP3.out _ (V.out.no F6.out)).mono ?_
                    rintro e7 w7 ⟨rfl, hf⟩
                    have F7 := hid (F6.out.tr hf)
                    clear hf
                    go_wp2_with fail
                    go_ret
                    exact ⟨by simp, F7.out.alloc _⟩
        · have hMs : 60 < (m.size : Int) := by omega
          have HM := hid (cut60 m hM)
          clear hM
          go_enter Tryz.func5, Tryz.ntmps5
          go_wp2_with fail
          refine HSD.out.mono ?_
          rintro e w1 ⟨rfl, hf⟩
          have F1 := hid hf
          clear hf
          go_wp2_with fail
          refine (HSH.out w1).mono ?_
          rintro e w2 ⟨rfl, hw⟩
          have hw' := hw.symm
          subst hw'
          clear hw
          go_wp2_with fail
          generalize m.extract 0 60 = M at *
          refine (HP.out _ (V.out.no F1.out)).mono ?_
          rintro e w3 ⟨hpa, hf⟩
          have hpa : e = .returned (.tuple #[.agg #[.slice none 0 0, .slice none 0 0], .int .i64 p, .int .i64 er]) := hpa
          subst hpa
          have F3 := hid (F1.out.tr hf)
          clear hf
          go_wp2_with fail
          have F4 := hid (F3.out.alloc (.cells #[.slice none 0 0, .slice none 0 0] 27))
          generalize w3.alloc (.cells #[.slice none 0 0, .slice none 0 0] 27) = w4 at *
          refine (HLX.out _).mono ?_
          rintro e w5 ⟨⟨v, rfl, htk⟩, hf⟩
          obtain ⟨A, tc, rfl, hc1, hc2⟩ := htk.slice
          have F5 := hid (F4.out.tr hf)
          have TA := hid htk
          clear hf htk
          go_wp2_with fail
          obtain ⟨tb, rfl, _, _, hat1⟩ := TA.out.some TP.out
          have H1 := hid hat1
          clear hat1
          go_loopw [12, 13] (fun x i wr => ∃ n : Nat, n ≤ ts.length ∧ i = .int .i64 n ∧ x = .bool ((ts.take n).any fun t => decide (t.place = p)) ∧ wr = w5) (fun _ i _ => ts.length - (intOf i).toNat)
          case atStart => exact ⟨0, Nat.zero_le _, rfl, by simp, rfl⟩
          case round =>
            obtain ⟨n, hn, rfl, rfl, hwr⟩ := hrel
            subst hwr
            by_cases hlt : n < ts.length
            · have hlt2 : (n : Int) < (ts.length : Int) := by omega
              obtain ⟨tk, htk⟩ : ∃ tk, ts[n]? = some tk := ⟨ts[n], List.getElem?_eq_getElem (by omega)⟩
              obtain ⟨x0, x1, x2⟩ := H1.out n tk htk
              have HT := hid (show (ts.take (n + 1)).any (fun t => decide (t.place = p)) = ((ts.take n).any (fun t => decide (t.place = p)) || decide (tk.place = p)) by rw [List.take_add_one, htk, List.any_append]; simp)
              have hpp : ((tk.place : Int) == (p : Int)) = decide (tk.place = p) := by
                by_cases h2 : tk.place = p
                · rw [decide_eq_true h2, h2]; simp
                · rw [decide_eq_false h2]; exact beq_eq_false_iff_ne.2 (by omega)
              obtain ⟨cur, hcur⟩ : ∃ cur, (ts.take n).any (fun t => decide (t.place = p)) = cur := ⟨_, rfl⟩
              obtain ⟨z, hz⟩ : ∃ z, decide (tk.place = p) = z := ⟨_, rfl⟩
              rw [hcur, hz] at HT
              rw [hcur]
              rw [hz] at hpp
              clear hcur htk hz
              cases cur with
              | true =>
                go_wp2_with fail
                go_roundw
                case rel => exact ⟨n + 1, by omega, by go_num, by rw [HT.out]; rfl, trivial⟩
                case measure => simp [intOf]; omega
              | false =>
                go_wp2_with fail
                go_roundw
                case rel => exact ⟨n + 1, by omega, by go_num, by rw [HT.out]; simp, trivial⟩
                case measure => simp [intOf]; omega
            · have hnl : ¬ (n : Int) < (ts.length : Int) := by omega
              have hle : (ts.length : Int) ≤ (n : Int) := by omega
              have htk := List.take_of_length_le (show ts.length ≤ n by omega)
              rw [htk, AT.out]
              clear htk hlt
              by_cases hpl : p = l.length
              · have hpb : ((p : Int) == (l.length : Int)) = true := by rw [hpl]; simp
                clear hpl
                rcases h20 with h20 | h20
                all_goals
                  subst h20
                  go_wp2_with fail
                  go_ret
                  exact ⟨rfl, F5.out⟩
              · have hpb : ((p : Int) == (l.length : Int)) = false := beq_eq_false_iff_ne.2 (by omega)
                have z1 : (bs l).size + (⟨#[10]⟩ : ByteArray).size ≤ 9223372036854775807 := by
                  have h1 := HLN.out
                  have : (⟨#[10]⟩ : ByteArray).size = 1 := rfl
                  rw [bs_size]; omega
                have z2 : (bs l ++ (⟨#[10]⟩ : ByteArray)).size + M.size ≤ 9223372036854775807 := by
                  have h1 := HLN.out
                  have h2 := HM.out
                  have : (⟨#[10]⟩ : ByteArray).size = 1 := rfl
                  rw [ByteArray.size_append, bs_size]; omega
                have HBO := hid (hboth hpl)
                have hbs : (l ++ 10 :: M.data.toList).length ≤ 1000 := by
                  have h1 := HLN.out
                  have h2 := HM.out
                  have h3 : M.data.toList.length = M.size := by simp
                  rw [List.length_append, List.length_cons]; omega
                have HLX2 := hid (fun w' => rall_any (bs (l ++ 10 :: M.data.toList)) w' (by rw [bs_size]; omega))
                rw [show (bs (l ++ 10 :: M.data.toList)).data.toList = l ++ 10 :: M.data.toList from rfl, ← both_eq] at HLX2
                have HP2 := hid (show ∀ ts', lexM (l ++ 10 :: M.data.toList) = .good ts' → ∀ w', PVars w' → Calls Tryz.prog 12 #[.string (bs l ++ (⟨#[10]⟩ : ByteArray) ++ M)] w' fun e' w2 => e' = .returned (.tuple #[.agg #[.slice none 0 0, .slice none 0 0], .int .i64 p, .int .i64 er]) ∧ Fr nob w' w2 from fun ts' h9 w' hv' => by
                  rw [both_eq]
                  exact qall_any _ w' (by rw [bs_size]; omega) hv' (r := .bad p er) (HBO.out _ ts' h9))
                clear hpl hbs hboth
                cases hlx2 : lexM (l ++ 10 :: M.data.toList) with
                | bad lp le =>
                  rw [hlx2] at HLX2
                  have h3 := lexM_bad hlx2
                  have le2 : ((le : Int) != 0) = true := by
                    have : ((le : Int) == 0) = false := beq_eq_false_iff_ne.2 (by omega)
                    rw [bne, this]; rfl
                  clear hlx2 h3 HP2
                  rcases h20 with h20 | h20
                  all_goals
                    subst h20
                    go_wp2_with fail
                    refine (HLX2.out _).mono ?_
                    rintro e6 w6 ⟨rfl, hf⟩
                    have F6 := hid (F5.out.tr hf)
                    clear hf
                    go_wp2_with fail
                    go_ret
                    exact ⟨rfl, F6.out⟩
                | good ts' =>
                  rw [hlx2] at HLX2
                  have HP3 := hid (HP2.out ts' hlx2)
                  clear hlx2 HP2
                  rcases h20 with h20 | h20
                  all_goals
                    subst h20
                    go_wp2_with fail
                    refine (HLX2.out _).mono ?_
                    rintro e6 w6 ⟨⟨v6, rfl, htk⟩, hf⟩
                    obtain ⟨A6, tc6, rfl, _, _⟩ := htk.slice
                    have F6 := hid (F5.out.tr hf)
                    clear hf htk
                    go_wp2_with fail
                    refine (HP3.out _ (V.out.no F6.out)).mono ?_
                    rintro e7 w7 ⟨rfl, hf⟩
                    have F7 := hid (F6.out.tr hf)
                    clear hf
                    go_wp2_with fail
                    go_ret
                    exact ⟨by simp, F7.out.alloc _⟩
end Go.Proofs.YtjhhlmonomeofaaGreatDoor
