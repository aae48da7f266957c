/- ShowBack: the walk. -/
import Derived.Test.YtahhgnbiahomiaaDoorML
namespace Go.Proofs.YtahhgnbiahomiaaDoor
open Go.RowKit
set_option linter.unusedVariables false
set_option linter.unusedSimpArgs false
set_option maxHeartbeats 8000000 in
set_option maxRecDepth 100000 in
theorem showback_walk (s : ByteArray) (w : World) (hb : TabBase w) :
    Calls Tryd.prog 3 #[.string s] w fun e w' => e = .returned (.bool true) ∧ Fr nob w w' := by
  have HB := hid hb
  have HSD := hid (shown_any w hb)
  have HSH := hid (fun w' => short_any s w')
  have hl : (s.data.toList.take 700).length ≤ 700 := by rw [List.length_take]; omega
  generalize s.data.toList.take 700 = l at *
  obtain ⟨r, hr⟩ := parse_some l
  have HP := hid (fun w' => pall_any (bs l) w' (by rw [bs_size]; omega) (r := r) hr)
  cases r with
  | bad p er =>
    have he := parse_bad hr
    clear hb hl hr
    go_enter Tryd.func3, Tryd.ntmps3
    go_wp2_with fail
    refine HSD.out.mono ?_
    rintro e w1 ⟨rfl, hf⟩
    have F1 := hid hf
    clear hf
    go_wp2_with fail
    refine (HSH.out w1).mono ?_
    rintro e w2 ⟨rfl, rfl⟩
    go_wp2_with fail
    refine (HP.out _).mono ?_
    rintro e w3 ⟨rfl, hf⟩
    have F3 := hid hf
    clear hf
    go_wp2_with fail
    go_ret
    exact ⟨rfl, (F1.out.tr F3.out).alloc _⟩
  | good ns fs =>
    have HR := hid hr
    have HOK := hid (parse_ok hr)
    have HFW := hid (parse_few hr)
    have hshl := show_len (parse_ok hr) (parse_few hr)
    have hfew := (parse_ok hr).few
    have hfewf := (parse_ok hr).fewf
    clear hb hl hr
    obtain ⟨sh, hsh⟩ : ∃ sh, showT ns fs = sh := ⟨_, rfl⟩
    rw [hsh] at hshl
    obtain ⟨ru, hru⟩ := parse_some sh
    have HU := hid (fun w' => pall_any (bs sh) w' (by rw [bs_size]; omega) (r := ru) (by rw [bs_list]; exact hru))
    have HSS := hid hsh
    have HRU := hid hru
    clear hsh hru
    go_enter Tryd.func3, Tryd.ntmps3
    go_wp2_with fail
    refine HSD.out.mono ?_
    rintro e w1 ⟨rfl, hf⟩
    have F1 := hid hf
    clear hf
    go_wp2_with fail
    refine (HSH.out w1).mono ?_
    rintro e w2 ⟨rfl, rfl⟩
    go_wp2_with fail
    refine (HP.out _).mono ?_
    rintro e w3 ⟨⟨nv, fv, lvs, pvs, rfl, ht⟩, hf⟩
    obtain ⟨NA, NC, rfl, _, _⟩ := ht.nodes.cap
    obtain ⟨FA, FC, rfl, _, _⟩ := ht.fns.cap
    have F3 := hid (F1.out.tr hf)
    have HB3 := hid (HB.out.fr F3.out)
    have S0 := hid (TV.new ht HB3.out)
    have F4 := hid (F3.out.alloc (.cells #[.slice NA ns.length NC, .slice FA fs.length FC] 26))
    have N1 := hid (show ∀ k, blk (.slice NA ns.length NC) = some k → w.heap.size ≤ k from fun k hk => Nat.le_trans F1.out.size (ht.newn k hk))
    have N3 := hid (show ∀ k, blk (.slice FA fs.length FC) = some k → w.heap.size ≤ k from fun k hk => Nat.le_trans F1.out.size (ht.newf k hk))
    clear ht hf
    go_wp2_with fail
    generalize hB : w3.heap.size = B at *
    clear hB
    generalize hw4 : w3.alloc (.cells #[.slice NA ns.length NC, .slice FA fs.length FC] 26) = w4 at *
    clear hw4
    refine (text_any HOK.out HFW.out S0.out.tree S0.out.base).mono ?_
    rintro e w5 ⟨rfl, hf⟩
    rw [HSS.out]
    have S5 := hid (S0.out.no hf)
    have F5 := hid (F4.out.tr hf)
    clear hf
    go_wp2_with fail
    refine (HU.out _).mono ?_
    by_cases hbig : 600 < sh.length
    · have hbad : ru = .bad 0 4 := by
        have h1 := HRU.out
        unfold parseM at h1
        rw [lex_big hbig] at h1
        exact (Option.some.inj h1).symm
      subst hbad
      rintro e w6 ⟨rfl, hf⟩
      have F6 := hid (F5.out.tr hf)
      have hb6 : (600 : Int) < ((bs sh).size : Int) := by rw [bs_size]; omega
      clear hf hbig
      go_wp2_with fail
      go_ret
      exact ⟨by simp, F6.out.alloc _⟩
    · obtain ⟨us, gs, hpu, hal, hsu⟩ := back HR.out (by rw [HSS.out]; omega)
      rw [HSS.out] at hpu hsu
      have hg : ru = .good us gs := by have h1 := HRU.out; rw [hpu] at h1; exact (Option.some.inj h1).symm
      subst hg
      have HOKU := hid (parse_ok hpu)
      have HFWU := hid (parse_few hpu)
      have hfewu := (parse_ok hpu).few
      have hfewg := (parse_ok hpu).fewf
      have HAL := hid hal
      have HSU := hid hsu
      have hb6 : ¬ (600 : Int) < ((bs sh).size : Int) := by rw [bs_size]; omega
      clear hpu hal hsu hbig
      rintro e w6 ⟨⟨nu, fu, lvs2, pvs2, rfl, ht⟩, hf⟩
      obtain ⟨MA, MC, rfl, _, _⟩ := ht.nodes.cap
      obtain ⟨GA, GC, rfl, _, _⟩ := ht.fns.cap
      have F6 := hid (F5.out.tr hf)
      have HB6 := hid (S5.out.base.fr hf)
      have U0 := hid (TV.new ht HB6.out)
      have N2 := hid (show ∀ k, blk (.slice MA us.length MC) = some k → w.heap.size ≤ k from fun k hk => Nat.le_trans F5.out.size (ht.newn k hk))
      have N4 := hid (show ∀ k, blk (.slice GA gs.length GC) = some k → w.heap.size ≤ k from fun k hk => Nat.le_trans F5.out.size (ht.newf k hk))
      have DN := hid (show ∀ k, blk (.slice NA ns.length NC) = some k → blk (.slice MA us.length MC) ≠ some k from fun k h1 h2 => by
        have a := S5.out.tree.nodes.blk_lt h1
        have b := ht.newn k h2
        omega)
      have DF := hid (show ∀ k, blk (.slice FA fs.length FC) = some k → blk (.slice GA gs.length GC) ≠ some k from fun k h1 h2 => by
        have a := S5.out.tree.fns.blk_lt h1
        have b := ht.newf k h2
        omega)
      have S6 := hid ((S5.out.no hf).no ((Fr.refl nob w6).alloc (.cells #[.slice MA us.length MC, .slice GA gs.length GC] 26)))
      have F7 := hid (F6.out.alloc (.cells #[.slice MA us.length MC, .slice GA gs.length GC] 26))
      clear ht hf
      go_wp2_with fail
      generalize hC : w6.heap.size = C at *
      clear hC
      generalize hw7 : w6.alloc (.cells #[.slice MA us.length MC, .slice GA gs.length GC] 26) = w7 at *
      clear hw7
      refine (text_any HOKU.out HFWU.out U0.out.tree U0.out.base).mono ?_
      rintro e w8 ⟨rfl, hf⟩
      rw [HSU.out]
      have Z8 := hid (show ZZ w B C (.slice NA ns.length NC) (.slice FA fs.length FC) (.slice MA us.length MC) (.slice GA gs.length GC) lvs pvs lvs2 pvs2 (zp zeroN 0 ns) (zp zeroN 0 us) (zp zeroF 0 fs) (zp zeroF 0 gs) w8 from
        ⟨⟨(S6.out.no hf).tree, (S6.out.no hf).box⟩, ⟨(U0.out.no hf).tree, (U0.out.no hf).box⟩, F7.out.tr hf, DN.out, DF.out, N1.out, N2.out, N3.out, N4.out⟩)
      have hl4 : (ns.length : Int) ≤ 300 := by omega
      have hl5 : (us.length : Int) ≤ 300 := by omega
      have hl6 : (fs.length : Int) ≤ 6 := by omega
      have hl7 : (gs.length : Int) ≤ 6 := by omega
      clear hf hb6
      go_wp2_with fail
      go_loopw [12] (fun i wr => ∃ j : Nat, j ≤ ns.length ∧ i = .int .i64 j ∧ Hid (ZZ w B C (.slice NA ns.length NC) (.slice FA fs.length FC) (.slice MA us.length MC) (.slice GA gs.length GC) lvs pvs lvs2 pvs2 (zp zeroN j ns) (zp zeroN 0 us) (zp zeroF 0 fs) (zp zeroF 0 gs) wr)) (fun i _ => ns.length - (intOf i).toNat)
      case atStart => exact ⟨0, Nat.zero_le _, rfl, Z8⟩
      case round =>
        obtain ⟨j, hj, rfl, Z⟩ := hrel
        obtain ⟨d0, d1⟩ := Z.out.t.cells
        obtain ⟨d2, d3⟩ := Z.out.u.cells
        by_cases hlt : j < ns.length
        · have hlt2 : (j : Int) < (ns.length : Int) := by omega
          have hj6 : (j : Int) ≤ 300 := by omega
          obtain ⟨nd, hnd⟩ : ∃ nd, ns[j]? = some nd := ⟨_, List.getElem?_eq_getElem hlt⟩
          obtain ⟨nb, rfl, x1, x2, hz⟩ := Z.out.tn hnd
          have Z2 := hid hz
          clear hz hnd
          go_wp2_with fail
          go_roundw
          case rel => exact ⟨j + 1, by omega, by go_num, Z2⟩
          case measure => simp [intOf]; omega
        · have hle : (ns.length : Int) ≤ (j : Int) := by omega
          have hje : j = ns.length := by omega
          have Z9 := hid (show ZZ w B C (.slice NA ns.length NC) (.slice FA fs.length FC) (.slice MA us.length MC) (.slice GA gs.length GC) lvs pvs lvs2 pvs2 (ns.map zeroN) (zp zeroN 0 us) (zp zeroF 0 fs) (zp zeroF 0 gs) wr from by
            have := Z.out
            rw [hje, zp_all] at this; exact this)
          clear hje Z hlt
          go_wp2_with fail
          clear d0 d1 d2 d3
          go_loopw [13] (fun i wr => ∃ j : Nat, j ≤ us.length ∧ i = .int .i64 j ∧ Hid (ZZ w B C (.slice NA ns.length NC) (.slice FA fs.length FC) (.slice MA us.length MC) (.slice GA gs.length GC) lvs pvs lvs2 pvs2 (ns.map zeroN) (zp zeroN j us) (zp zeroF 0 fs) (zp zeroF 0 gs) wr)) (fun i _ => us.length - (intOf i).toNat)
          case atStart => exact ⟨0, Nat.zero_le _, rfl, Z9⟩
          case round =>
            clear Z9
            obtain ⟨j, hj, rfl, Z⟩ := hrel
            obtain ⟨d0, d1⟩ := Z.out.t.cells
            obtain ⟨d2, d3⟩ := Z.out.u.cells
            by_cases hlt : j < us.length
            · have hlt2 : (j : Int) < (us.length : Int) := by omega
              have hj6 : (j : Int) ≤ 300 := by omega
              obtain ⟨nd, hnd⟩ : ∃ nd, us[j]? = some nd := ⟨_, List.getElem?_eq_getElem hlt⟩
              obtain ⟨nb, rfl, x1, x2, hz⟩ := Z.out.un hnd
              have Z2 := hid hz
              clear hz hnd
              go_wp2_with fail
              go_roundw
              case rel => exact ⟨j + 1, by omega, by go_num, Z2⟩
              case measure => simp [intOf]; omega
            · have hle : (us.length : Int) ≤ (j : Int) := by omega
              have hje : j = us.length := by omega
              have Z9 := hid (show ZZ w B C (.slice NA ns.length NC) (.slice FA fs.length FC) (.slice MA us.length MC) (.slice GA gs.length GC) lvs pvs lvs2 pvs2 (ns.map zeroN) (us.map zeroN) (zp zeroF 0 fs) (zp zeroF 0 gs) wr from by
                have := Z.out
                rw [hje, zp_all] at this; exact this)
              clear hje Z hlt
              go_wp2_with fail
              clear d0 d1 d2 d3
              go_loopw [14] (fun i wr => ∃ j : Nat, j ≤ fs.length ∧ i = .int .i64 j ∧ Hid (ZZ w B C (.slice NA ns.length NC) (.slice FA fs.length FC) (.slice MA us.length MC) (.slice GA gs.length GC) lvs pvs lvs2 pvs2 (ns.map zeroN) (us.map zeroN) (zp zeroF j fs) (zp zeroF 0 gs) wr)) (fun i _ => fs.length - (intOf i).toNat)
              case atStart => exact ⟨0, Nat.zero_le _, rfl, Z9⟩
              case round =>
                clear Z9
                obtain ⟨j, hj, rfl, Z⟩ := hrel
                obtain ⟨d0, d1⟩ := Z.out.t.cells
                obtain ⟨d2, d3⟩ := Z.out.u.cells
                by_cases hlt : j < fs.length
                · have hlt2 : (j : Int) < (fs.length : Int) := by omega
                  have hj6 : (j : Int) ≤ 6 := by omega
                  obtain ⟨nd, hnd⟩ : ∃ nd, fs[j]? = some nd := ⟨_, List.getElem?_eq_getElem hlt⟩
                  obtain ⟨nb, rfl, x1, x2, hz⟩ := Z.out.tf hnd
                  have Z2 := hid hz
                  clear hz hnd
                  go_wp2_with fail
                  go_roundw
                  case rel => exact ⟨j + 1, by omega, by go_num, Z2⟩
                  case measure => simp [intOf]; omega
                · have hle : (fs.length : Int) ≤ (j : Int) := by omega
                  have hje : j = fs.length := by omega
                  have Z9 := hid (show ZZ w B C (.slice NA ns.length NC) (.slice FA fs.length FC) (.slice MA us.length MC) (.slice GA gs.length GC) lvs pvs lvs2 pvs2 (ns.map zeroN) (us.map zeroN) (fs.map zeroF) (zp zeroF 0 gs) wr from by
                    have := Z.out
                    rw [hje, zp_all] at this; exact this)
                  clear hje Z hlt
                  go_wp2_with fail
                  clear d0 d1 d2 d3
                  go_loopw [15] (fun i wr => ∃ j : Nat, j ≤ gs.length ∧ i = .int .i64 j ∧ Hid (ZZ w B C (.slice NA ns.length NC) (.slice FA fs.length FC) (.slice MA us.length MC) (.slice GA gs.length GC) lvs pvs lvs2 pvs2 (ns.map zeroN) (us.map zeroN) (fs.map zeroF) (zp zeroF j gs) wr)) (fun i _ => gs.length - (intOf i).toNat)
                  case atStart => exact ⟨0, Nat.zero_le _, rfl, Z9⟩
                  case round =>
                    clear Z9
                    obtain ⟨j, hj, rfl, Z⟩ := hrel
                    obtain ⟨d0, d1⟩ := Z.out.t.cells
                    obtain ⟨d2, d3⟩ := Z.out.u.cells
                    by_cases hlt : j < gs.length
                    · have hlt2 : (j : Int) < (gs.length : Int) := by omega
                      have hj6 : (j : Int) ≤ 6 := by omega
                      obtain ⟨nd, hnd⟩ : ∃ nd, gs[j]? = some nd := ⟨_, List.getElem?_eq_getElem hlt⟩
                      obtain ⟨nb, rfl, x1, x2, hz⟩ := Z.out.uf hnd
                      have Z2 := hid hz
                      clear hz hnd
                      go_wp2_with fail
                      go_roundw
                      case rel => exact ⟨j + 1, by omega, by go_num, Z2⟩
                      case measure => simp [intOf]; omega
                    · have hle : (gs.length : Int) ≤ (j : Int) := by omega
                      have hje : j = gs.length := by omega
                      have Z9 := hid (show ZZ w B C (.slice NA ns.length NC) (.slice FA fs.length FC) (.slice MA us.length MC) (.slice GA gs.length GC) lvs pvs lvs2 pvs2 (ns.map zeroN) (us.map zeroN) (fs.map zeroF) (gs.map zeroF) wr from by
                        have := Z.out
                        rw [hje, zp_all] at this; exact this)
                      clear hje Z hlt
                      have HT := hid (same_any (nv := .slice NA ns.length NC) (fv := .slice FA fs.length FC) (nv2 := .slice MA us.length MC) (fv2 := .slice GA gs.length GC) Z9.out.t.tree (by have h1 := Z9.out.u.tree; rw [alike_n HAL.out, alike_f HAL.out] at h1; exact h1) (by rw [List.length_map]; omega) (by rw [List.length_map]; omega) (fun f hf => by
                        obtain ⟨g, hg, rfl⟩ := List.mem_map.1 hf
                        have := HOK.out.pars g hg
                        show g.params.length ≤ 1000
                        omega))
                      go_wp2_with fail
                      refine HT.out.mono ?_
                      rintro e w9 ⟨rfl, hf⟩
                      have F9 := hid (Z9.out.fr.tr hf)
                      clear hf
                      go_wp2_with fail
                      go_ret
                      exact ⟨by simp, F9.out⟩
end Go.Proofs.YtahhgnbiahomiaaDoor
