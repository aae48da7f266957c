/- ParseBelow: the walk. -/
import Derived.Test.YtlbjicjinnnboaaGreatDoorMBw
import Derived.Test.YtlbjicjinnnboaaGreatDoorQA7
import Derived.BigQuiet
namespace Go.Proofs.YtlbjicjinnnboaaGreatDoor
open Go.RowKit
open Pw
set_option linter.unusedVariables false
set_option linter.unusedSimpArgs false
set_option maxHeartbeats 16000000 in
set_option maxRecDepth 100000 in
theorem parsebelow_walk (s : ByteArray) (w : World) (hv : PVars w) :
    Calls Tryz.prog 6 #[.string s] w fun e w' => e = .returned (.bool true) ∧ Fr nob w w' := by
  have V := hid hv
  have HSD := hid (shown_any w hv)
  have HSH := hid (fun w' => short_any s w')
  have hl : (s.data.toList.take 700).length ≤ 700 := by rw [List.length_take]; omega
  generalize s.data.toList.take 700 = l at *
  obtain ⟨r, hr⟩ := parse_some l
  have HP := hid (fun w' hv' => qall_any (bs l) w' (by rw [bs_size]; omega) hv' (r := r) hr)
  clear hv hl
  cases r with
  | bad p er =>
    have he : ((er : Int) != 0) = true := by
      have h1 : 1 ≤ er := by
        unfold parseM at hr
        cases hl : lexM l with
        | bad i k =>
          rw [hl] at hr
          simp at hr
          have := lexM_bad hl
          omega
        | good ts =>
          rw [hl] at hr
          simp only [parseT, Option.map_eq_some_iff] at hr
          obtain ⟨q, hq, hr⟩ := hr
          split at hr
          · injection hr with h1 h2
            omega
          · split at hr
            · injection hr with h1 h2
              omega
            · cases hr
      have h0 : ((er : Int) == 0) = false := beq_eq_false_iff_ne.2 (by omega)
      rw [bne, h0]; rfl
    clear hr
    go_enter Tryz.func6, Tryz.ntmps6
    go_wp2_with fail
    refine HSD.out.mono ?_
    rintro e w1 ⟨rfl, hf⟩
    have F1 := hid hf
    clear hf
    go_wp2_with fail
    refine (HSH.out w1).mono ?_
    rintro e w2 ⟨rfl, hw⟩
    have hw' := hw.symm
    subst hw'
    clear hw
    go_wp2_with fail
    refine (HP.out _ (V.out.no F1.out)).mono ?_
    rintro e w3 ⟨hpa, hf⟩
    have hpa : e = .returned (.tuple #[.agg #[.slice none 0 0, .slice none 0 0], .int .i64 p, .int .i64 er]) := hpa
    subst hpa
    have F3 := hid (F1.out.tr hf)
    clear hf
    go_wp2_with fail
    go_ret
    exact ⟨rfl, F3.out.alloc _⟩
  | good ns fs =>
    have BW := hid (parse_below hr)
    have hns := (parse_small hr).1
    have hfs := (parse_small hr).2.1
    have hns : ns.length ≤ 300 := hns
    have hfs : fs.length ≤ 6 := hfs
    have hn3 : (ns.length : Int) ≤ 300 := by omega
    have hf3 : (fs.length : Int) ≤ 6 := by omega
    obtain ⟨Z, hZ, hmk⟩ := make_ints ns.length (by omega)
    have HZ := hid hZ
    clear hr hZ hns hfs
    go_enter Tryz.func6, Tryz.ntmps6
    go_wp2_with fail
    refine HSD.out.mono ?_
    rintro e w1 ⟨rfl, hf⟩
    have F1 := hid hf
    clear hf
    go_wp2_with fail
    refine (HSH.out w1).mono ?_
    rintro e w2 ⟨rfl, hw⟩
    have hw' := hw.symm
    subst hw'
    clear hw
    go_wp2_with fail
    refine (HP.out _ (V.out.no F1.out)).mono ?_
    rintro e w3 ⟨⟨nv, fv, lvs, pvs, rfl, ht⟩, hf⟩
    obtain ⟨NA, NC, rfl, _, _⟩ := ht.nodes.cap
    obtain ⟨FA, FC, rfl, _, _⟩ := ht.fns.cap
    have F3 := hid (F1.out.tr hf)
    have TT := hid ht.zero
    clear hf ht
    go_wp2_with fail
    have F4 := hid (F3.out.alloc (.cells #[.slice NA ns.length NC, .slice FA fs.length FC] 26))
    have BA := hid (show TB w3.heap.size _ _ lvs pvs ns fs (w3.alloc (.cells #[.slice NA ns.length NC, .slice FA fs.length FC] 26)) from ⟨TT.out.no ((Fr.refl nob w3).alloc _), Blk.new w3 _ _⟩)
    have T0 := hid (show Tm ((w3.alloc (.cells #[.slice NA ns.length NC, .slice FA fs.length FC] 26)).alloc (.cells Z 3)) (w3.heap.size + 1) ns.length (fun y => parN (ns.take 0) y) from by
      have := Tm.new (w3.alloc (.cells #[.slice NA ns.length NC, .slice FA fs.length FC] 26)) HZ.out
      rw [World.size_alloc] at this
      exact this.congr (fun y => by rw [List.take_zero]; rfl))
    have HH := hid (show (w3.alloc (.cells #[.slice NA ns.length NC, .slice FA fs.length FC] 26)).heap.size = w3.heap.size + 1 from World.size_alloc _ _)
    clear TT F3 hmk
    generalize w3.alloc (.cells #[.slice NA ns.length NC, .slice FA fs.length FC] 26) = w4 at *
    generalize w3.heap.size + 1 = H at *
    generalize w3.heap.size = B at *
    have F5 := hid ((Fr.refl nob w4).alloc (.cells Z 3))
    generalize w4.alloc (.cells Z 3) = w5 at *
    go_loopw [8] (fun i wr => ∃ j : Nat, j ≤ ns.length ∧ i = .int .i64 j ∧ Hid (Fr nob w4 wr) ∧ Hid (Tm wr H ns.length (fun y => parN (ns.take j) y))) (fun i _ => ns.length - (intOf i).toNat)
    case atStart => exact ⟨0, Nat.zero_le _, rfl, F5, T0⟩
    case round =>
      clear F5 T0
      obtain ⟨j, hj, rfl, FR, TM⟩ := hrel
      obtain ⟨d0, d1⟩ := (BA.out.no FR.out).cells
      by_cases hlt : j < ns.length
      · have hlt2 : (j : Int) < (ns.length : Int) := by omega
        have hj6 : (j : Int) ≤ 300 := by omega
        obtain ⟨nd, hnd⟩ : ∃ nd, ns[j]? = some nd := ⟨_, List.getElem?_eq_getElem hlt⟩
        have OK := hid (BW.out.ok.nodes j nd hnd)
        have LN := hid (BW.out.lines j nd hnd)
        have AS := hid (BW.out.asc j nd hnd)
        have PT := hid (fun y => par_take ns j nd y hnd)
        have AR := hid (ar_of OK.out)
        obtain ⟨nb, c1, lv, e, _, hlv, y0, y1, y2, y3, y4⟩ := BA.out.tree.node hnd
        injection e with e5 e6 e7
        subst e5
        obtain ⟨KA, KC, rfl, ka9, kc9⟩ := hlv.cap
        have hl4 : (nd.l.length : Int) ≤ 9223372036854775807 := by unfold maxLen at kc9; omega
        have HK := hid hlv
        have x0 := (FR.out.cell (World.block_lt_of_cell? _ _ y0) (fun x => x)).trans y0
        have x1 := (FR.out.cell (World.block_lt_of_cell? _ _ y1) (fun x => x)).trans y1
        have x2 := (FR.out.cell (World.block_lt_of_cell? _ _ y2) (fun x => x)).trans y2
        have x3 := (FR.out.cell (World.block_lt_of_cell? _ _ y3) (fun x => x)).trans y3
        have x4 := (FR.out.cell (World.block_lt_of_cell? _ _ y4) (fun x => x)).trans y4
        have hHC := World.block_lt_of_cell? _ _ (TM.out.at_ hlt).1
        have HC := hid hHC
        obtain ⟨k, line, n, name, kl⟩ := nd
        dsimp only at *
        clear ka9 kc9 hlv e6 e7 y0 y1 y2 y3 y4 hHC
        go_wp2_with fail
        have XB := hid (show Blk (wr.alloc (.cells #[.int .i64 k, .int .i64 line, .int .i64 n, .string (bs name), .slice KA kl.length KC] 50)) wr.heap.size 50 #[.int .i64 k, .int .i64 line, .int .i64 n, .string (bs name), .slice KA kl.length KC] from Blk.new wr _ _)
        have FR9 := hid (FR.out.alloc (.cells #[.int .i64 k, .int .i64 line, .int .i64 n, .string (bs name), .slice KA kl.length KC] 50))
        have TM9 := hid ((TM.out.no ((Fr.refl nob wr).alloc (.cells #[.int .i64 k, .int .i64 line, .int .i64 n, .string (bs name), .slice KA kl.length KC] 50))).congr (c' := fun y => parN (ns.take j) y + (kl.take 0).count y) (fun y => by simp))
        clear x0 x1 x2 x3 x4 d0 d1 FR TM
        have NE := hid (show wr.heap.size ≠ H from by have := HC.out; omega)
        generalize wr.heap.size = C at *
        generalize wr.alloc (.cells #[.int .i64 k, .int .i64 line, .int .i64 n, .string (bs name), .slice KA kl.length KC] 50) = w9 at *
        go_loopw [10] (fun i wq => ∃ m : Nat, m ≤ kl.length ∧ i = .int .i64 m ∧ Hid (Fr nob w4 wq) ∧ Hid (Tm wq H ns.length (fun y => parN (ns.take j) y + (kl.take m).count y)) ∧ Hid (Blk wq C 50 #[.int .i64 k, .int .i64 line, .int .i64 n, .string (bs name), .slice KA kl.length KC])) (fun i _ => kl.length - (intOf i).toNat)
        case atStart => exact ⟨0, Nat.zero_le _, rfl, FR9, TM9, XB⟩
        case round =>
          clear FR9 TM9 XB HC
          obtain ⟨m, hm, rfl, FR, TM, XB⟩ := hrel
          obtain ⟨d0, d1⟩ := (BA.out.no FR.out).cells
          have a0 : wr.cell? ⟨C, 0, none⟩ = some (.int .i64 k) := by simpa using XB.out.cell 0
          have a1 : wr.cell? ⟨C, 1, none⟩ = some (.int .i64 line) := by simpa using XB.out.cell 1
          have a4 : wr.cell? ⟨C, 4, none⟩ = some (.slice KA kl.length KC) := by simpa using XB.out.cell 4
          by_cases hml : m < kl.length
          · have hml2 : (m : Int) < (kl.length : Int) := by omega
            have HKL := hid hml
            obtain ⟨q, hq⟩ : ∃ q, kl[m]? = some q := ⟨_, List.getElem?_eq_getElem hml⟩
            have hqj : q < j := by
              have := kids_lt2 OK.out q (List.mem_of_getElem? hq)
              exact Nat.lt_of_lt_of_le this (by rw [List.length_take]; exact Nat.min_le_left _ _)
            obtain ⟨cd, hcd, hcl⟩ := LN.out q (List.mem_of_getElem? hq)
            try dsimp only at hcl
            have z1 := (BA.out.tree.node3 hcd (List.getElem?_eq_getElem (by have := BA.out.tree.same; omega))).2.2.1
            have z1 := (FR.out.cell (World.block_lt_of_cell? _ _ z1) (fun x => x)).trans z1
            obtain ⟨pb, e, hc1⟩ := (HK.out.fr FR.out (fun _ _ x => x)).some (by omega)
            subst e
            have p0 : wr.cell? ⟨pb, m, none⟩ = some (.int .i64 (q : Int)) := by simpa using hc1 m (.int .i64 (q : Nat)) (by simp [ints, hq])
            have hqn : q < ns.length := by omega
            obtain ⟨t0, t1⟩ := TM.out.at_ hqn
            have hcb : parN (ns.take j) q + (kl.take m).count q ≤ 1 := by
              have h1 := BW.out.par q
              rw [if_pos hqn] at h1
              have h2 := par_le ns (j + 1) q
              have h3 := PT.out q
              have h4 := cnt_le kl m q
              try dsimp only at h3
              omega
            have CT := hid (fun y => count_take kl m q y hq)
            have TS := hid (fun k => (TM.out.no ((Fr.refl nob wr).drewN k)).set hqn (c' := fun y => parN (ns.take j) y + (kl.take (m + 1)).count y) (fun y => by rw [CT.out y]; omega))
            try dsimp only at t0 TS
            have hq3 : (q : Int) < (j : Int) := by omega
            have hq4 : (q : Int) < (ns.length : Int) := by omega
            have hc3 : (line : Int) ≤ (cd.line : Int) := by omega
            have i1 : decide (j ≤ q) = false := decide_eq_false (by omega)
            have i2 : decide ((q : Int) < 0) = false := decide_eq_false (by omega)
            have i3 : decide (cd.line < line) = false := decide_eq_false (by omega)
            generalize parN (ns.take j) q + (kl.take m).count q = cq at *
            have hcq : (cq : Int) ≤ 1 := by omega
            have F9 := hid (fun k => (FR.out.drewN k).setCell ⟨H, q, none⟩ (.int .i64 ((cq : Int) + 1)) (fun hl => absurd hl (by rw [HH.out]; exact Nat.lt_irrefl _)))
            have X9 := hid (fun k => (XB.out.drewN k).far (p := ⟨H, q, none⟩) NE.out (.int .i64 ((cq : Int) + 1)))
            cases m with
            | zero =>
              clear hcl hcd hq hqj hqn hm hml hc1 LN PT CT TM AS FR XB HK
              go_wp2_with fail
              go_quiet (fail)
              go_wp2_with fail
              go_roundw
              case rel => exact ⟨1, by have := HKL.out; omega, by go_num, hid (F9.out _), hid (TS.out _), hid (X9.out _)⟩
              case measure => simp [intOf]; omega
            | succ m' =>
              obtain ⟨q', hq'⟩ : ∃ q', kl[m']? = some q' := ⟨_, List.getElem?_eq_getElem (by omega)⟩
              have hqq : (q' : Int) < (q : Int) := by
                have h1 := List.pairwise_iff_getElem.1 AS.out m' (m' + 1) (by omega) hml (by omega)
                rw [List.getElem?_eq_some_iff] at hq hq'
                obtain ⟨_, h2⟩ := hq
                obtain ⟨_, h3⟩ := hq'
                try dsimp only at h1
                rw [h2, h3] at h1
                omega
              have i6 : decide (q ≤ q') = false := decide_eq_false (by omega)
              have i7 : IntKind.i64.wrap (((m' + 1 : Nat) : Int) - 1) = (m' : Int) := by rw [show ((m' + 1 : Nat) : Int) - 1 = (m' : Int) by omega]; exact IntWalk.i64_in _ (by omega)
              have i8 : (0 : Int) < ((m' + 1 : Nat) : Int) := by omega
              have i9 : (m' : Int) < (kl.length : Int) := by omega
              have p1 : wr.cell? ⟨pb, m', none⟩ = some (.int .i64 (q' : Int)) := by simpa using hc1 m' (.int .i64 (q' : Nat)) (by simp [ints, hq'])
              clear hcl hcd hq hqj hqn hq' hm hml hc1 LN PT CT TM AS FR XB HK hqq
              go_wp2_with fail
              go_quiet (fail)
              go_wp2_with fail
              go_roundw
              case rel => exact ⟨m' + 1 + 1, by have := HKL.out; omega, by go_num, hid (F9.out _), hid (TS.out _), hid (X9.out _)⟩
              case measure => simp [intOf]; omega
          · have hme : m = kl.length := by omega
            subst hme
            have TE := hid (TM.out.congr (c' := fun y => parN (ns.take (j + 1)) y) (fun y => by rw [List.take_length]; exact PT.out y))
            have ha := AR.out
            clear TM hml hm XB HK PT LN AS OK
            try dsimp only at ha
            unfold ar at ha
            generalize kl.length = L at *
            rcases ha with ⟨rfl, rfl⟩ | ⟨rfl, rfl⟩ | ⟨rfl, rfl⟩ | ⟨rfl, rfl⟩ | ⟨rfl, rfl⟩ | ⟨rfl, rfl⟩ | ⟨rfl, rfl⟩ | ⟨rfl, rfl⟩ | ⟨rfl, rfl⟩ | ⟨rfl, rfl⟩ | ⟨rfl, rfl⟩ | ⟨rfl, rfl⟩ | ⟨rfl, rfl⟩ | ⟨rfl, rfl⟩ | ⟨rfl, rfl⟩ | ⟨rfl, rfl⟩ | ⟨rfl, rfl⟩ | ⟨rfl, rfl⟩ | ⟨rfl, rfl⟩ | ⟨rfl, rfl⟩ | ⟨rfl, rfl⟩ | rfl | rfl
            all_goals
              go_wp2_with fail
              go_roundw
              case rel => exact ⟨j + 1, by omega, by go_num, FR, TE⟩
              case measure => simp [intOf]; omega
      · have hje : j = ns.length := by omega
        subst hje
        have T3 := hid (TM.out.congr (c' := fun y => parN ns y + bodyN (fs.take 0) y) (fun y => by rw [List.take_length, List.take_zero]; rfl))
        clear hlt hj TM
        go_wp2_with fail
        go_loopw [14] (fun i wq => ∃ j : Nat, j ≤ fs.length ∧ i = .int .i64 j ∧ Hid (Fr nob w4 wq) ∧ Hid (Tm wq H ns.length (fun y => parN ns y + bodyN (fs.take j) y))) (fun i _ => fs.length - (intOf i).toNat)
        case atStart => exact ⟨0, Nat.zero_le _, rfl, FR, T3⟩
        case round =>
          clear FR T3
          obtain ⟨j, hj, rfl, FR, TM⟩ := hrel
          obtain ⟨d0, d1⟩ := (BA.out.no FR.out).cells
          by_cases hlt : j < fs.length
          · have hlt2 : (j : Int) < (fs.length : Int) := by omega
            have hj6 : (j : Int) ≤ 6 := by omega
            obtain ⟨f, hf⟩ : ∃ f, fs[j]? = some f := ⟨_, List.getElem?_eq_getElem hlt⟩
            obtain ⟨cd, hcd, hck⟩ := BW.out.ok.bodies f (List.mem_of_getElem? hf)
            have hck : cd.kind = 18 := by simpa [clsB] using hck
            have hqn : f.body < ns.length := (List.getElem?_eq_some_iff.1 hcd).1
            obtain ⟨fb, rfl, -⟩ := BA.out.tree.fns.some (by omega)
            obtain ⟨nb, c1, lv, e, -, -, y0, -⟩ := BA.out.tree.node hcd
            injection e with e5 e6 e7
            subst e5
            obtain ⟨pv, -, -, -, -, -, b4⟩ := BA.out.tree.fn hf
            have y0 : wr.cell? ⟨nb, f.body * 5, none⟩ = some (.int .i64 18) := ((FR.out.cell (World.block_lt_of_cell? _ _ y0) (fun x => x)).trans y0).trans (by rw [hck]; rfl)
            have b4 := (FR.out.cell (World.block_lt_of_cell? _ _ b4) (fun x => x)).trans b4
            obtain ⟨t0, t1⟩ := TM.out.at_ hqn
            have hcb : parN ns f.body + bodyN (fs.take j) f.body ≤ 1 := by
              have h1 := BW.out.par f.body
              rw [if_pos hqn] at h1
              have h2 := body_le fs j f.body
              omega
            have TS := hid (TM.out.set hqn (c' := fun y => parN ns y + bodyN (fs.take (j + 1)) y) (fun y => by rw [body_take fs j f y hf]; omega))
            try dsimp only at t0 TS
            generalize f.body = q at *
            have hq4 : (q : Int) < (ns.length : Int) := by omega
            have i1 : decide (ns.length ≤ q) = false := decide_eq_false (by omega)
            have i2 : decide ((q : Int) < 0) = false := decide_eq_false (by omega)
            generalize parN ns q + bodyN (fs.take j) q = cq at *
            have hcq : (cq : Int) ≤ 1 := by omega
            have F9 := hid (FR.out.setCell ⟨H, q, none⟩ (.int .i64 ((cq : Int) + 1)) (fun hl => absurd hl (by rw [HH.out]; exact Nat.lt_irrefl _)))
            clear hcd hck hf e6 e7 hqn hcb TM FR
            go_wp2_with fail
            go_roundw
            case rel => exact ⟨j + 1, by omega, by go_num, F9, TS⟩
            case measure => simp [intOf]; omega
          · have hje : j = fs.length := by omega
            subst hje
            have T4 := hid (TM.out.congr (c' := fun y => parN ns y + bodyN fs y) (fun y => by rw [List.take_length]))
            clear hlt hj TM
            go_wp2_with fail
            go_loopw [16] (fun i wq => ∃ j : Nat, j ≤ ns.length ∧ i = .int .i64 j ∧ wq = wr) (fun i _ => ns.length - (intOf i).toNat)
            case atStart => exact ⟨0, Nat.zero_le _, rfl, rfl⟩
            case round =>
              obtain ⟨j, hj, rfl, rfl⟩ := hrel
              by_cases hlt : j < ns.length
              · have hlt2 : (j : Int) < (ns.length : Int) := by omega
                have hj6 : (j : Int) ≤ 300 := by omega
                have t0 := (T4.out.at_ hlt).1
                have h1 := BW.out.par j
                rw [if_pos hlt] at h1
                try dsimp only at t0
                rw [h1] at t0
                clear h1
                go_wp2_with fail
                go_roundw
                case rel => exact ⟨j + 1, by omega, by go_num, by trivial⟩
                case measure => simp [intOf]; omega
              · have hje : j = ns.length := by omega
                subst hje
                clear hlt hj
                go_wp2_with fail
                go_ret
                exact ⟨rfl, F4.out.tr FR.out⟩
end Go.Proofs.YtlbjicjinnnboaaGreatDoor
