/- ShowParts: the walk. -/
import Derived.Test.YtahhgnbiahomiaaDoorMI
import Derived.Test.YtahhgnbiahomiaaDoorMK
namespace Go.Proofs.YtahhgnbiahomiaaDoor
open Go.RowKit
set_option linter.unusedVariables false
set_option linter.unusedSimpArgs false
def partT (x : List UInt8) : List UInt8 := [102, 110, 32, 109, 97, 105, 110, 40, 41, 123, 112, 114, 105, 110, 116, 32] ++ x ++ [59, 125]
/-- What a printed expression is, whatever its length. -/
def PartR (ns : List NodeM) (x : Nat) (nd : NodeM) : ParseR → Prop
  | .bad _ e => e = 4 ∨ e = 21
  | .good us gs => 3 ≤ us.length ∧ shV us (us.length - 3) = shV ns x ∧ NodesOk us ∧ Kid us clsR (us.length - 3) ∧ ∃ nd', us[us.length - 3]? = some nd' ∧ nd'.kind = nd.kind ∧ nd'.n = nd.n ∧ nd'.name = nd.name
theorem part_of {src : List UInt8} {ns : List NodeM} {fs : List FuncM} (h : parseM src = some (.good ns fs)) {x : Nat} {nd : NodeM} (hx : ns[x]? = some nd) (h9 : nd.kind ≤ 9) (m : Nat) : ∃ r, parseM (partT (rend (atP (pcV ns x) m))) = some r ∧ PartR ns x nd r := by
  have hk := (parse_ok h).nodes
  have hn := (parse_nm h).nodes
  have hr := kind_range hk hx
  have hkx : Kid ns clsE x := ⟨nd, hx, by unfold clsE; rw [decide_eq_true hr.1, decide_eq_true h9]; rfl⟩
  have e := rend_mainP (atP (pcV ns x) m)
  have e2 : partT (rend (atP (pcV ns x) m)) = rend (mainP (atP (pcV ns x) m)) := e.symm
  rw [e2]
  by_cases hl : (rend (mainP (atP (pcV ns x) m))).length ≤ 600
  · rcases main_parse hk hn hkx m hl with ⟨p, er, h1, h2⟩ | ⟨us, gs, h1, h2, h3, nd0, nd', h4, h5, h6, h7, h8⟩
    · exact ⟨_, h1, h2⟩
    · have : nd0 = nd := by rw [hx] at h5; exact (Option.some.inj h5).symm
      subst this
      refine ⟨_, h1, h2, h3, (parse_ok h1).nodes, kid_right (parse_ok h1).nodes h4 (.inl (by omega)), nd', h4, h6, h7, h8⟩
  · refine ⟨.bad 0 4, ?_, .inl rfl⟩
    unfold parseM
    rw [lex_big (by omega)]
/-- How it lies in the world. -/
theorem part_at {B : Nat} {w : World} {en : Ending} {r : ParseR} {ns : List NodeM} {x : Nat} {nd : NodeM} (h : ParseAt B w en r) (hp : PartR ns x nd r) :
    ∃ (A1 : Option Addr) (n1 c1 : Nat) (A2 : Option Addr) (n2 c2 p er : Nat), en = .returned (.tuple #[.agg #[.slice A1 n1 c1, .slice A2 n2 c2], .int .i64 p, .int .i64 er]) ∧
      ((er = 4 ∨ er = 21) ∨ (er = 0 ∧ ∃ us gs lv pv, TreeAt 0 w (.slice A1 n1 c1) (.slice A2 n2 c2) lv pv us gs ∧ n1 = us.length ∧ 3 ≤ us.length ∧ shV us (us.length - 3) = shV ns x ∧ NodesOk us ∧ Kid us clsR (us.length - 3) ∧ ∃ nd', us[us.length - 3]? = some nd' ∧ nd'.kind = nd.kind ∧ nd'.n = nd.n ∧ nd'.name = nd.name)) := by
  cases r with
  | bad p e => exact ⟨none, 0, 0, none, 0, 0, p, e, h, .inl hp⟩
  | good us gs =>
    obtain ⟨nv, fv, lvs, pvs, he, ht⟩ := h
    obtain ⟨NA, NC, rfl, _, _⟩ := ht.nodes.cap
    obtain ⟨FA, FC, rfl, _, _⟩ := ht.fns.cap
    exact ⟨NA, us.length, NC, FA, gs.length, FC, 0, 0, he, .inr ⟨rfl, us, gs, lvs, pvs, ht.zero, rfl, hp⟩⟩
theorem bs_cat3 (a b c : List UInt8) : (bs a ++ bs b ++ bs c : ByteArray) = bs (a ++ b ++ c) := by rw [bs_add, bs_add]
set_option maxHeartbeats 8000000 in
set_option maxRecDepth 100000 in
theorem showparts_walk (s : ByteArray) (w : World) (hb : TabBase w) :
    Calls Tryd.prog 6 #[.string s] w fun e w' => e = .returned (.bool true) ∧ Fr nob w w' := by
  have HB := hid hb
  have HSD := hid (shown_any w hb)
  have HSH := hid (fun w' => short_any s w')
  have hl : (s.data.toList.take 700).length ≤ 700 := by rw [List.length_take]; omega
  generalize s.data.toList.take 700 = l at *
  obtain ⟨r, hr⟩ := parse_some l
  have HP := hid (fun w' => pall_any (bs l) w' (by rw [bs_size]; omega) (r := r) hr)
  cases r with
  | bad p er =>
    have he := parse_bad hr
    clear hb hl hr
    go_enter Tryd.func6, Tryd.ntmps6
    go_wp2_with fail
    refine HSD.out.mono ?_
    rintro e w1 ⟨rfl, hf⟩
    have F1 := hid hf
    clear hf
    go_wp2_with fail
    refine (HSH.out w1).mono ?_
    rintro e w2 ⟨rfl, rfl⟩
    go_wp2_with fail
    refine (HP.out _).mono ?_
    rintro e w3 ⟨rfl, hf⟩
    have F3 := hid hf
    clear hf
    go_wp2_with fail
    go_ret
    exact ⟨rfl, (F1.out.tr F3.out).alloc _⟩
  | good ns fs =>
    have HR := hid hr
    have HOK := hid (parse_ok hr)
    have hfew := (parse_ok hr).few
    clear hb hl hr
    go_enter Tryd.func6, Tryd.ntmps6
    go_wp2_with fail
    refine HSD.out.mono ?_
    rintro e w1 ⟨rfl, hf⟩
    have F1 := hid hf
    clear hf
    go_wp2_with fail
    refine (HSH.out w1).mono ?_
    rintro e w2 ⟨rfl, rfl⟩
    go_wp2_with fail
    refine (HP.out _).mono ?_
    rintro e w3 ⟨⟨nv, fv, lvs, pvs, rfl, ht⟩, hf⟩
    obtain ⟨NA, NC, rfl, _, _⟩ := ht.nodes.cap
    obtain ⟨FA, FC, rfl, _, _⟩ := ht.fns.cap
    have F3 := hid (F1.out.tr hf)
    have HB3 := hid (HB.out.fr F3.out)
    have S0 := hid (TV.new ht HB3.out)
    have F4 := hid (F3.out.alloc (.cells #[.slice NA ns.length NC, .slice FA fs.length FC] 26))
    clear ht hf
    go_wp2_with fail
    generalize hB : w3.heap.size = B at *
    clear hB
    generalize hw4 : w3.alloc (.cells #[.slice NA ns.length NC, .slice FA fs.length FC] 26) = w4 at *
    clear hw4
    have hl4 : (ns.length : Int) ≤ 300 := by omega
    go_loopw [7] (fun i wr => ∃ j : Nat, j ≤ ns.length ∧ i = .int .i64 j ∧ Hid (TV B (.slice NA ns.length NC) (.slice FA fs.length FC) lvs pvs ns fs wr) ∧ Hid (Fr nob w wr)) (fun i _ => ns.length - (intOf i).toNat)
    case atStart => exact ⟨0, Nat.zero_le _, rfl, S0, F4⟩
    case round =>
      obtain ⟨j, hj, rfl, S, FR⟩ := hrel
      obtain ⟨d0, d1⟩ := S.out.cells
      by_cases hlt : j < ns.length
      · have hlt2 : (j : Int) < (ns.length : Int) := by omega
        have hj6 : (j : Int) ≤ 300 := by omega
        obtain ⟨nd, hnd⟩ : ∃ nd, ns[j]? = some nd := ⟨_, List.getElem?_eq_getElem hlt⟩
        obtain ⟨nb, c', lv, e, hkl⟩ := S.out.tree.row hnd
        injection e with e1 e2 e3
        subst e1
        obtain ⟨hlv, x0, x1, x2, x3, x4⟩ := S.out.tree.node3 hnd hkl
        by_cases k9 : nd.kind ≤ 9
        · have HEX := hid (fun (wx : World) (h : TV B (.slice (some ⟨nb, 0, none⟩) ns.length NC) (.slice FA fs.length FC) lvs pvs ns fs wx) => exprs_any HOK.out.nodes (kid_right HOK.out.nodes hnd (.inl k9)) (by have := txt_short HR.out hlt; omega) h.tree h.base)
          have HKE := hid (kid_right HOK.out.nodes hnd (.inl k9))
          have hTl := txt_short HR.out hlt
          have hu0 : rend (atP (pcV ns j) 0) = txt ns j := by rw [atP0]; exact rend_pcV HOK.out.nodes j hlt
          have hu7 : rend (atP (pcV ns j) 7) = 40 :: (txt ns j ++ [41]) := by
            have hlev : (pcV ns j).2 < 7 := by
              rw [pcV_lev hnd]; unfold levN; split
              · omega
              · split
                · have := signLv_le nd.name; omega
                · omega
            unfold atP
            rw [if_pos hlev, rend_sg, rend_append, rend_sg, rend_nil, rend_pcV HOK.out.nodes j hlt]; rfl
          obtain ⟨ru, hru, hpu⟩ := part_of HR.out hnd k9 0
          obtain ⟨rv, hrv, hpv⟩ := part_of HR.out hnd k9 7
          rw [hu0] at hru
          rw [hu7] at hrv
          obtain ⟨T, hT⟩ : ∃ T, txt ns j = T := ⟨_, rfl⟩
          rw [hT] at hru hrv hTl
          have HU := hid (fun (wx : World) => pall_any (bs [102, 110, 32, 109, 97, 105, 110, 40, 41, 123, 112, 114, 105, 110, 116, 32] ++ bs T ++ bs [59, 125]) wx (by rw [bs_cat3, bs_size]; simp; omega) (r := ru) (by rw [bs_cat3, bs_list]; exact hru))
          have HV := hid (fun (wx : World) => pall_any (bs [102, 110, 32, 109, 97, 105, 110, 40, 41, 123, 112, 114, 105, 110, 116, 32, 40] ++ bs T ++ bs [41, 59, 125]) wx (by rw [bs_cat3, bs_size]; simp; omega) (r := rv) (by rw [bs_cat3, bs_list]; rw [← hrv]; unfold partT; simp))
          have HPU := hid hpu
          have HPV := hid hpv
          have HNN := hid (And.intro hnd hkl)
          have HTE := hid hT
          have hk9 : ¬ (9 : Int) < (nd.kind : Int) := by omega
          have nl1 : ¬ 9223372036854775807 < 16 + (bs T).size := by rw [bs_size]; omega
          have nl2 : ¬ 9223372036854775807 < 16 + (bs T).size + 2 := by rw [bs_size]; omega
          have nl3 : ¬ 9223372036854775807 < 17 + (bs T).size := by rw [bs_size]; omega
          have nl4 : ¬ 9223372036854775807 < 17 + (bs T).size + 3 := by rw [bs_size]; omega
          clear hnd hkl e2 e3 hlv k9 hu0 hu7 hru hrv hpu hpv hT
          obtain ⟨k, line, n, name, kl⟩ := nd
          dsimp only at x0 x1 x2 x3 x4 HNN HPU HPV hk9
          go_wp2_with fail
          refine (HEX.out _ S.out).mono ?_
          rintro e w5 ⟨rfl, hf⟩
          rw [HTE.out]
          have S5 := hid (S.out.no hf)
          have F5 := hid (FR.out.tr hf)
          clear hf d0 d1 x0 x1 x2 x3 x4
          go_wp2_with fail
          refine (HU.out _).mono ?_
          rintro e w6 ⟨hat, hf⟩
          obtain ⟨A1, n1, c1, A2, n2, c2, pu, eu, rfl, hc⟩ := part_at hat HPU.out
          have S6 := hid ((S5.out.no hf).no ((Fr.refl nob w6).alloc (.cells #[.slice A1 n1 c1, .slice A2 n2 c2] 26)))
          have F6 := hid ((F5.out.tr hf).alloc (.cells #[.slice A1 n1 c1, .slice A2 n2 c2] 26))
          have X6 := hid (Blk.new w6 26 #[.slice A1 n1 c1, .slice A2 n2 c2])
          have C6 := hid hc
          have G6 := hid (show Fr nob w6 (w6.alloc (.cells #[.slice A1 n1 c1, .slice A2 n2 c2] 26)) from (Fr.refl nob w6).alloc _)
          clear hf hat hc
          go_wp2_with fail
          generalize hBU : w6.heap.size = BU at *
          clear hBU
          generalize hw6 : w6.alloc (.cells #[.slice A1 n1 c1, .slice A2 n2 c2] 26) = w6a at *
          clear hw6
          refine (HV.out _).mono ?_
          rintro e w7 ⟨hat, hf⟩
          obtain ⟨A3, n3, c3, A4, n4, c4, pv, ev, rfl, hc⟩ := part_at hat HPV.out
          have S7 := hid ((S6.out.no hf).no ((Fr.refl nob w7).alloc (.cells #[.slice A3 n3 c3, .slice A4 n4 c4] 26)))
          have F7 := hid ((F6.out.tr hf).alloc (.cells #[.slice A3 n3 c3, .slice A4 n4 c4] 26))
          have X7 := hid (Blk.new w7 26 #[.slice A3 n3 c3, .slice A4 n4 c4])
          have C7 := hid hc
          have G7 := hid (show Fr nob w7 (w7.alloc (.cells #[.slice A3 n3 c3, .slice A4 n4 c4] 26)) from (Fr.refl nob w7).alloc _)
          have XU := hid ((X6.out.fr hf (fun x => x)).fr G7.out (fun x => x))
          have GU := hid ((G6.out.tr hf).tr G7.out)
          clear hf hat hc
          rcases C6.out with (he | he) | ⟨he, us, gs, ulv, upv, hut, hun, hu3, hus, huo, huk, nd', hnd', hq1, hq2, hq3⟩
          · subst he
            go_wp2_with fail
            go_roundw
            case rel => exact ⟨j + 1, by omega, by go_num, S7, F7⟩
            case measure => simp [intOf]; omega
          · subst he
            go_wp2_with fail
            go_roundw
            case rel => exact ⟨j + 1, by omega, by go_num, S7, F7⟩
            case measure => simp [intOf]; omega
          · subst he
            subst hun
            obtain ⟨M, hM⟩ : ∃ M, us.length = M + 3 := ⟨us.length - 3, by omega⟩
            have hM2 : us.length - 3 = M := by omega
            rw [hM2] at hus huk hnd'
            have HUT := hid (And.intro (hut.no GU.out) (S7.out.base))
            obtain ⟨ub, uc, ulvv, e, hukl⟩ := HUT.out.1.row hnd'
            injection e with e1 e2 e3
            subst e1
            have HUN := hid (And.intro hnd' hukl)
            obtain ⟨k', line', n', name', kl'⟩ := nd'
            dsimp only at hq1 hq2 hq3 HUN
            replace hq1 := hq1.symm
            replace hq2 := hq2.symm
            replace hq3 := hq3.symm
            subst hq1 hq2 hq3
            have CK : ∀ (wx : World), TV B (.slice (some ⟨nb, 0, none⟩) ns.length NC) (.slice FA fs.length FC) lvs pvs ns fs wx → Blk wx BU 26 #[.slice (some ⟨ub, 0, none⟩) us.length c1, .slice A2 n2 c2] → TreeAt 0 wx (.slice (some ⟨ub, 0, none⟩) us.length c1) (.slice A2 n2 c2) ulv upv us gs → wx.cell? ⟨B, 0, none⟩ = some (.slice (some ⟨nb, 0, none⟩) ns.length NC) ∧ wx.cell? ⟨B, 1, none⟩ = some (.slice FA fs.length FC) ∧ wx.cell? ⟨BU, 0, none⟩ = some (.slice (some ⟨ub, 0, none⟩) us.length c1) ∧ wx.cell? ⟨BU, 1, none⟩ = some (.slice A2 n2 c2) ∧ wx.cell? ⟨nb, j * 5, none⟩ = some (.int .i64 k) ∧ wx.cell? ⟨nb, j * 5 + 2, none⟩ = some (.int .i64 n) ∧ wx.cell? ⟨nb, j * 5 + 3, none⟩ = some (.string (bs name)) ∧ wx.cell? ⟨ub, M * 5, none⟩ = some (.int .i64 k) ∧ wx.cell? ⟨ub, M * 5 + 2, none⟩ = some (.int .i64 n) ∧ wx.cell? ⟨ub, M * 5 + 3, none⟩ = some (.string (bs name)) := fun wx h1 h2 h3 => by
              obtain ⟨_, a0, a1, a2, a3, a4⟩ := h1.tree.node3 HNN.out.1 HNN.out.2
              obtain ⟨_, b0, b1, b2, b3, b4⟩ := h3.node3 HUN.out.1 HUN.out.2
              exact ⟨h1.cells.1, h1.cells.2, by simpa using h2.cell 0, by simpa using h2.cell 1, a0, a2, a3, b0, b2, b3⟩
            have HCK := hid CK
            obtain ⟨d0, d1, f0, f1, y0, y2, y3, z0, z2, z3⟩ := CK _ S7.out XU.out HUT.out.1
            have hMM : ((us.length : Nat) : Int) - 3 = (M : Int) := by omega
            have hML : (M : Int) < ((us.length : Nat) : Int) := by omega
            have hM0 : ¬ (M : Int) < 0 := by omega
            have hucap : ((us.length : Nat) : Int) ≤ 9223372036854775807 := by
              have := HUT.out.1.nodes.cap; obtain ⟨A, c2, e, h1, h2⟩ := this; unfold maxLen at h2; omega
            have hTTu : txt us M = T := by rw [← HTE.out]; unfold txt; rw [hus]
            have HEU := hid (fun (wx : World) (h : TreeAt 0 wx (.slice (some ⟨ub, 0, none⟩) us.length c1) (.slice A2 n2 c2) ulv upv us gs) (h2 : TabBase wx) => exprs_any huo huk (by rw [hTTu]; omega) h h2)
            have HTU := hid hTTu
            clear CK hus huk huo hnd' hukl hut e2 e3 hM hM2 hu3 hTTu
            go_wp2_with fail
            generalize hw8 : w7.alloc (.cells #[.slice A3 n3 c3, .slice A4 n4 c4] 26) = w8 at *
            clear hw8
            go_region_held3 (fun wx => wx.cell? ⟨B, 0, none⟩ = some (.slice (some ⟨nb, 0, none⟩) ns.length NC) ∧ wx.cell? ⟨B, 1, none⟩ = some (.slice FA fs.length FC) ∧ wx.cell? ⟨BU, 0, none⟩ = some (.slice (some ⟨ub, 0, none⟩) us.length c1) ∧ wx.cell? ⟨BU, 1, none⟩ = some (.slice A2 n2 c2) ∧ wx.cell? ⟨nb, j * 5, none⟩ = some (.int .i64 k) ∧ wx.cell? ⟨nb, j * 5 + 2, none⟩ = some (.int .i64 n) ∧ wx.cell? ⟨nb, j * 5 + 3, none⟩ = some (.string (bs name)) ∧ wx.cell? ⟨ub, M * 5, none⟩ = some (.int .i64 k) ∧ wx.cell? ⟨ub, M * 5 + 2, none⟩ = some (.int .i64 n) ∧ wx.cell? ⟨ub, M * 5 + 3, none⟩ = some (.string (bs name))) (first | exact K9.out | go_keep)
              (first
                | (go_at_call 14; go_must (refine (HEU.out _ (HUT.out.1.no ((Fr.refl nob w8).drew)) ((S7.out.no ((Fr.refl nob w8).drew)).base)).mono ?_); go_loud (rintro e w9 ⟨rfl, hf⟩); go_loud (rw [HTU.out]); go_loud (have S9 := hid ((S7.out.no ((Fr.refl nob w8).drew)).no hf)); go_loud (have K9 := hid (HCK.out _ S9.out ((XU.out.fr ((Fr.refl nob w8).drew) (fun x => x)).fr hf (fun x => x)) ((HUT.out.1.no ((Fr.refl nob w8).drew)).no hf))); have F9 := hid (F7.out.drew.tr hf); have G9 := hid (((Fr.refl nob w8).drew).tr hf); clear hf))
            clear d0 d1 f0 f1 y0 y2 y3 z0 z2 z3 HCK hMM hML hM0 hucap K9
            have XV := hid (X7.out.fr G9.out (fun x => x))
            generalize hBV : w7.heap.size = BV at *
            clear hBV
            rcases C7.out with (he | he) | ⟨he, vs, hs, vlv, vpv, hvt, hvn, hv3, hvs, hvo, hvk, _⟩
            · subst he
              go_wp2_with fail
              go_roundw
              case rel => exact ⟨j + 1, by omega, by go_num, by first | exact S9 | exact hid (S9.out.no ((Fr.refl nob w9).drewN _)), by first | exact F9 | exact hid (F9.out.drewN _)⟩
              case measure => simp [intOf]; omega
            · subst he
              go_wp2_with fail
              go_roundw
              case rel => exact ⟨j + 1, by omega, by go_num, by first | exact S9 | exact hid (S9.out.no ((Fr.refl nob w9).drewN _)), by first | exact F9 | exact hid (F9.out.drewN _)⟩
              case measure => simp [intOf]; omega
            · subst he
              subst hvn
              obtain ⟨M2, hM⟩ : ∃ M2, vs.length = M2 + 3 := ⟨vs.length - 3, by omega⟩
              have hM2 : vs.length - 3 = M2 := by omega
              rw [hM2] at hvs hvk
              have HVT := hid ((hvt.no G7.out).no G9.out)
              have f0 : w9.cell? ⟨BV, 0, none⟩ = some (.slice A3 vs.length c3) := by simpa using XV.out.cell 0
              have f1 : w9.cell? ⟨BV, 1, none⟩ = some (.slice A4 n4 c4) := by simpa using XV.out.cell 1
              have hMM : ((vs.length : Nat) : Int) - 3 = (M2 : Int) := by omega
              have hM4 : (M2 : Int) ≤ 9223372036854775807 := by
                have := HVT.out.nodes.cap; obtain ⟨A, c2, e, h1, h2⟩ := this; unfold maxLen at h2; omega
              have hTTv : txt vs M2 = T := by rw [← HTE.out]; unfold txt; rw [hvs]
              have HEV := hid (fun (wx : World) (h : TreeAt 0 wx (.slice A3 vs.length c3) (.slice A4 n4 c4) vlv vpv vs hs) (h2 : TabBase wx) => exprs_any hvo hvk (by rw [hTTv]; omega) h h2)
              have HTV := hid hTTv
              clear hvs hvk hvo hvt hM hM2 hv3 hTTv
              go_wp2_with fail
              refine (HEV.out _ HVT.out S9.out.base).mono ?_
              rintro e w10 ⟨rfl, hf⟩
              rw [HTV.out]
              have S10 := hid (S9.out.no hf)
              have F10 := hid (F9.out.tr hf)
              clear hf
              clear f0 f1 hMM hM4
              go_wp2_with fail
              go_roundw
              case rel => exact ⟨j + 1, by omega, by go_num, S10, F10⟩
              case measure => simp [intOf]; omega
        · have hk9 : (9 : Int) < (nd.kind : Int) := by omega
          clear hnd hkl e2 e3 hlv k9
          go_wp2_with fail
          go_roundw
          case rel => exact ⟨j + 1, by omega, by go_num, S, FR⟩
          case measure => simp [intOf]; omega
      · have hle : (ns.length : Int) ≤ (j : Int) := by omega
        go_wp2_with fail
        go_ret
        exact ⟨rfl, FR.out⟩
end Go.Proofs.YtahhgnbiahomiaaDoor
