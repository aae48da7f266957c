/- ShowAll: the walk. -/
import Derived.Test.YtahhgnbiahomiaaDoorMI
import Derived.Test.YtahhgnbiahomiaaDoorMJ
namespace Go.Proofs.YtahhgnbiahomiaaDoor
open Go.RowKit
set_option linter.unusedVariables false
set_option linter.unusedSimpArgs false
set_option maxHeartbeats 4000000 in
set_option maxRecDepth 100000 in
theorem showall_walk (s : ByteArray) (w : World) (hb : TabBase w) :
    Calls Tryd.prog 5 #[.string s] w fun e w' => e = .returned (.bool true) ∧ Fr nob w w' := by
  have HB := hid hb
  have HSD := hid (shown_any w hb)
  have HSH := hid (fun w' => short_any s w')
  have hl : (s.data.toList.take 700).length ≤ 700 := by rw [List.length_take]; omega
  generalize s.data.toList.take 700 = l at *
  obtain ⟨r, hr⟩ := parse_some l
  have HP := hid (fun w' => pall_any (bs l) w' (by rw [bs_size]; omega) (r := r) hr)
  cases r with
  | bad p er =>
    have he := parse_bad hr
    clear hb hl hr
    go_enter Tryd.func5, Tryd.ntmps5
    go_wp2_with fail
    refine HSD.out.mono ?_
    rintro e w1 ⟨rfl, hf⟩
    have F1 := hid hf
    clear hf
    go_wp2_with fail
    refine (HSH.out w1).mono ?_
    rintro e w2 ⟨rfl, rfl⟩
    go_wp2_with fail
    refine (HP.out _).mono ?_
    rintro e w3 ⟨rfl, hf⟩
    have F3 := hid hf
    clear hf
    go_wp2_with fail
    go_ret
    exact ⟨rfl, (F1.out.tr F3.out).alloc _⟩
  | good ns fs =>
    have HR := hid hr
    have HOK := hid (parse_ok hr)
    have HFW := hid (parse_few hr)
    have hfew := (parse_ok hr).few
    have HTL := hid (show_len (parse_ok hr) (parse_few hr))
    clear hb hl hr
    go_enter Tryd.func5, Tryd.ntmps5
    go_wp2_with fail
    refine HSD.out.mono ?_
    rintro e w1 ⟨rfl, hf⟩
    have F1 := hid hf
    clear hf
    go_wp2_with fail
    refine (HSH.out w1).mono ?_
    rintro e w2 ⟨rfl, rfl⟩
    go_wp2_with fail
    refine (HP.out _).mono ?_
    rintro e w3 ⟨⟨nv, fv, lvs, pvs, rfl, ht⟩, hf⟩
    obtain ⟨NA, NC, rfl, _, _⟩ := ht.nodes.cap
    obtain ⟨FA, FC, rfl, _, _⟩ := ht.fns.cap
    have F3 := hid (F1.out.tr hf)
    have HB3 := hid (HB.out.fr F3.out)
    have S0 := hid (TV.new ht HB3.out)
    have F4 := hid (F3.out.alloc (.cells #[.slice NA ns.length NC, .slice FA fs.length FC] 26))
    clear ht hf
    go_wp2_with fail
    generalize hB : w3.heap.size = B at *
    clear hB
    generalize hw4 : w3.alloc (.cells #[.slice NA ns.length NC, .slice FA fs.length FC] 26) = w4 at *
    clear hw4
    have hl4 : (ns.length : Int) ≤ 300 := by omega
    go_loopw [7] (fun i wr => ∃ j : Nat, j ≤ ns.length ∧ i = .int .i64 j ∧ Hid (TV B (.slice NA ns.length NC) (.slice FA fs.length FC) lvs pvs ns fs wr) ∧ Hid (Fr nob w wr)) (fun i _ => ns.length - (intOf i).toNat)
    case atStart => exact ⟨0, Nat.zero_le _, rfl, S0, F4⟩
    case round =>
      obtain ⟨j, hj, rfl, S, FR⟩ := hrel
      obtain ⟨d0, d1⟩ := S.out.cells
      by_cases hlt : j < ns.length
      · have hlt2 : (j : Int) < (ns.length : Int) := by omega
        have hj6 : (j : Int) ≤ 300 := by omega
        obtain ⟨nd, hnd⟩ : ∃ nd, ns[j]? = some nd := ⟨_, List.getElem?_eq_getElem hlt⟩
        obtain ⟨nb, c', lv, e, hkl⟩ := S.out.tree.row hnd
        injection e with e1 e2 e3
        subst e1
        obtain ⟨hlv, x0, x1, x2, x3, x4⟩ := S.out.tree.node3 hnd hkl
        obtain ⟨KA, KC, rfl, _, _⟩ := hlv.cap
        have HLA := hid (fun w' => level_any nd (.slice KA nd.l.length KC) (fun h9 => sign_of (HOK.out.nodes j nd hnd) h9) KA _ KC rfl w')
        have HLB := hid (fun w' => rlevel_any nd (.slice KA nd.l.length KC) (fun h9 => sign_of (HOK.out.nodes j nd hnd) h9) KA _ KC rfl w')
        have HTX := hid (txt_short HR.out hlt)
        have HKR := hid (kid_right HOK.out.nodes hnd)
        have HNN := hid (And.intro hnd hkl)
        clear hnd e2 e3 hlv hkl
        generalize hlvN : levN nd = L at *
        clear hlvN
        obtain ⟨k, line, n, name, kl⟩ := nd
        dsimp only at x0 x1 x2 x3 x4 HKR HLA HLB HNN
        have CK : ∀ (wx : World), TV B (.slice (some ⟨nb, 0, none⟩) ns.length NC) (.slice FA fs.length FC) lvs pvs ns fs wx → wx.cell? ⟨B, 0, none⟩ = some (.slice (some ⟨nb, 0, none⟩) ns.length NC) ∧ wx.cell? ⟨B, 1, none⟩ = some (.slice FA fs.length FC) ∧ wx.cell? ⟨nb, j * 5, none⟩ = some (.int .i64 k) ∧ wx.cell? ⟨nb, j * 5 + 1, none⟩ = some (.int .i64 line) ∧ wx.cell? ⟨nb, j * 5 + 2, none⟩ = some (.int .i64 n) ∧ wx.cell? ⟨nb, j * 5 + 3, none⟩ = some (.string (bs name)) ∧ wx.cell? ⟨nb, j * 5 + 4, none⟩ = some (.slice KA kl.length KC) := fun wx h1 => ⟨h1.cells.1, h1.cells.2, (h1.tree.node3 HNN.out.1 HNN.out.2).2⟩
        have HCK := hid CK
        clear CK
        go_wp2_with fail
        go_region_held3 (fun wx => wx.cell? ⟨B, 0, none⟩ = some (.slice (some ⟨nb, 0, none⟩) ns.length NC) ∧ wx.cell? ⟨B, 1, none⟩ = some (.slice FA fs.length FC) ∧ wx.cell? ⟨nb, j * 5, none⟩ = some (.int .i64 k) ∧ wx.cell? ⟨nb, j * 5 + 1, none⟩ = some (.int .i64 line) ∧ wx.cell? ⟨nb, j * 5 + 2, none⟩ = some (.int .i64 n) ∧ wx.cell? ⟨nb, j * 5 + 3, none⟩ = some (.string (bs name)) ∧ wx.cell? ⟨nb, j * 5 + 4, none⟩ = some (.slice KA kl.length KC)) (first | exact K3.out | exact K2.out | go_keep)
          (first
            | (go_at_call 13; have tok := S2; go_must (refine (HLB.out _).mono ?_); go_loud (rintro e w6 ⟨rfl, hf⟩); go_loud (have S3 := hid (S2.out.no hf)); go_loud (have K3 := hid (HCK.out _ S3.out)); have F3 := hid (F2.out.tr hf); clear hf tok)
            | (go_at_call 12; go_must (refine (HLA.out _).mono ?_); go_loud (rintro e w5 ⟨rfl, hf⟩); go_loud (have S2 := hid ((S.out.no ((Fr.refl nob wr).drew)).no hf)); go_loud (have K2 := hid (HCK.out _ S2.out)); have F2 := hid (FR.out.drew.tr hf); clear hf))
        clear d0 d1 x0 x1 x2 x3 x4 HCK
        obtain ⟨d0, d1⟩ := S3.out.cells
        have HCK := hid (show ∀ (wx : World), TV B (.slice (some ⟨nb, 0, none⟩) ns.length NC) (.slice FA fs.length FC) lvs pvs ns fs wx → wx.cell? ⟨B, 0, none⟩ = some (.slice (some ⟨nb, 0, none⟩) ns.length NC) ∧ wx.cell? ⟨B, 1, none⟩ = some (.slice FA fs.length FC) from fun wx h1 => h1.cells)
        by_cases k1 : k ≤ 9 ∨ 19 ≤ k
        · have HKX := hid (HKR.out k1)
          have HEA := hid (fun (wx : World) (h : TV B (.slice (some ⟨nb, 0, none⟩) ns.length NC) (.slice FA fs.length FC) lvs pvs ns fs wx) => exprs_any HOK.out.nodes HKX.out (by have := HTX.out; omega) h.tree h.base)
          have HEB := hid (fun (wx : World) (h : TV B (.slice (some ⟨nb, 0, none⟩) ns.length NC) (.slice FA fs.length FC) lvs pvs ns fs wx) => rexpr_ok HOK.out.nodes j wx ⟨h.tree, h.base⟩ HKX.out (by have := HTX.out; omega))
          have key : ∀ (P : Prop), (((k : Int) ≤ 9) → P) → ((¬ (k : Int) ≤ 9 ∧ (19 : Int) ≤ (k : Int)) → P) → P := fun P h1 h2 => by
            by_cases h : (k : Int) ≤ 9
            · exact h1 h
            · exact h2 ⟨h, by omega⟩
          refine key _ (fun c1 => ?_) (fun c1 => ?_)
          · clear k1 key
            go_wp2_with fail
            go_region_held3 (fun wx => wx.cell? ⟨B, 0, none⟩ = some (.slice (some ⟨nb, 0, none⟩) ns.length NC) ∧ wx.cell? ⟨B, 1, none⟩ = some (.slice FA fs.length FC)) (first | exact K5.out | exact K4.out | go_keep)
              (first
                | (go_at_call 15; have tok := S4; go_must (refine (HEB.out _ S4.out).mono ?_); go_loud (rintro e w8 ⟨rfl, hf⟩); go_loud (have S5 := hid (S4.out.no hf)); go_loud (have K5 := hid (HCK.out _ S5.out)); have F5 := hid (F4.out.tr hf); clear hf tok)
                | (go_at_call 14; go_must (refine (HEA.out _ (S3.out.no ((Fr.refl nob w6).drew))).mono ?_); go_loud (rintro e w7 ⟨rfl, hf⟩); go_loud (have S4 := hid ((S3.out.no ((Fr.refl nob w6).drew)).no hf)); go_loud (have K4 := hid (HCK.out _ S4.out)); have F4 := hid (F3.out.drew.tr hf); clear hf))
            clear d0 d1
            go_wp2_with fail
            go_roundw
            case rel => exact ⟨j + 1, by omega, by go_num, S5, F5⟩
            case measure => simp [intOf]; omega
          · obtain ⟨c1, c2⟩ := c1
            clear k1 key
            go_wp2_with fail
            go_region_held3 (fun wx => wx.cell? ⟨B, 0, none⟩ = some (.slice (some ⟨nb, 0, none⟩) ns.length NC) ∧ wx.cell? ⟨B, 1, none⟩ = some (.slice FA fs.length FC)) (first | exact K5.out | exact K4.out | go_keep)
              (first
                | (go_at_call 15; have tok := S4; go_must (refine (HEB.out _ S4.out).mono ?_); go_loud (rintro e w8 ⟨rfl, hf⟩); go_loud (have S5 := hid (S4.out.no hf)); go_loud (have K5 := hid (HCK.out _ S5.out)); have F5 := hid (F4.out.tr hf); clear hf tok)
                | (go_at_call 14; go_must (refine (HEA.out _ (S3.out.no ((Fr.refl nob w6).drew))).mono ?_); go_loud (rintro e w7 ⟨rfl, hf⟩); go_loud (have S4 := hid ((S3.out.no ((Fr.refl nob w6).drew)).no hf)); go_loud (have K4 := hid (HCK.out _ S4.out)); have F4 := hid (F3.out.drew.tr hf); clear hf))
            clear d0 d1
            go_wp2_with fail
            go_roundw
            case rel => exact ⟨j + 1, by omega, by go_num, S5, F5⟩
            case measure => simp [intOf]; omega
        · have c1 : ¬ (k : Int) ≤ 9 := by omega
          have c2 : ¬ (19 : Int) ≤ (k : Int) := by omega
          clear k1
          go_wp2_with fail
          go_quiet (fail)
          go_wp2_with fail
          go_roundw
          case rel => exact ⟨j + 1, by omega, by go_num, by first | exact S3 | exact hid (S3.out.no ((Fr.refl nob w6).drewN _)) | exact hid (S3.out.no ((Fr.refl nob w6).drew)), by first | exact F3 | exact hid F3.out.drew | exact hid (F3.out.drewN _)⟩
          case measure => simp [intOf]; omega
      · have hle : (ns.length : Int) ≤ (j : Int) := by omega
        have HCK := hid (show ∀ (wx : World), TV B (.slice NA ns.length NC) (.slice FA fs.length FC) lvs pvs ns fs wx → wx.cell? ⟨B, 0, none⟩ = some (.slice NA ns.length NC) ∧ wx.cell? ⟨B, 1, none⟩ = some (.slice FA fs.length FC) from fun wx h1 => h1.cells)
        go_wp2_with fail
        go_region_held3 (fun wx => wx.cell? ⟨B, 0, none⟩ = some (.slice NA ns.length NC) ∧ wx.cell? ⟨B, 1, none⟩ = some (.slice FA fs.length FC)) (first | exact K3.out | exact K2.out | go_keep)
          (first
            | (go_at_call 16; have tok := S2; go_must (refine (reftext_any HOK.out HFW.out ⟨S2.out.tree, S2.out.base⟩).mono ?_); go_loud (rintro e w6 ⟨rfl, hf⟩); go_loud (have S3 := hid (S2.out.no hf)); go_loud (have K3 := hid (HCK.out _ S3.out)); have F3 := hid (F2.out.tr hf); clear hf tok)
            | (go_at_call 10; go_must (refine (text_any HOK.out HFW.out (S.out.no ((Fr.refl nob wr).drew)).tree (S.out.no ((Fr.refl nob wr).drew)).base).mono ?_); go_loud (rintro e w5 ⟨rfl, hf⟩); go_loud (have S2 := hid ((S.out.no ((Fr.refl nob wr).drew)).no hf)); go_loud (have K2 := hid (HCK.out _ S2.out)); have F2 := hid (FR.out.drew.tr hf); clear hf))
        clear d0 d1
        go_wp2_with fail
        go_ret
        exact ⟨by simp, F3.out⟩
end Go.Proofs.YtahhgnbiahomiaaDoor
