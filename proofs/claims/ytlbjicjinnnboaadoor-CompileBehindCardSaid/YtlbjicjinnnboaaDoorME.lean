/- ME: PAtom, PFunc, PTot, PLexed, PTree, PAll. -/
import Derived.Test.YtlbjicjinnnboaaDoorMD
import Derived.Test.YtlbjicjinnnboaaDoorPShelf
import Derived.Lib.AtoiAll
import Derived.Test.YtlbjicjinnnboaaDoorMC
set_option linter.unusedVariables false
set_option linter.unusedSimpArgs false
/- The parser's functions: atom. Printed by wip/tools/mkright.py. -/
namespace Go.Proofs.YtlbjicjinnnboaaDoor
open Go.RowKit
section
variable {src : ByteArray} {tb tc : Nat} {ts : List Tok} {g : Nat} {n : Nat}
theorem Fr.bytes {w w' : World} (e : TypeId) (h : w' = w ∨ ∃ t, w' = Lib.bytesWorld w e t) : Fr nob w w' := by
 rcases h with rfl | ⟨t, rfl⟩
 · exact Fr.refl _ _
 · have hb := Lib.bytesWorld_below w e t
   exact ⟨hb.os, hb.tape, hb.output, hb.size, fun k hk _ => hb.block k hk⟩
theorem uint10_of : ∀ (l : List UInt8) (a : Nat), allDigits l → digitsVal a l ≤ 9223372036854775807 → Lib.parseUint10 a l = .ok (digitsVal a l)
 | [], a, _, _ => rfl
 | c :: r, a, hd, hv => by
  have hc := hd c List.mem_cons_self
  rw [digitsVal_cons] at hv ⊢
  have hge := digitsVal_ge (a * 10 + (c.toNat - 48)) r
  unfold Lib.parseUint10
  rw [if_pos hc, if_neg (by omega), if_neg (by omega)]
  exact uint10_of r _ (fun x hx => hd x (List.mem_cons_of_mem _ hx)) hv
theorem atoi_of {l : List UInt8} (h0 : l ≠ []) (hd : allDigits l) (hv : digitsVal 0 l ≤ 9223372036854775807) : Lib.atoiAll l = .ok (digitsVal 0 l : Nat) := by
 cases l with
 | nil => exact absurd rfl h0
 | cons c r =>
  have hc := hd c List.mem_cons_self
  have hm : Lib.parseMag (c :: r) = .ok (digitsVal 0 (c :: r)) := by
   unfold Lib.parseMag
   rw [if_neg (by simp)]
   exact uint10_of _ _ hd hv
  unfold Lib.atoiAll
  have h45 : ¬ c.toNat = 45 := by omega
  have h43 : ¬ c.toNat = 43 := by omega
  simp only [h43, h45, or_self, if_false]
  rw [hm]
  dsimp only
  rw [if_neg (by omega), if_neg (by simp)]
set_option maxHeartbeats 1600000 in
set_option maxRecDepth 100000 in
theorem atom_good (ih : ∀ m, m < n → Good src tb tc ts g m) : Does src tb tc ts g n .atom 71 #[.pointer (some ⟨g, 0, none⟩)] := by
 cases n with
 | zero => exact Does.zero _ _ _
 | succ n =>
  intro R w0 w s r h hr hn
  have IH := hid (ih n (Nat.lt_succ_self n))
  have S0 := hid h
  simp only [run] at hr
  obtain ⟨tk, htk⟩ : ∃ tk, (pTok ts s).kind = tk := ⟨_, rfl⟩
  obtain ⟨tt, htt⟩ : ∃ tt, (pTok ts s).text = tt := ⟨_, rfl⟩
  obtain ⟨tp, htp⟩ : ∃ tp, (pTok ts s).place = tp := ⟨_, rfl⟩
  obtain ⟨bt, hbt⟩ : ∃ bt, bs tt = bt := ⟨_, rfl⟩
  have HK := hid htk
  have HT := hid htt
  have HP := hid htp
  have HBT := hid hbt
  rw [htk, htt] at hr
  have hmem : pTok ts s ∈ ts := by
    unfold pTok
    rw [List.getD, List.getElem?_eq_getElem h.ok.room]
    exact List.getElem_mem _
  have HMEM := hid hmem
  clear htk htt htp hbt hmem
  by_cases he0 : s.e = 0
  · rw [if_neg (by omega)] at hr
    have he : ((s.e : Int) == 0) = true := by rw [he0]; rfl
    have H0 := hid he0
    by_cases k1 : tk = 1
    · rw [if_pos k1] at hr
      simp only [Option.some.injEq] at hr
      subst hr
      obtain ⟨z0, z1, z2⟩ := h.toks.nums _ HMEM.out (by rw [HK.out, k1])
      rw [HT.out] at z0 z1 z2
      have HQ := hid (atoi_of z0 z1 z2)
      have hsz : bt.size ≤ 9223372036854775806 := by
        have h9 := h.toks.short _ HMEM.out
        rw [HT.out] at h9
        rw [← HBT.out]
        show tt.toArray.size ≤ _
        rw [List.size_toArray]; omega
      have HSZ := hid hsz
      have HO := hid (h.ok.goKind h.toks HK.out (by omega))
      have hn2 : s.nodes.length + 1 ≤ 1000000 := by simpa [pPut, pGo] using hn
      have HN := hid (show s.nodes.length ≤ 1000000 by omega)
      have e1 : ((tk : Int) == 1) = true := by rw [k1]; rfl
      clear k1 he0 z0 z1 z2 hsz hn2
      clear h ih hn
      go_enter Tryd.func71, Tryd.ntmps71
      go_wp2_with fail
      refine (S0.out.line rfl).mono ?_
      rintro e w1 ⟨rfl, h1⟩
      have S1 := hid h1
      clear h1
      obtain ⟨hg1, c11, c21, c41, c51, f21, f41⟩ := S1.out.cells
      obtain ⟨hr1, x0, x1, x2⟩ := S1.out.tok
      rw [HK.out] at x0
      rw [HT.out, HBT.out] at x1
      rw [HP.out] at x2
      have n1 := World.new_ne w1 ⟨g, 1, none⟩ c11
      have n2 := World.new_ne w1 ⟨tb, s.i * 3, none⟩ x0
      go_wp2_with fail
      go_region_held3 (fun wx => wx.cell? ⟨g, 1, none⟩ = some (.slice (some ⟨tb, 0, none⟩) ts.length tc) ∧ wx.cell? ⟨g, 2, none⟩ = some (.int .i64 s.i) ∧ wx.cell? ⟨tb, s.i * 3, none⟩ = some (.int .i64 tk) ∧ wx.cell? ⟨tb, s.i * 3 + 1, none⟩ = some (.string bt) ∧ wx.cell? ⟨tb, s.i * 3 + 2, none⟩ = some (.int .i64 tp)) (go_keep) (first | fail)
      have Z2 := hid (S1.out.no (((Fr.refl nob w1).alloc (.cells #[.int .i64 tk, .string bt, .int .i64 tp] 73)).drew))
      have BT := hid (show Blk (w1.alloc (.cells #[.int .i64 tk, .string bt, .int .i64 tp] 73)).drew w1.heap.size 73 #[.int .i64 tk, .string bt, .int .i64 tp] from Blk.new w1 _ _)
      clear hr1 x0 x1 x2 n1 n2 c11 c21 c41 c51 f21 f41 S1 S0
      generalize (w1.alloc (.cells #[.int .i64 tk, .string bt, .int .i64 tp] 73)).drew = w2 at *
      have hgB : g ≠ w1.heap.size := Nat.ne_of_lt hg1
      clear hg1
      generalize w1.heap.size = B at *
      have HGB := hid hgB.symm
      clear hgB
      have S2 := hid Z2.out.here
      obtain ⟨hg2, c12, c22, c42, c52, f22, f42⟩ := S2.out.cells
      have hi2 := S2.out.i_le
      have BT2 := S2.out.fr.blk BT.out HGB.out (by decide)
      have d02 := BT2.cell 0
      have d12 := BT2.cell 1
      simp at d02 d12
      clear BT2
      go_upto_region 7 with (fail)
      have S3 := hid (S2.out.go HO.out)
      clear hg2 c12 c22 c42 c52 f22 f42 hi2 he e1 d02 d12
      generalize w2.setCell ⟨g, 2, none⟩ (.int .i64 ((s.i : Int) + 1)) = w3 at *
      have BT3 := S3.out.fr.blk BT.out HGB.out (by decide)
      have d03 := BT3.cell 0
      have d13 := BT3.cell 1
      simp at d03 d13
      clear BT3
      go_wp2_with (go_at_call 73; go_must (refine (Tryd.strconv_Atoi_ok _ HSZ.out _ (by rw [← HBT.out]; exact HQ.out) _).mono ?_; rintro e w4 ⟨rfl, hw⟩; have F4 := hid (Fr.bytes _ hw); have S4 := hid (S3.out.no F4.out); clear hw))
      refine (S4.out.put0 1 _ (atoiM tt) rfl rfl (name := []) rfl HN.out).mono ?_
      rintro e w5 ⟨rfl, h5⟩
      have S5 := hid h5
      clear h5
      go_wp2_with fail
      go_ret
      exact ⟨rfl, Z2.out.back S5.out⟩
    · rw [if_neg k1] at hr
      have e1 : ((tk : Int) == 1) = false := beq_eq_false_iff_ne.2 (by omega)
      by_cases k2 : tk = 2
      · rw [if_pos k2] at hr
        simp only [Option.some.injEq] at hr
        subst hr
        have HO := hid (h.ok.goKind h.toks HK.out (by omega))
        have hn2 : s.nodes.length + 1 ≤ 1000000 := by simpa [pPut, pGo] using hn
        have HN := hid (show s.nodes.length ≤ 1000000 by omega)
        have e2 : ((tk : Int) == 2) = true := by rw [k2]; rfl
        clear k1 k2 he0 hn2
        clear h ih hn
        go_enter Tryd.func71, Tryd.ntmps71
        go_wp2_with fail
        refine (S0.out.line rfl).mono ?_
        rintro e w1 ⟨rfl, h1⟩
        have S1 := hid h1
        clear h1
        obtain ⟨hg1, c11, c21, c41, c51, f21, f41⟩ := S1.out.cells
        obtain ⟨hr1, x0, x1, x2⟩ := S1.out.tok
        rw [HK.out] at x0
        rw [HT.out, HBT.out] at x1
        rw [HP.out] at x2
        have n1 := World.new_ne w1 ⟨g, 1, none⟩ c11
        have n2 := World.new_ne w1 ⟨tb, s.i * 3, none⟩ x0
        go_wp2_with fail
        go_region_held3 (fun wx => wx.cell? ⟨g, 1, none⟩ = some (.slice (some ⟨tb, 0, none⟩) ts.length tc) ∧ wx.cell? ⟨g, 2, none⟩ = some (.int .i64 s.i) ∧ wx.cell? ⟨tb, s.i * 3, none⟩ = some (.int .i64 tk) ∧ wx.cell? ⟨tb, s.i * 3 + 1, none⟩ = some (.string bt) ∧ wx.cell? ⟨tb, s.i * 3 + 2, none⟩ = some (.int .i64 tp)) (go_keep) (first | fail)
        have Z2 := hid (S1.out.no (((Fr.refl nob w1).alloc (.cells #[.int .i64 tk, .string bt, .int .i64 tp] 73)).drew))
        have BT := hid (show Blk (w1.alloc (.cells #[.int .i64 tk, .string bt, .int .i64 tp] 73)).drew w1.heap.size 73 #[.int .i64 tk, .string bt, .int .i64 tp] from Blk.new w1 _ _)
        clear hr1 x0 x1 x2 n1 n2 c11 c21 c41 c51 f21 f41 S1 S0
        generalize (w1.alloc (.cells #[.int .i64 tk, .string bt, .int .i64 tp] 73)).drew = w2 at *
        have hgB : g ≠ w1.heap.size := Nat.ne_of_lt hg1
        clear hg1
        generalize w1.heap.size = B at *
        have HGB := hid hgB.symm
        clear hgB
        have S2 := hid Z2.out.here
        obtain ⟨hg2, c12, c22, c42, c52, f22, f42⟩ := S2.out.cells
        have hi2 := S2.out.i_le
        have BT2 := S2.out.fr.blk BT.out HGB.out (by decide)
        have d02 := BT2.cell 0
        have d12 := BT2.cell 1
        simp at d02 d12
        clear BT2
        go_upto_region 11 with (fail)
        have S3 := hid (S2.out.go HO.out)
        clear hg2 c12 c22 c42 c52 f22 f42 hi2 he e1 e2 d02 d12
        generalize w2.setCell ⟨g, 2, none⟩ (.int .i64 ((s.i : Int) + 1)) = w3 at *
        have BT3 := S3.out.fr.blk BT.out HGB.out (by decide)
        have d03 := BT3.cell 0
        have d13 := BT3.cell 1
        simp at d03 d13
        clear BT3
        go_wp2_with fail
        refine (S3.out.put0 3 _ 0 rfl rfl (name := tt) HBT.out HN.out).mono ?_
        rintro e w4 ⟨rfl, h4⟩
        have S4 := hid h4
        clear h4
        clear d03 d13
        go_wp2_with fail
        go_ret
        exact ⟨rfl, Z2.out.back S4.out⟩
      · rw [if_neg k2] at hr
        have e2 : ((tk : Int) == 2) = false := beq_eq_false_iff_ne.2 (by omega)
        by_cases k3 : tk = 3
        · rw [if_pos k3] at hr
          have HO := hid (h.ok.goKind h.toks HK.out (by omega))
          have e3 : ((tk : Int) == 3) = true := by rw [k3]; rfl
          clear k1 k2 k3 he0
          by_cases hm : pIs ts [91] (pGo s) = true
          · rw [if_pos hm] at hr
            simp only [Option.map_eq_some_iff] at hr
            obtain ⟨q, hq, rfl⟩ := hr
            have hq1 := run_one _ _ _ _ hq trivial
            have hd := run_deep _ _ _ _ hq
            rw [deep_must, deep_down, deep_go] at hd
            have hdl := h.ok.fine H0.out
            have HDB := hid (show (1 : Int) ≤ ((pMust ts [93] q.2).deep : Int) ∧ ((pMust ts [93] q.2).deep : Int) ≤ 20 by rw [deep_must]; omega)
            have HD := hid (show 1 ≤ (pMust ts [93] q.2).deep by rw [deep_must]; omega)
            have hn2 : (pMust ts [93] q.2).nodes.length + 1 ≤ 1000000 := by simpa [pPut, pUp] using hn
            have HN := hid (show (pMust ts [93] q.2).nodes.length ≤ 1000000 by omega)
            have HN1 := hid (Nat.le_trans (nodes_le ((Ext.refl q.2).must (ts := ts) [93])) HN.out)
            have HM := hid hm
            have HQ := hid hq
            rw [hq1]
            clear hq hq1 hd hdl hn2 hm
            clear h ih hn
            go_enter Tryd.func71, Tryd.ntmps71
            go_wp2_with fail
            refine (S0.out.line rfl).mono ?_
            rintro e w1 ⟨rfl, h1⟩
            have S1 := hid h1
            clear h1
            obtain ⟨hg1, c11, c21, c41, c51, f21, f41⟩ := S1.out.cells
            obtain ⟨hr1, x0, x1, x2⟩ := S1.out.tok
            rw [HK.out] at x0
            rw [HT.out, HBT.out] at x1
            rw [HP.out] at x2
            have n1 := World.new_ne w1 ⟨g, 1, none⟩ c11
            have n2 := World.new_ne w1 ⟨tb, s.i * 3, none⟩ x0
            go_wp2_with fail
            go_region_held3 (fun wx => wx.cell? ⟨g, 1, none⟩ = some (.slice (some ⟨tb, 0, none⟩) ts.length tc) ∧ wx.cell? ⟨g, 2, none⟩ = some (.int .i64 s.i) ∧ wx.cell? ⟨tb, s.i * 3, none⟩ = some (.int .i64 tk) ∧ wx.cell? ⟨tb, s.i * 3 + 1, none⟩ = some (.string bt) ∧ wx.cell? ⟨tb, s.i * 3 + 2, none⟩ = some (.int .i64 tp)) (go_keep) (first | fail)
            have Z2 := hid (S1.out.no (((Fr.refl nob w1).alloc (.cells #[.int .i64 tk, .string bt, .int .i64 tp] 73)).drew))
            have BT := hid (show Blk (w1.alloc (.cells #[.int .i64 tk, .string bt, .int .i64 tp] 73)).drew w1.heap.size 73 #[.int .i64 tk, .string bt, .int .i64 tp] from Blk.new w1 _ _)
            clear hr1 x0 x1 x2 n1 n2 c11 c21 c41 c51 f21 f41 S1 S0
            generalize (w1.alloc (.cells #[.int .i64 tk, .string bt, .int .i64 tp] 73)).drew = w2 at *
            have hgB : g ≠ w1.heap.size := Nat.ne_of_lt hg1
            clear hg1
            generalize w1.heap.size = B at *
            have HGB := hid hgB.symm
            clear hgB
            have S2 := hid Z2.out.here
            obtain ⟨hg2, c12, c22, c42, c52, f22, f42⟩ := S2.out.cells
            have hi2 := S2.out.i_le
            have BT2 := S2.out.fr.blk BT.out HGB.out (by decide)
            have d02 := BT2.cell 0
            have d12 := BT2.cell 1
            simp at d02 d12
            clear BT2
            go_wp2_with fail
            have S3 := hid (S2.out.go HO.out)
            clear hg2 c12 c22 c42 c52 f22 f42 hi2 he e1 e2 e3 d02 d12
            generalize w2.setCell ⟨g, 2, none⟩ (.int .i64 ((s.i : Int) + 1)) = w3 at *
            refine (S3.out.is ⟨#[91]⟩ (b := true) HM.out).mono ?_
            rintro e w4 ⟨rfl, h4⟩
            have S4 := hid h4
            clear h4
            go_wp2_with fail
            refine (S4.out.down H0.out).mono ?_
            rintro e w5 ⟨rfl, h5⟩
            have S5 := hid h5
            clear h5
            go_wp2_with fail
            refine (S5.out.must ⟨#[91]⟩).mono ?_
            rintro e w6 ⟨rfl, h6⟩
            have S6 := hid h6
            clear h6
            go_wp2_with fail
            refine (IH.out.expr _ _ _ _ _ S6.out HQ.out HN1.out).mono ?_
            rintro e w7 ⟨rfl, h7⟩
            have S7 := hid h7
            clear h7
            go_wp2_with fail
            refine (S7.out.must ⟨#[93]⟩).mono ?_
            rintro e w8 ⟨rfl, h8⟩
            have S8 := hid h8
            clear h8
            obtain ⟨hg8, c18, c28, c48, c58, f28, f48⟩ := S8.out.cells
            have hi8 := S8.out.i_le
            obtain ⟨hl8, hu8⟩ := HDB.out
            go_upto_region 22 with (fail)
            have S9 := hid (S8.out.up HD.out)
            have HZ9 := hid (show (w8.setCell ⟨g, 4, none⟩ (.int .i64 (((pMust ts [93] (q.2)).deep : Int) - 1))).heap.size = w8.heap.size by simp)
            clear hg8 c18 c28 c48 c58 f28 f48 hi8 hl8 hu8
            generalize w8.setCell ⟨g, 4, none⟩ (.int .i64 (((pMust ts [93] (q.2)).deep : Int) - 1)) = w9 at *
            have BT9 := S9.out.fr.blk BT.out HGB.out (by decide)
            have d09 := BT9.cell 0
            have d19 := BT9.cell 1
            simp at d09 d19
            clear BT9
            go_wp2_with fail
            refine (S9.out.put1 (oneOf q.1) rfl 5 _ 0 rfl rfl (name := tt) HBT.out HN.out).mono ?_
            rintro e w10 ⟨rfl, h10⟩
            have S10 := hid h10
            clear h10
            clear d09 d19
            go_wp2_with fail
            go_ret
            exact ⟨rfl, Z2.out.back S10.out⟩
          · rw [if_neg hm] at hr
            simp only [Option.some.injEq] at hr
            subst hr
            have hn2 : s.nodes.length + 1 ≤ 1000000 := by simpa [pPut, pGo] using hn
            have HN := hid (show s.nodes.length ≤ 1000000 by omega)
            have HM := hid (show pIs ts [91] (pGo s) = false by simpa using hm)
            clear hn2 hm
            clear h ih hn
            go_enter Tryd.func71, Tryd.ntmps71
            go_wp2_with fail
            refine (S0.out.line rfl).mono ?_
            rintro e w1 ⟨rfl, h1⟩
            have S1 := hid h1
            clear h1
            obtain ⟨hg1, c11, c21, c41, c51, f21, f41⟩ := S1.out.cells
            obtain ⟨hr1, x0, x1, x2⟩ := S1.out.tok
            rw [HK.out] at x0
            rw [HT.out, HBT.out] at x1
            rw [HP.out] at x2
            have n1 := World.new_ne w1 ⟨g, 1, none⟩ c11
            have n2 := World.new_ne w1 ⟨tb, s.i * 3, none⟩ x0
            go_wp2_with fail
            go_region_held3 (fun wx => wx.cell? ⟨g, 1, none⟩ = some (.slice (some ⟨tb, 0, none⟩) ts.length tc) ∧ wx.cell? ⟨g, 2, none⟩ = some (.int .i64 s.i) ∧ wx.cell? ⟨tb, s.i * 3, none⟩ = some (.int .i64 tk) ∧ wx.cell? ⟨tb, s.i * 3 + 1, none⟩ = some (.string bt) ∧ wx.cell? ⟨tb, s.i * 3 + 2, none⟩ = some (.int .i64 tp)) (go_keep) (first | fail)
            have Z2 := hid (S1.out.no (((Fr.refl nob w1).alloc (.cells #[.int .i64 tk, .string bt, .int .i64 tp] 73)).drew))
            have BT := hid (show Blk (w1.alloc (.cells #[.int .i64 tk, .string bt, .int .i64 tp] 73)).drew w1.heap.size 73 #[.int .i64 tk, .string bt, .int .i64 tp] from Blk.new w1 _ _)
            clear hr1 x0 x1 x2 n1 n2 c11 c21 c41 c51 f21 f41 S1 S0
            generalize (w1.alloc (.cells #[.int .i64 tk, .string bt, .int .i64 tp] 73)).drew = w2 at *
            have hgB : g ≠ w1.heap.size := Nat.ne_of_lt hg1
            clear hg1
            generalize w1.heap.size = B at *
            have HGB := hid hgB.symm
            clear hgB
            have S2 := hid Z2.out.here
            obtain ⟨hg2, c12, c22, c42, c52, f22, f42⟩ := S2.out.cells
            have hi2 := S2.out.i_le
            have BT2 := S2.out.fr.blk BT.out HGB.out (by decide)
            have d02 := BT2.cell 0
            have d12 := BT2.cell 1
            simp at d02 d12
            clear BT2
            go_wp2_with fail
            have S3 := hid (S2.out.go HO.out)
            clear hg2 c12 c22 c42 c52 f22 f42 hi2 he e1 e2 e3 d02 d12
            generalize w2.setCell ⟨g, 2, none⟩ (.int .i64 ((s.i : Int) + 1)) = w3 at *
            refine (S3.out.is ⟨#[91]⟩ (b := false) HM.out).mono ?_
            rintro e w4 ⟨rfl, h4⟩
            have S4 := hid h4
            clear h4
            have BT4 := S4.out.fr.blk BT.out HGB.out (by decide)
            have d04 := BT4.cell 0
            have d14 := BT4.cell 1
            simp at d04 d14
            clear BT4
            go_wp2_with fail
            refine (S4.out.put0 4 _ 0 rfl rfl (name := tt) HBT.out HN.out).mono ?_
            rintro e w5 ⟨rfl, h5⟩
            have S5 := hid h5
            clear h5
            clear d04 d14
            go_wp2_with fail
            go_ret
            exact ⟨rfl, Z2.out.back S5.out⟩
        · rw [if_neg k3] at hr
          have e3 : ((tk : Int) == 3) = false := beq_eq_false_iff_ne.2 (by omega)
          clear k1 k2 k3 he0
          by_cases ht : pIs ts [116, 114, 117, 101] s = true
          · rw [if_pos ht] at hr
            simp only [Option.some.injEq] at hr
            subst hr
            have HO := hid (h.ok.goIs h.toks ht)
            have hn2 : s.nodes.length + 1 ≤ 1000000 := by simpa [pPut, pGo] using hn
            have HN := hid (show s.nodes.length ≤ 1000000 by omega)
            have HM := hid ht
            obtain ⟨b, hb⟩ : ∃ b, pIs ts [102, 97, 108, 115, 101] s = b := ⟨_, rfl⟩
            have HB := hid hb
            clear ht hn2 hb
            clear h ih hn
            go_enter Tryd.func71, Tryd.ntmps71
            go_wp2_with fail
            refine (S0.out.line rfl).mono ?_
            rintro e w1 ⟨rfl, h1⟩
            have S1 := hid h1
            clear h1
            obtain ⟨hg1, c11, c21, c41, c51, f21, f41⟩ := S1.out.cells
            obtain ⟨hr1, x0, x1, x2⟩ := S1.out.tok
            rw [HK.out] at x0
            rw [HT.out, HBT.out] at x1
            rw [HP.out] at x2
            have n1 := World.new_ne w1 ⟨g, 1, none⟩ c11
            have n2 := World.new_ne w1 ⟨tb, s.i * 3, none⟩ x0
            go_wp2_with fail
            go_region_held3 (fun wx => wx.cell? ⟨g, 1, none⟩ = some (.slice (some ⟨tb, 0, none⟩) ts.length tc) ∧ wx.cell? ⟨g, 2, none⟩ = some (.int .i64 s.i) ∧ wx.cell? ⟨tb, s.i * 3, none⟩ = some (.int .i64 tk) ∧ wx.cell? ⟨tb, s.i * 3 + 1, none⟩ = some (.string bt) ∧ wx.cell? ⟨tb, s.i * 3 + 2, none⟩ = some (.int .i64 tp)) (go_keep) (first | fail)
            have Z2 := hid (S1.out.no (((Fr.refl nob w1).alloc (.cells #[.int .i64 tk, .string bt, .int .i64 tp] 73)).drew))
            have BT := hid (show Blk (w1.alloc (.cells #[.int .i64 tk, .string bt, .int .i64 tp] 73)).drew w1.heap.size 73 #[.int .i64 tk, .string bt, .int .i64 tp] from Blk.new w1 _ _)
            clear hr1 x0 x1 x2 n1 n2 c11 c21 c41 c51 f21 f41 S1 S0
            generalize (w1.alloc (.cells #[.int .i64 tk, .string bt, .int .i64 tp] 73)).drew = w2 at *
            have hgB : g ≠ w1.heap.size := Nat.ne_of_lt hg1
            clear hg1
            generalize w1.heap.size = B at *
            have HGB := hid hgB.symm
            clear hgB
            have S2 := hid Z2.out.here
            obtain ⟨hg2, c12, c22, c42, c52, f22, f42⟩ := S2.out.cells
            have hi2 := S2.out.i_le
            have BT2 := S2.out.fr.blk BT.out HGB.out (by decide)
            have d02 := BT2.cell 0
            have d12 := BT2.cell 1
            simp at d02 d12
            clear BT2
            go_wp2_with fail
            clear hg2 c12 c22 c42 c52 f22 f42 hi2 he e1 e2 e3 d02 d12
            refine (S2.out.is ⟨#[116, 114, 117, 101]⟩ (b := true) HM.out).mono ?_
            rintro e w3 ⟨rfl, h3⟩
            have S3 := hid h3
            clear h3
            go_wp2_with fail
            refine (S3.out.is ⟨#[102, 97, 108, 115, 101]⟩ (b := b) HB.out).mono ?_
            rintro e w4 ⟨rfl, h4⟩
            have S4 := hid h4
            clear h4
            obtain ⟨hg4, c14, c24, c44, c54, f24, f44⟩ := S4.out.cells
            have hi4 := S4.out.i_le
            go_wp2_with fail
            have HZ5 := hid (show (w4.setCell ⟨g, 2, none⟩ (.int .i64 (((s).i : Int) + 1))).heap.size = w4.heap.size by simp)
            have S5 := hid (S4.out.go HO.out)
            clear hg4 c14 c24 c44 c54 f24 f44 hi4
            generalize w4.setCell ⟨g, 2, none⟩ (.int .i64 (((s).i : Int) + 1)) = w5 at *
            refine (S5.out.put0 2 _ 1 rfl rfl (name := []) rfl HN.out).mono ?_
            rintro e w6 ⟨rfl, h6⟩
            have S6 := hid h6
            clear h6
            go_wp2_with fail
            go_ret
            exact ⟨rfl, Z2.out.back S6.out⟩
          · rw [if_neg ht] at hr
            have HT1 := hid (show pIs ts [116, 114, 117, 101] s = false by simpa using ht)
            clear ht
            by_cases ht : pIs ts [102, 97, 108, 115, 101] s = true
            · rw [if_pos ht] at hr
              simp only [Option.some.injEq] at hr
              subst hr
              have HO := hid (h.ok.goIs h.toks ht)
              have hn2 : s.nodes.length + 1 ≤ 1000000 := by simpa [pPut, pGo] using hn
              have HN := hid (show s.nodes.length ≤ 1000000 by omega)
              have HM := hid ht
              clear ht hn2
              clear h ih hn
              go_enter Tryd.func71, Tryd.ntmps71
              go_wp2_with fail
              refine (S0.out.line rfl).mono ?_
              rintro e w1 ⟨rfl, h1⟩
              have S1 := hid h1
              clear h1
              obtain ⟨hg1, c11, c21, c41, c51, f21, f41⟩ := S1.out.cells
              obtain ⟨hr1, x0, x1, x2⟩ := S1.out.tok
              rw [HK.out] at x0
              rw [HT.out, HBT.out] at x1
              rw [HP.out] at x2
              have n1 := World.new_ne w1 ⟨g, 1, none⟩ c11
              have n2 := World.new_ne w1 ⟨tb, s.i * 3, none⟩ x0
              go_wp2_with fail
              go_region_held3 (fun wx => wx.cell? ⟨g, 1, none⟩ = some (.slice (some ⟨tb, 0, none⟩) ts.length tc) ∧ wx.cell? ⟨g, 2, none⟩ = some (.int .i64 s.i) ∧ wx.cell? ⟨tb, s.i * 3, none⟩ = some (.int .i64 tk) ∧ wx.cell? ⟨tb, s.i * 3 + 1, none⟩ = some (.string bt) ∧ wx.cell? ⟨tb, s.i * 3 + 2, none⟩ = some (.int .i64 tp)) (go_keep) (first | fail)
              have Z2 := hid (S1.out.no (((Fr.refl nob w1).alloc (.cells #[.int .i64 tk, .string bt, .int .i64 tp] 73)).drew))
              have BT := hid (show Blk (w1.alloc (.cells #[.int .i64 tk, .string bt, .int .i64 tp] 73)).drew w1.heap.size 73 #[.int .i64 tk, .string bt, .int .i64 tp] from Blk.new w1 _ _)
              clear hr1 x0 x1 x2 n1 n2 c11 c21 c41 c51 f21 f41 S1 S0
              generalize (w1.alloc (.cells #[.int .i64 tk, .string bt, .int .i64 tp] 73)).drew = w2 at *
              have hgB : g ≠ w1.heap.size := Nat.ne_of_lt hg1
              clear hg1
              generalize w1.heap.size = B at *
              have HGB := hid hgB.symm
              clear hgB
              have S2 := hid Z2.out.here
              obtain ⟨hg2, c12, c22, c42, c52, f22, f42⟩ := S2.out.cells
              have hi2 := S2.out.i_le
              have BT2 := S2.out.fr.blk BT.out HGB.out (by decide)
              have d02 := BT2.cell 0
              have d12 := BT2.cell 1
              simp at d02 d12
              clear BT2
              go_wp2_with fail
              clear hg2 c12 c22 c42 c52 f22 f42 hi2 he e1 e2 e3 d02 d12
              refine (S2.out.is ⟨#[116, 114, 117, 101]⟩ (b := false) HT1.out).mono ?_
              rintro e w3 ⟨rfl, h3⟩
              have S3 := hid h3
              clear h3
              go_wp2_with fail
              refine (S3.out.is ⟨#[102, 97, 108, 115, 101]⟩ (b := true) HM.out).mono ?_
              rintro e w4 ⟨rfl, h4⟩
              have S4 := hid h4
              clear h4
              obtain ⟨hg4, c14, c24, c44, c54, f24, f44⟩ := S4.out.cells
              have hi4 := S4.out.i_le
              go_wp2_with fail
              have HZ5 := hid (show (w4.setCell ⟨g, 2, none⟩ (.int .i64 (((s).i : Int) + 1))).heap.size = w4.heap.size by simp)
              have S5 := hid (S4.out.go HO.out)
              clear hg4 c14 c24 c44 c54 f24 f44 hi4
              generalize w4.setCell ⟨g, 2, none⟩ (.int .i64 (((s).i : Int) + 1)) = w5 at *
              refine (S5.out.put0 2 _ 0 rfl rfl (name := []) rfl HN.out).mono ?_
              rintro e w6 ⟨rfl, h6⟩
              have S6 := hid h6
              clear h6
              go_wp2_with fail
              go_ret
              exact ⟨rfl, Z2.out.back S6.out⟩
            · rw [if_neg ht] at hr
              have HF1 := hid (show pIs ts [102, 97, 108, 115, 101] s = false by simpa using ht)
              clear ht
              by_cases ht : pIs ts [108, 101, 110] s = true
              · rw [if_pos ht] at hr
                have HL := hid ht
                have HO := hid (h.ok.goIs h.toks ht)
                clear ht
                by_cases hm : pIs ts [40] (pGo s) = true
                · rw [if_pos hm] at hr
                  simp only [Option.map_eq_some_iff] at hr
                  obtain ⟨q, hq, rfl⟩ := hr
                  have hq1 := run_one _ _ _ _ hq trivial
                  have hd := run_deep _ _ _ _ hq
                  rw [deep_must, deep_down, deep_go] at hd
                  have hdl := h.ok.fine H0.out
                  have HDB := hid (show (1 : Int) ≤ ((pMust ts [41] q.2).deep : Int) ∧ ((pMust ts [41] q.2).deep : Int) ≤ 20 by rw [deep_must]; omega)
                  have HD := hid (show 1 ≤ (pMust ts [41] q.2).deep by rw [deep_must]; omega)
                  have hn2 : (pMust ts [41] q.2).nodes.length + 1 ≤ 1000000 := by simpa [pPut, pUp] using hn
                  have HN := hid (show (pMust ts [41] q.2).nodes.length ≤ 1000000 by omega)
                  have HN1 := hid (Nat.le_trans (nodes_le ((Ext.refl q.2).must (ts := ts) [41])) HN.out)
                  have HM := hid hm
                  have HQ := hid hq
                  rw [hq1]
                  clear hq hq1 hd hdl hn2 hm
                  clear h ih hn
                  go_enter Tryd.func71, Tryd.ntmps71
                  go_wp2_with fail
                  refine (S0.out.line rfl).mono ?_
                  rintro e w1 ⟨rfl, h1⟩
                  have S1 := hid h1
                  clear h1
                  obtain ⟨hg1, c11, c21, c41, c51, f21, f41⟩ := S1.out.cells
                  obtain ⟨hr1, x0, x1, x2⟩ := S1.out.tok
                  rw [HK.out] at x0
                  rw [HT.out, HBT.out] at x1
                  rw [HP.out] at x2
                  have n1 := World.new_ne w1 ⟨g, 1, none⟩ c11
                  have n2 := World.new_ne w1 ⟨tb, s.i * 3, none⟩ x0
                  go_wp2_with fail
                  go_region_held3 (fun wx => wx.cell? ⟨g, 1, none⟩ = some (.slice (some ⟨tb, 0, none⟩) ts.length tc) ∧ wx.cell? ⟨g, 2, none⟩ = some (.int .i64 s.i) ∧ wx.cell? ⟨tb, s.i * 3, none⟩ = some (.int .i64 tk) ∧ wx.cell? ⟨tb, s.i * 3 + 1, none⟩ = some (.string bt) ∧ wx.cell? ⟨tb, s.i * 3 + 2, none⟩ = some (.int .i64 tp)) (go_keep) (first | fail)
                  have Z2 := hid (S1.out.no (((Fr.refl nob w1).alloc (.cells #[.int .i64 tk, .string bt, .int .i64 tp] 73)).drew))
                  have BT := hid (show Blk (w1.alloc (.cells #[.int .i64 tk, .string bt, .int .i64 tp] 73)).drew w1.heap.size 73 #[.int .i64 tk, .string bt, .int .i64 tp] from Blk.new w1 _ _)
                  clear hr1 x0 x1 x2 n1 n2 c11 c21 c41 c51 f21 f41 S1 S0
                  generalize (w1.alloc (.cells #[.int .i64 tk, .string bt, .int .i64 tp] 73)).drew = w2 at *
                  have hgB : g ≠ w1.heap.size := Nat.ne_of_lt hg1
                  clear hg1
                  generalize w1.heap.size = B at *
                  have HGB := hid hgB.symm
                  clear hgB
                  have S2 := hid Z2.out.here
                  obtain ⟨hg2, c12, c22, c42, c52, f22, f42⟩ := S2.out.cells
                  have hi2 := S2.out.i_le
                  have BT2 := S2.out.fr.blk BT.out HGB.out (by decide)
                  have d02 := BT2.cell 0
                  have d12 := BT2.cell 1
                  simp at d02 d12
                  clear BT2
                  go_wp2_with fail
                  clear hg2 c12 c22 c42 c52 f22 f42 hi2 he e1 e2 e3 d02 d12
                  refine (S2.out.is ⟨#[116, 114, 117, 101]⟩ (b := false) HT1.out).mono ?_
                  rintro e w3 ⟨rfl, h3⟩
                  have S3 := hid h3
                  clear h3
                  go_wp2_with fail
                  refine (S3.out.is ⟨#[102, 97, 108, 115, 101]⟩ (b := false) HF1.out).mono ?_
                  rintro e w4 ⟨rfl, h4⟩
                  have S4 := hid h4
                  clear h4
                  go_wp2_with fail
                  refine (S4.out.is ⟨#[108, 101, 110]⟩ (b := true) HL.out).mono ?_
                  rintro e w5 ⟨rfl, h5⟩
                  have S5 := hid h5
                  clear h5
                  obtain ⟨hg5, c15, c25, c45, c55, f25, f45⟩ := S5.out.cells
                  have hi5 := S5.out.i_le
                  go_wp2_with fail
                  have HZ6 := hid (show (w5.setCell ⟨g, 2, none⟩ (.int .i64 (((s).i : Int) + 1))).heap.size = w5.heap.size by simp)
                  have S6 := hid (S5.out.go HO.out)
                  clear hg5 c15 c25 c45 c55 f25 f45 hi5
                  generalize w5.setCell ⟨g, 2, none⟩ (.int .i64 (((s).i : Int) + 1)) = w6 at *
                  refine (S6.out.is ⟨#[40]⟩ (b := true) HM.out).mono ?_
                  rintro e w7 ⟨rfl, h7⟩
                  have S7 := hid h7
                  clear h7
                  go_wp2_with fail
                  refine (S7.out.down H0.out).mono ?_
                  rintro e w8 ⟨rfl, h8⟩
                  have S8 := hid h8
                  clear h8
                  go_wp2_with fail
                  refine (S8.out.must ⟨#[40]⟩).mono ?_
                  rintro e w9 ⟨rfl, h9⟩
                  have S9 := hid h9
                  clear h9
                  go_wp2_with fail
                  refine (IH.out.expr _ _ _ _ _ S9.out HQ.out HN1.out).mono ?_
                  rintro e w10 ⟨rfl, h10⟩
                  have S10 := hid h10
                  clear h10
                  go_wp2_with fail
                  refine (S10.out.must ⟨#[41]⟩).mono ?_
                  rintro e w11 ⟨rfl, h11⟩
                  have S11 := hid h11
                  clear h11
                  obtain ⟨hg11, c111, c211, c411, c511, f211, f411⟩ := S11.out.cells
                  have hi11 := S11.out.i_le
                  obtain ⟨hl11, hu11⟩ := HDB.out
                  go_wp2_with fail
                  have HZ12 := hid (show (w11.setCell ⟨g, 4, none⟩ (.int .i64 (((pMust ts [41] (q.2)).deep : Int) - 1))).heap.size = w11.heap.size by simp)
                  have S12 := hid (S11.out.up HD.out)
                  clear hg11 c111 c211 c411 c511 f211 f411 hi11 hl11 hu11
                  generalize w11.setCell ⟨g, 4, none⟩ (.int .i64 (((pMust ts [41] (q.2)).deep : Int) - 1)) = w12 at *
                  refine (S12.out.put1 (oneOf q.1) HZ12.out 6 _ 0 rfl rfl (name := []) rfl HN.out).mono ?_
                  rintro e w13 ⟨rfl, h13⟩
                  have S13 := hid h13
                  clear h13
                  go_wp2_with fail
                  go_ret
                  exact ⟨rfl, Z2.out.back S13.out⟩
                · rw [if_neg hm] at hr
                  simp only [Option.some.injEq] at hr
                  subst hr
                  have HM := hid (show pIs ts [40] (pGo s) = false by simpa using hm)
                  clear hm
                  clear h ih hn
                  go_enter Tryd.func71, Tryd.ntmps71
                  go_wp2_with fail
                  refine (S0.out.line rfl).mono ?_
                  rintro e w1 ⟨rfl, h1⟩
                  have S1 := hid h1
                  clear h1
                  obtain ⟨hg1, c11, c21, c41, c51, f21, f41⟩ := S1.out.cells
                  obtain ⟨hr1, x0, x1, x2⟩ := S1.out.tok
                  rw [HK.out] at x0
                  rw [HT.out, HBT.out] at x1
                  rw [HP.out] at x2
                  have n1 := World.new_ne w1 ⟨g, 1, none⟩ c11
                  have n2 := World.new_ne w1 ⟨tb, s.i * 3, none⟩ x0
                  go_wp2_with fail
                  go_region_held3 (fun wx => wx.cell? ⟨g, 1, none⟩ = some (.slice (some ⟨tb, 0, none⟩) ts.length tc) ∧ wx.cell? ⟨g, 2, none⟩ = some (.int .i64 s.i) ∧ wx.cell? ⟨tb, s.i * 3, none⟩ = some (.int .i64 tk) ∧ wx.cell? ⟨tb, s.i * 3 + 1, none⟩ = some (.string bt) ∧ wx.cell? ⟨tb, s.i * 3 + 2, none⟩ = some (.int .i64 tp)) (go_keep) (first | fail)
                  have Z2 := hid (S1.out.no (((Fr.refl nob w1).alloc (.cells #[.int .i64 tk, .string bt, .int .i64 tp] 73)).drew))
                  have BT := hid (show Blk (w1.alloc (.cells #[.int .i64 tk, .string bt, .int .i64 tp] 73)).drew w1.heap.size 73 #[.int .i64 tk, .string bt, .int .i64 tp] from Blk.new w1 _ _)
                  clear hr1 x0 x1 x2 n1 n2 c11 c21 c41 c51 f21 f41 S1 S0
                  generalize (w1.alloc (.cells #[.int .i64 tk, .string bt, .int .i64 tp] 73)).drew = w2 at *
                  have hgB : g ≠ w1.heap.size := Nat.ne_of_lt hg1
                  clear hg1
                  generalize w1.heap.size = B at *
                  have HGB := hid hgB.symm
                  clear hgB
                  have S2 := hid Z2.out.here
                  obtain ⟨hg2, c12, c22, c42, c52, f22, f42⟩ := S2.out.cells
                  have hi2 := S2.out.i_le
                  have BT2 := S2.out.fr.blk BT.out HGB.out (by decide)
                  have d02 := BT2.cell 0
                  have d12 := BT2.cell 1
                  simp at d02 d12
                  clear BT2
                  go_wp2_with fail
                  clear hg2 c12 c22 c42 c52 f22 f42 hi2 he e1 e2 e3 d02 d12
                  refine (S2.out.is ⟨#[116, 114, 117, 101]⟩ (b := false) HT1.out).mono ?_
                  rintro e w3 ⟨rfl, h3⟩
                  have S3 := hid h3
                  clear h3
                  go_wp2_with fail
                  refine (S3.out.is ⟨#[102, 97, 108, 115, 101]⟩ (b := false) HF1.out).mono ?_
                  rintro e w4 ⟨rfl, h4⟩
                  have S4 := hid h4
                  clear h4
                  go_wp2_with fail
                  refine (S4.out.is ⟨#[108, 101, 110]⟩ (b := true) HL.out).mono ?_
                  rintro e w5 ⟨rfl, h5⟩
                  have S5 := hid h5
                  clear h5
                  obtain ⟨hg5, c15, c25, c45, c55, f25, f45⟩ := S5.out.cells
                  have hi5 := S5.out.i_le
                  go_wp2_with fail
                  have HZ6 := hid (show (w5.setCell ⟨g, 2, none⟩ (.int .i64 (((s).i : Int) + 1))).heap.size = w5.heap.size by simp)
                  have S6 := hid (S5.out.go HO.out)
                  clear hg5 c15 c25 c45 c55 f25 f45 hi5
                  generalize w5.setCell ⟨g, 2, none⟩ (.int .i64 (((s).i : Int) + 1)) = w6 at *
                  refine (S6.out.is ⟨#[40]⟩ (b := false) HM.out).mono ?_
                  rintro e w7 ⟨rfl, h7⟩
                  have S7 := hid h7
                  clear h7
                  go_wp2_with fail
                  refine (S7.out.fails 20 (by decide) (by decide)).mono ?_
                  rintro e w8 ⟨rfl, h8⟩
                  have S8 := hid h8
                  clear h8
                  go_wp2_with fail
                  go_ret
                  exact ⟨rfl, Z2.out.back S8.out⟩
              · rw [if_neg ht] at hr
                have HL := hid (show pIs ts [108, 101, 110] s = false by simpa using ht)
                clear ht
                by_cases hm : pIs ts [40] s = true
                · rw [if_pos hm] at hr
                  simp only [Option.map_eq_some_iff] at hr
                  obtain ⟨q, hq, rfl⟩ := hr
                  have hd := run_deep _ _ _ _ hq
                  rw [deep_must, deep_down] at hd
                  have hdl := h.ok.fine H0.out
                  have HDB := hid (show (1 : Int) ≤ ((pMust ts [41] q.2).deep : Int) ∧ ((pMust ts [41] q.2).deep : Int) ≤ 20 by rw [deep_must]; omega)
                  have HD := hid (show 1 ≤ (pMust ts [41] q.2).deep by rw [deep_must]; omega)
                  have HN := hid (show (pMust ts [41] q.2).nodes.length ≤ 1000000 by simpa [pUp] using hn)
                  have HN1 := hid (Nat.le_trans (nodes_le ((Ext.refl q.2).must (ts := ts) [41])) HN.out)
                  have HM := hid hm
                  have HQ := hid hq
                  clear hq hd hdl hm
                  clear h ih hn
                  go_enter Tryd.func71, Tryd.ntmps71
                  go_wp2_with fail
                  refine (S0.out.line rfl).mono ?_
                  rintro e w1 ⟨rfl, h1⟩
                  have S1 := hid h1
                  clear h1
                  obtain ⟨hg1, c11, c21, c41, c51, f21, f41⟩ := S1.out.cells
                  obtain ⟨hr1, x0, x1, x2⟩ := S1.out.tok
                  rw [HK.out] at x0
                  rw [HT.out, HBT.out] at x1
                  rw [HP.out] at x2
                  have n1 := World.new_ne w1 ⟨g, 1, none⟩ c11
                  have n2 := World.new_ne w1 ⟨tb, s.i * 3, none⟩ x0
                  go_wp2_with fail
                  go_region_held3 (fun wx => wx.cell? ⟨g, 1, none⟩ = some (.slice (some ⟨tb, 0, none⟩) ts.length tc) ∧ wx.cell? ⟨g, 2, none⟩ = some (.int .i64 s.i) ∧ wx.cell? ⟨tb, s.i * 3, none⟩ = some (.int .i64 tk) ∧ wx.cell? ⟨tb, s.i * 3 + 1, none⟩ = some (.string bt) ∧ wx.cell? ⟨tb, s.i * 3 + 2, none⟩ = some (.int .i64 tp)) (go_keep) (first | fail)
                  have Z2 := hid (S1.out.no (((Fr.refl nob w1).alloc (.cells #[.int .i64 tk, .string bt, .int .i64 tp] 73)).drew))
                  have BT := hid (show Blk (w1.alloc (.cells #[.int .i64 tk, .string bt, .int .i64 tp] 73)).drew w1.heap.size 73 #[.int .i64 tk, .string bt, .int .i64 tp] from Blk.new w1 _ _)
                  clear hr1 x0 x1 x2 n1 n2 c11 c21 c41 c51 f21 f41 S1 S0
                  generalize (w1.alloc (.cells #[.int .i64 tk, .string bt, .int .i64 tp] 73)).drew = w2 at *
                  have hgB : g ≠ w1.heap.size := Nat.ne_of_lt hg1
                  clear hg1
                  generalize w1.heap.size = B at *
                  have HGB := hid hgB.symm
                  clear hgB
                  have S2 := hid Z2.out.here
                  obtain ⟨hg2, c12, c22, c42, c52, f22, f42⟩ := S2.out.cells
                  have hi2 := S2.out.i_le
                  have BT2 := S2.out.fr.blk BT.out HGB.out (by decide)
                  have d02 := BT2.cell 0
                  have d12 := BT2.cell 1
                  simp at d02 d12
                  clear BT2
                  go_wp2_with fail
                  clear hg2 c12 c22 c42 c52 f22 f42 hi2 he e1 e2 e3 d02 d12
                  refine (S2.out.is ⟨#[116, 114, 117, 101]⟩ (b := false) HT1.out).mono ?_
                  rintro e w3 ⟨rfl, h3⟩
                  have S3 := hid h3
                  clear h3
                  go_wp2_with fail
                  refine (S3.out.is ⟨#[102, 97, 108, 115, 101]⟩ (b := false) HF1.out).mono ?_
                  rintro e w4 ⟨rfl, h4⟩
                  have S4 := hid h4
                  clear h4
                  go_wp2_with fail
                  refine (S4.out.is ⟨#[108, 101, 110]⟩ (b := false) HL.out).mono ?_
                  rintro e w5 ⟨rfl, h5⟩
                  have S5 := hid h5
                  clear h5
                  go_wp2_with fail
                  refine (S5.out.is ⟨#[40]⟩ (b := true) HM.out).mono ?_
                  rintro e w6 ⟨rfl, h6⟩
                  have S6 := hid h6
                  clear h6
                  go_wp2_with fail
                  refine (S6.out.down H0.out).mono ?_
                  rintro e w7 ⟨rfl, h7⟩
                  have S7 := hid h7
                  clear h7
                  go_wp2_with fail
                  refine (S7.out.must ⟨#[40]⟩).mono ?_
                  rintro e w8 ⟨rfl, h8⟩
                  have S8 := hid h8
                  clear h8
                  go_wp2_with fail
                  refine (IH.out.expr _ _ _ _ _ S8.out HQ.out HN1.out).mono ?_
                  rintro e w9 ⟨rfl, h9⟩
                  have S9 := hid h9
                  clear h9
                  go_wp2_with fail
                  refine (S9.out.must ⟨#[41]⟩).mono ?_
                  rintro e w10 ⟨rfl, h10⟩
                  have S10 := hid h10
                  clear h10
                  obtain ⟨hg10, c110, c210, c410, c510, f210, f410⟩ := S10.out.cells
                  have hi10 := S10.out.i_le
                  obtain ⟨hl10, hu10⟩ := HDB.out
                  go_wp2_with fail
                  have HZ11 := hid (show (w10.setCell ⟨g, 4, none⟩ (.int .i64 (((pMust ts [41] (q.2)).deep : Int) - 1))).heap.size = w10.heap.size by simp)
                  have S11 := hid (S10.out.up HD.out)
                  clear hg10 c110 c210 c410 c510 f210 f410 hi10 hl10 hu10
                  generalize w10.setCell ⟨g, 4, none⟩ (.int .i64 (((pMust ts [41] (q.2)).deep : Int) - 1)) = w11 at *
                  go_ret
                  exact ⟨rfl, Z2.out.back S11.out⟩
                · rw [if_neg hm] at hr
                  simp only [Option.some.injEq] at hr
                  subst hr
                  have HM := hid (show pIs ts [40] s = false by simpa using hm)
                  clear hm
                  clear h ih hn
                  go_enter Tryd.func71, Tryd.ntmps71
                  go_wp2_with fail
                  refine (S0.out.line rfl).mono ?_
                  rintro e w1 ⟨rfl, h1⟩
                  have S1 := hid h1
                  clear h1
                  obtain ⟨hg1, c11, c21, c41, c51, f21, f41⟩ := S1.out.cells
                  obtain ⟨hr1, x0, x1, x2⟩ := S1.out.tok
                  rw [HK.out] at x0
                  rw [HT.out, HBT.out] at x1
                  rw [HP.out] at x2
                  have n1 := World.new_ne w1 ⟨g, 1, none⟩ c11
                  have n2 := World.new_ne w1 ⟨tb, s.i * 3, none⟩ x0
                  go_wp2_with fail
                  go_region_held3 (fun wx => wx.cell? ⟨g, 1, none⟩ = some (.slice (some ⟨tb, 0, none⟩) ts.length tc) ∧ wx.cell? ⟨g, 2, none⟩ = some (.int .i64 s.i) ∧ wx.cell? ⟨tb, s.i * 3, none⟩ = some (.int .i64 tk) ∧ wx.cell? ⟨tb, s.i * 3 + 1, none⟩ = some (.string bt) ∧ wx.cell? ⟨tb, s.i * 3 + 2, none⟩ = some (.int .i64 tp)) (go_keep) (first | fail)
                  have Z2 := hid (S1.out.no (((Fr.refl nob w1).alloc (.cells #[.int .i64 tk, .string bt, .int .i64 tp] 73)).drew))
                  have BT := hid (show Blk (w1.alloc (.cells #[.int .i64 tk, .string bt, .int .i64 tp] 73)).drew w1.heap.size 73 #[.int .i64 tk, .string bt, .int .i64 tp] from Blk.new w1 _ _)
                  clear hr1 x0 x1 x2 n1 n2 c11 c21 c41 c51 f21 f41 S1 S0
                  generalize (w1.alloc (.cells #[.int .i64 tk, .string bt, .int .i64 tp] 73)).drew = w2 at *
                  have hgB : g ≠ w1.heap.size := Nat.ne_of_lt hg1
                  clear hg1
                  generalize w1.heap.size = B at *
                  have HGB := hid hgB.symm
                  clear hgB
                  have S2 := hid Z2.out.here
                  obtain ⟨hg2, c12, c22, c42, c52, f22, f42⟩ := S2.out.cells
                  have hi2 := S2.out.i_le
                  have BT2 := S2.out.fr.blk BT.out HGB.out (by decide)
                  have d02 := BT2.cell 0
                  have d12 := BT2.cell 1
                  simp at d02 d12
                  clear BT2
                  go_wp2_with fail
                  clear hg2 c12 c22 c42 c52 f22 f42 hi2 he e1 e2 e3 d02 d12
                  refine (S2.out.is ⟨#[116, 114, 117, 101]⟩ (b := false) HT1.out).mono ?_
                  rintro e w3 ⟨rfl, h3⟩
                  have S3 := hid h3
                  clear h3
                  go_wp2_with fail
                  refine (S3.out.is ⟨#[102, 97, 108, 115, 101]⟩ (b := false) HF1.out).mono ?_
                  rintro e w4 ⟨rfl, h4⟩
                  have S4 := hid h4
                  clear h4
                  go_wp2_with fail
                  refine (S4.out.is ⟨#[108, 101, 110]⟩ (b := false) HL.out).mono ?_
                  rintro e w5 ⟨rfl, h5⟩
                  have S5 := hid h5
                  clear h5
                  go_wp2_with fail
                  refine (S5.out.is ⟨#[40]⟩ (b := false) HM.out).mono ?_
                  rintro e w6 ⟨rfl, h6⟩
                  have S6 := hid h6
                  clear h6
                  go_wp2_with fail
                  refine (S6.out.fails 20 (by decide) (by decide)).mono ?_
                  rintro e w7 ⟨rfl, h7⟩
                  have S7 := hid h7
                  clear h7
                  go_wp2_with fail
                  go_ret
                  exact ⟨rfl, Z2.out.back S7.out⟩
  · rw [if_pos he0] at hr
    simp only [Option.some.injEq] at hr
    subst hr
    have he : ((s.e : Int) == 0) = false := beq_eq_false_iff_ne.2 (by omega)
    clear he0
    clear h ih hn
    go_enter Tryd.func71, Tryd.ntmps71
    go_wp2_with fail
    refine (S0.out.line rfl).mono ?_
    rintro e w1 ⟨rfl, h1⟩
    have S1 := hid h1
    clear h1
    obtain ⟨hg1, c11, c21, c41, c51, f21, f41⟩ := S1.out.cells
    obtain ⟨hr1, x0, x1, x2⟩ := S1.out.tok
    rw [HK.out] at x0
    rw [HT.out, HBT.out] at x1
    rw [HP.out] at x2
    have n1 := World.new_ne w1 ⟨g, 1, none⟩ c11
    have n2 := World.new_ne w1 ⟨tb, s.i * 3, none⟩ x0
    go_wp2_with fail
    go_region_held3 (fun wx => wx.cell? ⟨g, 1, none⟩ = some (.slice (some ⟨tb, 0, none⟩) ts.length tc) ∧ wx.cell? ⟨g, 2, none⟩ = some (.int .i64 s.i) ∧ wx.cell? ⟨tb, s.i * 3, none⟩ = some (.int .i64 tk) ∧ wx.cell? ⟨tb, s.i * 3 + 1, none⟩ = some (.string bt) ∧ wx.cell? ⟨tb, s.i * 3 + 2, none⟩ = some (.int .i64 tp)) (go_keep) (first | fail)
    have Z2 := hid (S1.out.no (((Fr.refl nob w1).alloc (.cells #[.int .i64 tk, .string bt, .int .i64 tp] 73)).drew))
    have BT := hid (show Blk (w1.alloc (.cells #[.int .i64 tk, .string bt, .int .i64 tp] 73)).drew w1.heap.size 73 #[.int .i64 tk, .string bt, .int .i64 tp] from Blk.new w1 _ _)
    clear hr1 x0 x1 x2 n1 n2 c11 c21 c41 c51 f21 f41 S1 S0
    generalize (w1.alloc (.cells #[.int .i64 tk, .string bt, .int .i64 tp] 73)).drew = w2 at *
    have hgB : g ≠ w1.heap.size := Nat.ne_of_lt hg1
    clear hg1
    generalize w1.heap.size = B at *
    have HGB := hid hgB.symm
    clear hgB
    have S2 := hid Z2.out.here
    obtain ⟨hg2, c12, c22, c42, c52, f22, f42⟩ := S2.out.cells
    have hi2 := S2.out.i_le
    go_wp2_with fail
    go_ret
    exact ⟨rfl, Z2.out.back S2.out⟩
theorem good_all : ∀ n, Good src tb tc ts g n := by
 intro n
 induction n using Nat.strongRecOn with
 | _ n ih =>
  have hc := fun (lv : Nat) (z : Int) (hz : ((lv : Nat) : Int) = z) (hl : lv ≤ 5) => chain_good ih lv z hz hl
  exact ⟨atom_good ih, factor_good ih, hc, expr_good hc, call_good ih, right_good ih, block_good ih, fun line => named_good ih line, stmt_good ih⟩
end
theorem TyParam : SlTy Tryd.prog 41 80 2 24 (.agg #[.string ⟨#[]⟩, .int .i64 0]) := SlTy.mk' (by kernel_rfl) (by kernel_rfl) rfl (by decide)
def paramCells (l : List (List UInt8 × Nat)) : List Value := l.flatMap fun p => [.string (bs p.1), .int .i64 (p.2 : Nat)]
def farTy (t : TypeId) : Bool := t != 61 && t != 49 && t != 3 && t != 73
section
variable {src : ByteArray} {tb tc : Nat} {ts : List Tok} {g : Nat} {R : Nat → Prop} {w0 w w1 w' : World} {s : PS}
theorem ty_ne {w : World} {k : Nat} {t t' : TypeId} {cs cs' : Array Value} (h : Blk w k t cs) (h' : Blk w k t' cs') (hne : t ≠ t') : False := h.ne h' hne rfl
theorem St.other (h : St src tb tc ts g R w0 w s) {M : Nat → Prop} (f : Fr M w w') (hM : ∀ k, M k → w0.heap.size ≤ k ∧ ∃ t cs, Blk w k t cs ∧ farTy t = true) : St src tb tc ts g R w0 w' s := by
 obtain ⟨lvs, hr, hnr⟩ := h.rdr
 obtain ⟨nv, hb, hon⟩ := hr.cells
 obtain ⟨b0, ht⟩ := hr.toks
 have far : ∀ (k : Nat) (t : TypeId) (cs : Array Value), Blk w k t cs → farTy t = false → ¬ M k := fun k t cs hk hf hm => by
  obtain ⟨_, t', cs', hb', hf'⟩ := hM _ hm
  by_cases e : t = t'
  · rw [e, hf'] at hf; cases hf
  · exact ty_ne hk hb' e
 have farO : ∀ {e size n : Nat} {v : Value} {xs : List Value}, Own w e size v n xs → farTy e = false → ∀ k, blk v = some k → ¬ M k := fun ho hf k hk => by
  obtain ⟨cs, hc⟩ := ho.ty hk
  exact far _ _ _ hc hf
 have hbel : ∀ {ns : List NodeM} {vs : List Value}, Below2 w ns vs → Below2 w' ns vs := by
  intro ns
  induction ns with
  | nil => intro vs hb; cases vs with
    | nil => trivial
    | cons _ _ => exact hb.elim
  | cons n ns ih => intro vs hb; cases vs with
    | nil => exact hb.elim
    | cons u vs => exact ⟨hb.1.fr f (farO hb.1 (by decide)), ih hb.2⟩
 refine ⟨⟨lvs, ⟨⟨nv, hb.fr f (far _ _ _ hb (by decide)), hon.fr f (farO hon (by decide))⟩, hbel hr.below, hr.same, ⟨b0, ht.own.fr f (farO ht.own (by decide)), ht.new⟩, fun nv2 h1 => hr.newer nv2 (by rw [← f.cell (p := ⟨g, 3, none⟩) hb.lt (far _ _ _ hb (by decide))]; exact h1)⟩, hnr⟩, fun k hk => Nat.lt_of_lt_of_le (h.res k hk) f.size, h.ok, h.toks, h.long, ?_⟩
 refine Fr.trans h.fr f (fun _ _ x => x) (fun k hk hm => ?_)
 have := (hM k hm).1
 omega
end
theorem Fr.five (w : World) (T : Nat) (a b c d e : Value) : Fr (oneb T) w (((((w.setCell ⟨T, 0, none⟩ a).setCell ⟨T, 1, none⟩ b).setCell ⟨T, 2, none⟩ c).setCell ⟨T, 3, none⟩ d).setCell ⟨T, 4, none⟩ e) := by
 have h1 : Fr (oneb T) w (w.setCell ⟨T, 0, none⟩ a) := (Fr.refl _ _).setCell _ _ (fun _ => rfl)
 have h2 := h1.setCell ⟨T, 1, none⟩ b (fun _ => rfl)
 have h3 := h2.setCell ⟨T, 2, none⟩ c (fun _ => rfl)
 have h4 := h3.setCell ⟨T, 3, none⟩ d (fun _ => rfl)
 exact h4.setCell ⟨T, 4, none⟩ e (fun _ => rfl)
structure FSt (src : ByteArray) (tb tc : Nat) (ts : List Tok) (g : Nat) (R : Nat → Prop) (w0 : World) (T F : Nat) (w : World) (s : PS) (name : ByteArray) (line : Nat) (pv : Value) (acc : List (List UInt8 × Nat)) (ret body : Nat) : Prop where
 st : St src tb tc ts g R w0 w s
 bt : Blk w T 43 #[.string ⟨#[]⟩, .int .i64 0, .slice none 0 0, .int .i64 0, .int .i64 0]
 bf : Blk w F 43 #[.string name, .int .i64 line, pv, .int .i64 ret, .int .i64 body]
 ht : w0.heap.size ≤ T
 hf : w0.heap.size ≤ F
 ne : T ≠ F
 own : Own w 80 2 pv acc.length (paramCells acc)
 new : ∀ k, blk pv = some k → w0.heap.size ≤ k
section
variable {src : ByteArray} {tb tc : Nat} {ts : List Tok} {g : Nat} {R : Nat → Prop} {w0 w w1 w' : World} {s : PS} {T F : Nat} {name : ByteArray} {line : Nat} {pv : Value} {acc : List (List UInt8 × Nat)} {ret body : Nat}
theorem St.g_blk (h : St src tb tc ts g R w0 w s) : ∃ cs, Blk w g 61 cs := by
 obtain ⟨lvs, hr, _⟩ := h.rdr
 obtain ⟨nv, hb⟩ := hr.blk
 exact ⟨_, hb⟩
theorem FSt.to (h : FSt src tb tc ts g R w0 T F w s name line pv acc ret body) {s' : PS} (h' : St src tb tc ts g R w w' s') : FSt src tb tc ts g R w0 T F w' s' name line pv acc ret body := by
 obtain ⟨cs, hb⟩ := h.st.g_blk
 exact ⟨h.st.back h', h'.fr.blk h.bt (h.bt.ne hb (by decide)) (by decide), h'.fr.blk h.bf (h.bf.ne hb (by decide)) (by decide), h.ht, h.hf, h.ne, h.own.frR hb (by decide) (by decide) h'.fr, h.new⟩
theorem FSt.step (h : FSt src tb tc ts g R w0 T F w s name line pv acc ret body) {f : FuncId} {args : Array Value} {E : Ending → Prop} {s' : PS} (c : Calls Tryd.prog f args w fun e w' => E e ∧ St src tb tc ts g R w w' s') :
  Calls Tryd.prog f args w fun e w' => E e ∧ FSt src tb tc ts g R w0 T F w' s' name line pv acc ret body :=
 c.mono fun e w' ⟨he, h'⟩ => ⟨he, h.to h'⟩
theorem FSt.here (h : FSt src tb tc ts g R w0 T F w s name line pv acc ret body) : St src tb tc ts g R w w s := h.st.here
theorem FSt.stF (h : FSt src tb tc ts g R w0 T F w s name line pv acc ret body) (j : Nat) (u : Value) : St src tb tc ts g R w0 (w.setCell ⟨F, j, none⟩ u) s :=
 h.st.other (M := oneb F) ((Fr.refl _ w).setCell _ _ (fun _ => rfl)) (fun k hk => by rw [show k = F from hk]; exact ⟨h.hf, _, _, h.bf, by decide⟩)
theorem FSt.ownF (h : FSt src tb tc ts g R w0 T F w s name line pv acc ret body) (j : Nat) (u : Value) : Own (w.setCell ⟨F, j, none⟩ u) 80 2 pv acc.length (paramCells acc) :=
 h.own.far (p := ⟨F, j, none⟩) (h.own.blk_ne h.bf (by decide)) u
theorem FSt.setName (h : FSt src tb tc ts g R w0 T F w s name line pv acc ret body) (x : ByteArray) : FSt src tb tc ts g R w0 T F (w.setCell ⟨F, 0, none⟩ (.string x)) s x line pv acc ret body :=
 ⟨h.stF _ _, h.bt.far (p := ⟨F, 0, none⟩) h.ne _, h.bf.setCell 0 _, h.ht, h.hf, h.ne, h.ownF _ _, h.new⟩
theorem FSt.setRet (h : FSt src tb tc ts g R w0 T F w s name line pv acc ret body) (x : Nat) : FSt src tb tc ts g R w0 T F (w.setCell ⟨F, 3, none⟩ (.int .i64 (x : Nat))) s name line pv acc x body :=
 ⟨h.stF _ _, h.bt.far (p := ⟨F, 3, none⟩) h.ne _, h.bf.setCell 3 _, h.ht, h.hf, h.ne, h.ownF _ _, h.new⟩
theorem FSt.setBody (h : FSt src tb tc ts g R w0 T F w s name line pv acc ret body) (x : Nat) : FSt src tb tc ts g R w0 T F (w.setCell ⟨F, 4, none⟩ (.int .i64 (x : Nat))) s name line pv acc ret x :=
 ⟨h.stF _ _, h.bt.far (p := ⟨F, 4, none⟩) h.ne _, h.bf.setCell 4 _, h.ht, h.hf, h.ne, h.ownF _ _, h.new⟩
theorem FSt.app (h : FSt src tb tc ts g R w0 T F w s name line pv acc ret body) {o : Obj} {v' : Value} {x : List UInt8} {t : Nat}
   (ho : Own w' 80 2 v' (acc.length + 1) (paramCells acc ++ [.string (bs x), .int .i64 (t : Nat)])) (hfr : Fr (obl (blk pv)) (w.alloc o) w') (hv : blk v' = blk pv ∨ blk v' = some (w.alloc o).heap.size) :
   FSt src tb tc ts g R w0 T F (w'.setCell ⟨F, 2, none⟩ v') s name line v' (acc ++ [(x, t)]) ret body := by
 have h1 := h.st.alloc o
 have hown := h.own.alloc o
 have hbf := h.bf.alloc o
 have hbt := h.bt.alloc o
 have h2 : St src tb tc ts g R w0 w' s := h1.other (M := obl (blk pv)) hfr (fun k hk => by
   obtain ⟨cs, hc⟩ := hown.ty (k := k) hk
   exact ⟨h.new k hk, _, _, hc, by decide⟩)
 have hbf2 := hbf.fr hfr (fun hm => hown.blk_ne hbf (by decide) hm)
 have hbt2 := hbt.fr hfr (fun hm => hown.blk_ne hbt (by decide) hm)
 have h3 : Own w' 80 2 v' (acc ++ [(x, t)]).length (paramCells (acc ++ [(x, t)])) := by
   rw [List.length_append]
   unfold paramCells at ho ⊢
   rw [List.flatMap_append]
   exact ho
 refine ⟨h2.other (M := oneb F) ((Fr.refl _ w').setCell _ _ (fun _ => rfl)) (fun k hk => by rw [show k = F from hk]; exact ⟨h.hf, _, _, hbf2, by decide⟩), hbt2.far (p := ⟨F, 2, none⟩) h.ne _, hbf2.setCell 2 _, h.ht, h.hf, h.ne, h3.far (p := ⟨F, 2, none⟩) (h3.blk_ne hbf2 (by decide)) _, fun k hk => ?_⟩
 rcases hv with e | e
 · rw [e] at hk; exact h.new k hk
 · rw [e] at hk; injection hk with hk
   have := h1.fr.size; omega
theorem FSt.cells (h : FSt src tb tc ts g R w0 T F w s name line pv acc ret body) (j : Nat) : w.cell? ⟨F, j, none⟩ = (#[.string name, .int .i64 line, pv, .int .i64 ret, .int .i64 body] : Array Value)[j]? ∧ w.frozen? ⟨F, j, none⟩ = false ∧ F < w.heap.size :=
 ⟨h.bf.cell j, h.bf.frozen j, h.bf.lt⟩
theorem FSt.start (h : St src tb tc ts g R w0 w s) (hT : Blk w T 43 #[.string ⟨#[]⟩, .int .i64 0, .slice none 0 0, .int .i64 0, .int .i64 0]) (hw : w0.heap.size ≤ T) :
  FSt src tb tc ts g R w0 T w.heap.size (w.alloc (.cells #[.string ⟨#[]⟩, .int .i64 line, .slice none 0 0, .int .i64 0, .int .i64 0] 43)) s ⟨#[]⟩ line (.slice none 0 0) [] 0 0 :=
 ⟨h.alloc _, hT.alloc _, Blk.new w _ _, hw, h.fr.size, Nat.ne_of_lt hT.lt, Own.nil _ _ _, fun k hk => by simp [blk] at hk⟩
def FuncV (w0 : World) (f : FuncM) (e : Ending) (w' : World) : Prop := ∃ pv, e = .returned (.agg #[.string (bs f.name), .int .i64 f.line, pv, .int .i64 f.ret, .int .i64 f.body]) ∧ Own w' 80 2 pv f.params.length (paramCells f.params) ∧ ∀ k, blk pv = some k → w0.heap.size ≤ k
def ParamsAt (ts : List Tok) (k : Nat) (acc : List (List UInt8 × Nat)) (s : PS) (p : List (List UInt8 × Nat) × PS) : Bool → Prop
 | true => runParams ts k acc s = some p
 | false => p = (acc, s)
end
section
variable {src : ByteArray} {tb tc : Nat} {ts : List Tok} {g : Nat} {n : Nat}
theorem params_ext : ∀ (n : Nat) (acc : List (List UInt8 × Nat)) (s : PS) (p : List (List UInt8 × Nat) × PS), runParams ts n acc s = some p → Ext s p.2
 | 0, _, _, _, h => by simp [runParams] at h
 | n + 1, acc, s, p, h => by
  simp only [runParams] at h
  split at h
  · exact (((Ext.refl s).named (ts := ts)).typed (ts := ts)).go.trans (params_ext n _ _ _ h)
  · simp only [Option.some.injEq] at h
    subst h
    exact ((Ext.refl s).named (ts := ts)).typed (ts := ts)
set_option maxHeartbeats 1600000 in
set_option maxRecDepth 100000 in
theorem func_any (GD : Good src tb tc ts g n) {R : Nat → Prop} {w0 w : World} {s : PS} {fs : FuncM × PS} (h : St src tb tc ts g R w0 w s) (hr : runFunc src.data.toList ts n s = some fs) (hn : fs.2.nodes.length ≤ 1000000) :
   Calls Tryd.prog 17 #[.pointer (some ⟨g, 0, none⟩)] w fun e w' => FuncV w0 fs.1 e w' ∧ St src tb tc ts g R w0 w' fs.2 := by
 have S0 := hid h
 have IH := hid GD
 simp only [runFunc, Option.bind_eq_some_iff, Option.map_eq_some_iff] at hr
 obtain ⟨p, hp, b, hb, rfl⟩ := hr
 obtain ⟨NM, hNM⟩ : ∃ NM, bs (pName ts (pMust ts [102, 110] s)) = NM := ⟨_, rfl⟩
 obtain ⟨s3, hs3⟩ : ∃ s3, pMust ts [40] (pNamed ts (pMust ts [102, 110] s)) = s3 := ⟨_, rfl⟩
 obtain ⟨line, hline⟩ : ∃ line, pLine src.data.toList ts s = line := ⟨_, rfl⟩
 rw [hs3] at hp
 rw [hline]
 obtain ⟨RT, hRT⟩ : ∃ RT, (if pIs ts [123] (pMust ts [41] p.2) = true then 0 else pType ts (pMust ts [41] p.2)) = RT := ⟨_, rfl⟩
 rw [hRT, show b.1.headD 0 = oneOf b.1 from rfl]
 have HRT := hid hRT
 have HLN := hid hline
 have HNM := hid hNM
 have HS3 := hid hs3
 have HN := hid (show b.2.nodes.length ≤ 1000000 from hn)
 have HBK := hid hb
 clear h GD hn hs3 hNM hline hb hRT
 by_cases he1 : pIs ts [41] s3 = true
 · rw [if_neg (by rw [he1]; simp)] at hp
   simp only [Option.some.injEq] at hp
   have HA := hid (show ParamsAt ts n [] s3 p false from hp.symm)
   have HE := hid he1
   clear he1 hp
   go_enter Tryd.func17, Tryd.ntmps17
   go_wp2_with fail
   refine ((S0.out.alloc _).here.line HLN.out).mono ?_
   rintro e w1 ⟨rfl, h1⟩
   have S1 := hid ((S0.out.alloc _).back h1)
   have hT := hid (show Blk w1 w.heap.size 43 #[.string ⟨#[]⟩, .int .i64 0, .slice none 0 0, .int .i64 0, .int .i64 0] by
     obtain ⟨cs, hb⟩ := (S0.out.alloc (.cells #[.string ⟨#[]⟩, .int .i64 0, .slice none 0 0, .int .i64 0, .int .i64 0] 43)).g_blk
     exact h1.fr.blk (Blk.new w _ _) ((Blk.new w 43 #[.string ⟨#[]⟩, .int .i64 0, .slice none 0 0, .int .i64 0, .int .i64 0]).ne hb (by decide)) (by decide))
   have hw0 := hid S0.out.fr.size
   clear h1
   generalize w.heap.size = T at *
   go_wp2_with fail
   have S2 := hid (FSt.start (line := line) S1.out hT.out hw0.out)
   clear S1 hT hw0 S0
   generalize hW2 : w1.alloc (.cells #[.string ⟨#[]⟩, .int .i64 line, .slice none 0 0, .int .i64 0, .int .i64 0] 43) = w2 at *
   clear hW2
   generalize w1.heap.size = F at *
   refine (S2.out.step (S2.out.here.must ⟨#[102, 110]⟩)).mono ?_
   rintro e w3 ⟨rfl, h3⟩
   have S3 := hid h3
   clear h3
   go_wp2_with fail
   refine (S3.out.step (S3.out.here.name HNM.out)).mono ?_
   rintro e w4 ⟨rfl, h4⟩
   have S4 := hid h4
   clear h4
   obtain ⟨a0, f0, hF⟩ := S4.out.cells 0
   simp at a0
   go_wp2_with fail
   have S5 := hid (S4.out.setName NM)
   clear a0 f0 hF
   generalize w4.setCell ⟨F, 0, none⟩ (.string NM) = w5 at *
   refine (S5.out.step (S5.out.here.must ⟨#[40]⟩)).mono ?_
   rintro e w6 ⟨rfl, h6⟩
   have S6 := hid (show FSt src tb tc ts g R w0 T F w6 s3 NM line _ _ _ _ by rw [← HS3.out]; exact h6)
   clear h6
   go_wp2_with fail
   refine (S6.out.step (S6.out.here.is ⟨#[41]⟩ (b := true) HE.out)).mono ?_
   rintro e w7 ⟨rfl, h7⟩
   have S7 := hid h7
   clear h7 S2 S3 S4 S5 S6
   obtain ⟨hg7, c17, c27, c47, c57, f27, f47⟩ := S7.out.st.cells
   go_wp2_with fail
   clear hg7 c17 c27 c47 c57 f27 f47
   go_loopg [5] n (fun k more wr => ∃ (acc : List (List UInt8 × Nat)) (s' : PS) (b : Bool) (pv : Value), more = .bool b ∧ Hid (k ≤ n) ∧ Hid (FSt src tb tc ts g R w0 T F wr s' NM line pv acc 0 0) ∧ Hid (ParamsAt ts k acc s' p b) ∧ Hid (b = true → acc.length ≤ s'.i))
   case atStart => exact ⟨[], s3, _, _, rfl, hid (Nat.le_refl n), S7, HA, hid (fun _ => Nat.zero_le _)⟩
   case round =>
     obtain ⟨acc, s', b1, pv, rfl, HK, S3, HR, HB⟩ := hrel
     clear S7 HA HE
     obtain ⟨PA, PC, rfl, hc1, hc2⟩ := S3.out.own.cap
     clear hc1 hc2
     cases b1 with
     | false =>
      have hr : p = (acc, s') := HR.out
      subst hr
      clear HR HB
      have hbk := HBK.out
      have hrt := HRT.out
      dsimp only at hbk hrt
      clear HBK HRT
      by_cases hop : pIs ts [123] (pMust ts [41] s') = true
      · rw [if_pos hop] at hbk hrt
        have HBK := hid hbk
        have HOP := hid hop
        have HRT := hid hrt
        clear hbk hop hrt
        go_wp2_with fail
        refine (S3.out.step (S3.out.here.must ⟨#[41]⟩)).mono ?_
        rintro e w4 ⟨rfl, h4⟩
        have S4 := hid h4
        clear h4
        go_wp2_with fail
        refine (S4.out.step (S4.out.here.is ⟨#[123]⟩ (b := true) HOP.out)).mono ?_
        rintro e w5 ⟨rfl, h5⟩
        have S5 := hid h5
        clear h5
        go_wp2_with fail
        have S7 := S5
        rw [HRT.out] at S7
        refine (S7.out.step (IH.out.block _ _ _ _ _ S7.out.here HBK.out HN.out)).mono ?_
        rintro e w8 ⟨rfl, h8⟩
        have S8 := hid h8
        clear h8
        obtain ⟨a4, f4, hF⟩ := S8.out.cells 4
        simp at a4
        go_upto_region 19 with (fail)
        have S9 := hid (S8.out.setBody (oneOf b.1))
        clear a4 f4 hF
        generalize w8.setCell ⟨F, 4, none⟩ (.int .i64 (oneOf b.1 : Nat)) = w9 at *
        obtain ⟨b0, _, hF⟩ := S9.out.cells 0
        obtain ⟨b1, _, _⟩ := S9.out.cells 1
        obtain ⟨b2, _, _⟩ := S9.out.cells 2
        obtain ⟨b3, _, _⟩ := S9.out.cells 3
        obtain ⟨b4, _, _⟩ := S9.out.cells 4
        have t0 := S9.out.bt.frozen 0
        have t1 := S9.out.bt.frozen 1
        have t2 := S9.out.bt.frozen 2
        have t3 := S9.out.bt.frozen 3
        have t4 := S9.out.bt.frozen 4
        have u0 := S9.out.bt.cell 0
        have u1 := S9.out.bt.cell 1
        have u2 := S9.out.bt.cell 2
        have u3 := S9.out.bt.cell 3
        have u4 := S9.out.bt.cell 4
        have hTl := S9.out.bt.lt
        simp at b0 b1 b2 b3 b4 u0 u1 u2 u3 u4
        go_wp2_with fail
        clear b0 b1 b2 b3 b4 t0 t1 t2 t3 t4 u0 u1 u2 u3 u4 hTl hF
        have HB9 := (((((S9.out.bt.setCell 0 (.string NM)).setCell 1 (.int .i64 line)).setCell 2 (.slice PA acc.length PC)).setCell 3 (.int .i64 RT)).setCell 4 (.int .i64 (oneOf b.1 : Nat)))
        have hF9 := Fr.five w9 T (.string NM) (.int .i64 line) (.slice PA acc.length PC) (.int .i64 RT) (.int .i64 (oneOf b.1 : Nat))
        have S10 := hid (S9.out.st.other hF9 (fun k hk => by rw [show k = T from hk]; exact ⟨S9.out.ht, _, _, S9.out.bt, by decide⟩))
        have O10 := hid (S9.out.own.fr hF9 (fun k hk hm => S9.out.own.blk_ne S9.out.bt (by decide) (by rw [hk, show k = T from hm])))
        clear hF9
        generalize ((((w9.setCell ⟨T, 0, none⟩ (.string NM)).setCell ⟨T, 1, none⟩ (.int .i64 line)).setCell ⟨T, 2, none⟩ (.slice PA acc.length PC)).setCell ⟨T, 3, none⟩ (.int .i64 RT)).setCell ⟨T, 4, none⟩ (.int .i64 (oneOf b.1 : Nat)) = w10 at *
        have z0 := HB9.cell 0
        have z1 := HB9.cell 1
        have z2 := HB9.cell 2
        have z3 := HB9.cell 3
        have z4 := HB9.cell 4
        simp at z0 z1 z2 z3 z4
        clear HB9
        refine bodyPost_ret (v := .agg #[.string NM, .int .i64 line, .slice PA acc.length PC, .int .i64 RT, .int .i64 (oneOf b.1 : Nat)]) (by simp [results, Tryd.results17, go_sem, z0, z1, z2, z3, z4]) rfl ⟨⟨.slice PA acc.length PC, by rw [HNM.out], O10.out, S9.out.new⟩, S10.out⟩
      · rw [if_neg hop] at hbk hrt
        have HBK := hid hbk
        have HRT := hid hrt
        have HOP := hid (show pIs ts [123] (pMust ts [41] s') = false by simpa using hop)
        clear hbk hop hrt
        go_wp2_with fail
        refine (S3.out.step (S3.out.here.must ⟨#[41]⟩)).mono ?_
        rintro e w4 ⟨rfl, h4⟩
        have S4 := hid h4
        clear h4
        go_wp2_with fail
        refine (S4.out.step (S4.out.here.is ⟨#[123]⟩ (b := false) HOP.out)).mono ?_
        rintro e w5 ⟨rfl, h5⟩
        have S5 := hid h5
        clear h5
        go_wp2_with fail
        refine (S5.out.step (S5.out.here.typed rfl)).mono ?_
        rintro e w6 ⟨rfl, h6⟩
        have S6 := hid h6
        clear h6
        obtain ⟨a3, f3, hF⟩ := S6.out.cells 3
        simp at a3
        go_wp2_with fail
        have S7 := hid (S6.out.setRet (pType ts (pMust ts [41] s')))
        clear a3 f3 hF
        generalize w6.setCell ⟨F, 3, none⟩ (.int .i64 (pType ts (pMust ts [41] s') : Nat)) = w7 at *
        rw [HRT.out] at S7
        refine (S7.out.step (IH.out.block _ _ _ _ _ S7.out.here HBK.out HN.out)).mono ?_
        rintro e w8 ⟨rfl, h8⟩
        have S8 := hid h8
        clear h8
        obtain ⟨a4, f4, hF⟩ := S8.out.cells 4
        simp at a4
        go_upto_region 19 with (fail)
        have S9 := hid (S8.out.setBody (oneOf b.1))
        clear a4 f4 hF
        generalize w8.setCell ⟨F, 4, none⟩ (.int .i64 (oneOf b.1 : Nat)) = w9 at *
        obtain ⟨b0, _, hF⟩ := S9.out.cells 0
        obtain ⟨b1, _, _⟩ := S9.out.cells 1
        obtain ⟨b2, _, _⟩ := S9.out.cells 2
        obtain ⟨b3, _, _⟩ := S9.out.cells 3
        obtain ⟨b4, _, _⟩ := S9.out.cells 4
        have t0 := S9.out.bt.frozen 0
        have t1 := S9.out.bt.frozen 1
        have t2 := S9.out.bt.frozen 2
        have t3 := S9.out.bt.frozen 3
        have t4 := S9.out.bt.frozen 4
        have u0 := S9.out.bt.cell 0
        have u1 := S9.out.bt.cell 1
        have u2 := S9.out.bt.cell 2
        have u3 := S9.out.bt.cell 3
        have u4 := S9.out.bt.cell 4
        have hTl := S9.out.bt.lt
        simp at b0 b1 b2 b3 b4 u0 u1 u2 u3 u4
        go_wp2_with fail
        clear b0 b1 b2 b3 b4 t0 t1 t2 t3 t4 u0 u1 u2 u3 u4 hTl hF
        have HB9 := (((((S9.out.bt.setCell 0 (.string NM)).setCell 1 (.int .i64 line)).setCell 2 (.slice PA acc.length PC)).setCell 3 (.int .i64 RT)).setCell 4 (.int .i64 (oneOf b.1 : Nat)))
        have hF9 := Fr.five w9 T (.string NM) (.int .i64 line) (.slice PA acc.length PC) (.int .i64 RT) (.int .i64 (oneOf b.1 : Nat))
        have S10 := hid (S9.out.st.other hF9 (fun k hk => by rw [show k = T from hk]; exact ⟨S9.out.ht, _, _, S9.out.bt, by decide⟩))
        have O10 := hid (S9.out.own.fr hF9 (fun k hk hm => S9.out.own.blk_ne S9.out.bt (by decide) (by rw [hk, show k = T from hm])))
        clear hF9
        generalize ((((w9.setCell ⟨T, 0, none⟩ (.string NM)).setCell ⟨T, 1, none⟩ (.int .i64 line)).setCell ⟨T, 2, none⟩ (.slice PA acc.length PC)).setCell ⟨T, 3, none⟩ (.int .i64 RT)).setCell ⟨T, 4, none⟩ (.int .i64 (oneOf b.1 : Nat)) = w10 at *
        have z0 := HB9.cell 0
        have z1 := HB9.cell 1
        have z2 := HB9.cell 2
        have z3 := HB9.cell 3
        have z4 := HB9.cell 4
        simp at z0 z1 z2 z3 z4
        clear HB9
        refine bodyPost_ret (v := .agg #[.string NM, .int .i64 line, .slice PA acc.length PC, .int .i64 RT, .int .i64 (oneOf b.1 : Nat)]) (by simp [results, Tryd.results17, go_sem, z0, z1, z2, z3, z4]) rfl ⟨⟨.slice PA acc.length PC, by rw [HNM.out], O10.out, S9.out.new⟩, S10.out⟩
     | true =>
      have hr : runParams ts gk acc s' = some p := HR.out
      cases gk with
      | zero => simp [runParams] at hr
      | succ k =>
        simp only [runParams] at hr
        have hb := HB.out rfl
        have hri := S3.out.st.i_le
        have HB2 := hid (show acc.length ≤ 1000 by omega)
        have hle := (((Ext.refl s').named (ts := ts)).typed (ts := ts)).i
        have HLE := hid (show acc.length ≤ (pTyped ts (pNamed ts s')).i by omega)
        have hok := (S3.out.st.ok.named S3.out.st.toks).typed S3.out.st.toks
        obtain ⟨X, hX⟩ : ∃ X, bs (pName ts s') = X := ⟨_, rfl⟩
        have HX := hid hX
        clear hb hri HB HR hle hX
        by_cases hm : pIs ts [44] (pTyped ts (pNamed ts s')) = true
        · rw [if_pos hm] at hr
          have HM := hid hm
          have HO := hid (hok.goIs S3.out.st.toks hm)
          have HR2 := hid hr
          clear hr hm hok
          go_wp2_with fail
          refine (S3.out.step (S3.out.here.name HX.out)).mono ?_
          rintro e w4 ⟨rfl, h4⟩
          have S4 := hid h4
          clear h4
          go_wp2_with fail
          refine (S4.out.step (S4.out.here.typed rfl)).mono ?_
          rintro e w5 ⟨rfl, h5⟩
          have S5 := hid h5
          clear h5
          obtain ⟨a2, f2, hF⟩ := S5.out.cells 2
          simp at a2
          go_wp2_with (at_builtin; go_loud (refine wpList_append (m := 1) (news := [.string X, .int .i64 (pType ts (pNamed ts s') : Nat)]) rfl _ _ rfl TyParam rfl rfl (S5.out.own.alloc _) (Rd.ofBlk (n := 1) (cs := [.string X, .int .i64 (pType ts (pNamed ts s') : Nat)]) (Blk.new _ _ _) rfl (by decide)) (by simp [Value.oneCell']) (by have h9 := HB2.out; omega) (by have h9 := HB2.out; unfold maxLen; omega) ?_); go_loud (intro A6 c6 w6 ho6 hf6 hv6; have S6 := hid (S5.out.app (x := pName ts s') (t := pType ts (pNamed ts s')) (by rw [HX.out]; exact ho6) hf6 hv6); have g2 := ((S5.out.bf.alloc _).fr hf6 (fun hm => S5.out.own.blk_ne S5.out.bf (by decide) hm)).frozen 2; have g3 := ((S5.out.bf.alloc _).fr hf6 (fun hm => S5.out.own.blk_ne S5.out.bf (by decide) hm)).cell 2; have g4 := ((S5.out.bf.alloc _).fr hf6 (fun hm => S5.out.own.blk_ne S5.out.bf (by decide) hm)).lt; simp at g3; clear ho6 hf6 hv6 a2 f2 hF))
          clear g2 g3 g4
          generalize w6.setCell ⟨F, 2, none⟩ (.slice A6 (acc.length + 1) c6) = w7 at *
          refine (S6.out.step (S6.out.here.is ⟨#[44]⟩ (b := true) HM.out)).mono ?_
          rintro e w8 ⟨rfl, h8⟩
          have S8 := hid h8
          clear h8
          obtain ⟨hg8, c18, c28, c48, c58, f28, f48⟩ := S8.out.st.cells
          have hi8 := S8.out.st.i_le
          go_wp2_with fail
          have S9 := hid (S8.out.to (S8.out.here.go HO.out))
          go_roundg k
          case measure => omega
          case rel => exact ⟨acc ++ [(pName ts s', pType ts (pNamed ts s'))], pGo (pTyped ts (pNamed ts s')), true, _, rfl, hid (by have := HK.out; omega), S9, HR2, hid (fun _ => by have h9 := HLE.out; rw [List.length_append]; show acc.length + 1 ≤ (pTyped ts (pNamed ts s')).i + 1; omega)⟩
        · rw [if_neg hm] at hr
          simp only [Option.some.injEq] at hr
          have HM := hid (show pIs ts [44] (pTyped ts (pNamed ts s')) = false by simpa using hm)
          have HR2 := hid hr.symm
          clear hr hm hok
          go_wp2_with fail
          refine (S3.out.step (S3.out.here.name HX.out)).mono ?_
          rintro e w4 ⟨rfl, h4⟩
          have S4 := hid h4
          clear h4
          go_wp2_with fail
          refine (S4.out.step (S4.out.here.typed rfl)).mono ?_
          rintro e w5 ⟨rfl, h5⟩
          have S5 := hid h5
          clear h5
          obtain ⟨a2, f2, hF⟩ := S5.out.cells 2
          simp at a2
          go_wp2_with (at_builtin; go_loud (refine wpList_append (m := 1) (news := [.string X, .int .i64 (pType ts (pNamed ts s') : Nat)]) rfl _ _ rfl TyParam rfl rfl (S5.out.own.alloc _) (Rd.ofBlk (n := 1) (cs := [.string X, .int .i64 (pType ts (pNamed ts s') : Nat)]) (Blk.new _ _ _) rfl (by decide)) (by simp [Value.oneCell']) (by have h9 := HB2.out; omega) (by have h9 := HB2.out; unfold maxLen; omega) ?_); go_loud (intro A6 c6 w6 ho6 hf6 hv6; have S6 := hid (S5.out.app (x := pName ts s') (t := pType ts (pNamed ts s')) (by rw [HX.out]; exact ho6) hf6 hv6); have g2 := ((S5.out.bf.alloc _).fr hf6 (fun hm => S5.out.own.blk_ne S5.out.bf (by decide) hm)).frozen 2; have g3 := ((S5.out.bf.alloc _).fr hf6 (fun hm => S5.out.own.blk_ne S5.out.bf (by decide) hm)).cell 2; have g4 := ((S5.out.bf.alloc _).fr hf6 (fun hm => S5.out.own.blk_ne S5.out.bf (by decide) hm)).lt; simp at g3; clear ho6 hf6 hv6 a2 f2 hF))
          clear g2 g3 g4
          generalize w6.setCell ⟨F, 2, none⟩ (.slice A6 (acc.length + 1) c6) = w7 at *
          refine (S6.out.step (S6.out.here.is ⟨#[44]⟩ (b := false) HM.out)).mono ?_
          rintro e w8 ⟨rfl, h8⟩
          have S8 := hid h8
          clear h8
          go_wp2_with fail
          go_roundg k
          case measure => omega
          case rel => exact ⟨acc ++ [(pName ts s', pType ts (pNamed ts s'))], pTyped ts (pNamed ts s'), false, _, rfl, hid (by have := HK.out; omega), S8, HR2, hid (fun h => by cases h)⟩
 · have he2 : pIs ts [41] s3 = false := by simpa using he1
   have HE := hid he2
   by_cases h0 : s3.e = 0
   · rw [if_pos ⟨he2, h0⟩] at hp
     have HA := hid (show ParamsAt ts n [] s3 p true from hp)
     have he : ((s3.e : Int) == 0) = true := by rw [h0]; rfl
     clear he1 he2 h0 hp
     go_enter Tryd.func17, Tryd.ntmps17
     go_wp2_with fail
     refine ((S0.out.alloc _).here.line HLN.out).mono ?_
     rintro e w1 ⟨rfl, h1⟩
     have S1 := hid ((S0.out.alloc _).back h1)
     have hT := hid (show Blk w1 w.heap.size 43 #[.string ⟨#[]⟩, .int .i64 0, .slice none 0 0, .int .i64 0, .int .i64 0] by
      obtain ⟨cs, hb⟩ := (S0.out.alloc (.cells #[.string ⟨#[]⟩, .int .i64 0, .slice none 0 0, .int .i64 0, .int .i64 0] 43)).g_blk
      exact h1.fr.blk (Blk.new w _ _) ((Blk.new w 43 #[.string ⟨#[]⟩, .int .i64 0, .slice none 0 0, .int .i64 0, .int .i64 0]).ne hb (by decide)) (by decide))
     have hw0 := hid S0.out.fr.size
     clear h1
     generalize w.heap.size = T at *
     go_wp2_with fail
     have S2 := hid (FSt.start (line := line) S1.out hT.out hw0.out)
     clear S1 hT hw0 S0
     generalize hW2 : w1.alloc (.cells #[.string ⟨#[]⟩, .int .i64 line, .slice none 0 0, .int .i64 0, .int .i64 0] 43) = w2 at *
     clear hW2
     generalize w1.heap.size = F at *
     refine (S2.out.step (S2.out.here.must ⟨#[102, 110]⟩)).mono ?_
     rintro e w3 ⟨rfl, h3⟩
     have S3 := hid h3
     clear h3
     go_wp2_with fail
     refine (S3.out.step (S3.out.here.name HNM.out)).mono ?_
     rintro e w4 ⟨rfl, h4⟩
     have S4 := hid h4
     clear h4
     obtain ⟨a0, f0, hF⟩ := S4.out.cells 0
     simp at a0
     go_wp2_with fail
     have S5 := hid (S4.out.setName NM)
     clear a0 f0 hF
     generalize w4.setCell ⟨F, 0, none⟩ (.string NM) = w5 at *
     refine (S5.out.step (S5.out.here.must ⟨#[40]⟩)).mono ?_
     rintro e w6 ⟨rfl, h6⟩
     have S6 := hid (show FSt src tb tc ts g R w0 T F w6 s3 NM line _ _ _ _ by rw [← HS3.out]; exact h6)
     clear h6
     go_wp2_with fail
     refine (S6.out.step (S6.out.here.is ⟨#[41]⟩ (b := false) HE.out)).mono ?_
     rintro e w7 ⟨rfl, h7⟩
     have S7 := hid h7
     clear h7 S2 S3 S4 S5 S6
     obtain ⟨hg7, c17, c27, c47, c57, f27, f47⟩ := S7.out.st.cells
     go_wp2_with fail
     clear hg7 c17 c27 c47 c57 f27 f47 he
     go_loopg [5] n (fun k more wr => ∃ (acc : List (List UInt8 × Nat)) (s' : PS) (b : Bool) (pv : Value), more = .bool b ∧ Hid (k ≤ n) ∧ Hid (FSt src tb tc ts g R w0 T F wr s' NM line pv acc 0 0) ∧ Hid (ParamsAt ts k acc s' p b) ∧ Hid (b = true → acc.length ≤ s'.i))
     case atStart => exact ⟨[], s3, _, _, rfl, hid (Nat.le_refl n), S7, HA, hid (fun _ => Nat.zero_le _)⟩
     case round =>
      obtain ⟨acc, s', b1, pv, rfl, HK, S3, HR, HB⟩ := hrel
      clear S7 HA HE
      obtain ⟨PA, PC, rfl, hc1, hc2⟩ := S3.out.own.cap
      clear hc1 hc2
      cases b1 with
      | false =>
        have hr : p = (acc, s') := HR.out
        subst hr
        clear HR HB
        have hbk := HBK.out
        have hrt := HRT.out
        dsimp only at hbk hrt
        clear HBK HRT
        by_cases hop : pIs ts [123] (pMust ts [41] s') = true
        · rw [if_pos hop] at hbk hrt
          have HBK := hid hbk
          have HOP := hid hop
          have HRT := hid hrt
          clear hbk hop hrt
          go_wp2_with fail
          refine (S3.out.step (S3.out.here.must ⟨#[41]⟩)).mono ?_
          rintro e w4 ⟨rfl, h4⟩
          have S4 := hid h4
          clear h4
          go_wp2_with fail
          refine (S4.out.step (S4.out.here.is ⟨#[123]⟩ (b := true) HOP.out)).mono ?_
          rintro e w5 ⟨rfl, h5⟩
          have S5 := hid h5
          clear h5
          go_wp2_with fail
          have S7 := S5
          rw [HRT.out] at S7
          refine (S7.out.step (IH.out.block _ _ _ _ _ S7.out.here HBK.out HN.out)).mono ?_
          rintro e w8 ⟨rfl, h8⟩
          have S8 := hid h8
          clear h8
          obtain ⟨a4, f4, hF⟩ := S8.out.cells 4
          simp at a4
          go_upto_region 19 with (fail)
          have S9 := hid (S8.out.setBody (oneOf b.1))
          clear a4 f4 hF
          generalize w8.setCell ⟨F, 4, none⟩ (.int .i64 (oneOf b.1 : Nat)) = w9 at *
          obtain ⟨b0, _, hF⟩ := S9.out.cells 0
          obtain ⟨b1, _, _⟩ := S9.out.cells 1
          obtain ⟨b2, _, _⟩ := S9.out.cells 2
          obtain ⟨b3, _, _⟩ := S9.out.cells 3
          obtain ⟨b4, _, _⟩ := S9.out.cells 4
          have t0 := S9.out.bt.frozen 0
          have t1 := S9.out.bt.frozen 1
          have t2 := S9.out.bt.frozen 2
          have t3 := S9.out.bt.frozen 3
          have t4 := S9.out.bt.frozen 4
          have u0 := S9.out.bt.cell 0
          have u1 := S9.out.bt.cell 1
          have u2 := S9.out.bt.cell 2
          have u3 := S9.out.bt.cell 3
          have u4 := S9.out.bt.cell 4
          have hTl := S9.out.bt.lt
          simp at b0 b1 b2 b3 b4 u0 u1 u2 u3 u4
          go_wp2_with fail
          clear b0 b1 b2 b3 b4 t0 t1 t2 t3 t4 u0 u1 u2 u3 u4 hTl hF
          have HB9 := (((((S9.out.bt.setCell 0 (.string NM)).setCell 1 (.int .i64 line)).setCell 2 (.slice PA acc.length PC)).setCell 3 (.int .i64 RT)).setCell 4 (.int .i64 (oneOf b.1 : Nat)))
          have hF9 := Fr.five w9 T (.string NM) (.int .i64 line) (.slice PA acc.length PC) (.int .i64 RT) (.int .i64 (oneOf b.1 : Nat))
          have S10 := hid (S9.out.st.other hF9 (fun k hk => by rw [show k = T from hk]; exact ⟨S9.out.ht, _, _, S9.out.bt, by decide⟩))
          have O10 := hid (S9.out.own.fr hF9 (fun k hk hm => S9.out.own.blk_ne S9.out.bt (by decide) (by rw [hk, show k = T from hm])))
          clear hF9
          generalize ((((w9.setCell ⟨T, 0, none⟩ (.string NM)).setCell ⟨T, 1, none⟩ (.int .i64 line)).setCell ⟨T, 2, none⟩ (.slice PA acc.length PC)).setCell ⟨T, 3, none⟩ (.int .i64 RT)).setCell ⟨T, 4, none⟩ (.int .i64 (oneOf b.1 : Nat)) = w10 at *
          have z0 := HB9.cell 0
          have z1 := HB9.cell 1
          have z2 := HB9.cell 2
          have z3 := HB9.cell 3
          have z4 := HB9.cell 4
          simp at z0 z1 z2 z3 z4
          clear HB9
          refine bodyPost_ret (v := .agg #[.string NM, .int .i64 line, .slice PA acc.length PC, .int .i64 RT, .int .i64 (oneOf b.1 : Nat)]) (by simp [results, Tryd.results17, go_sem, z0, z1, z2, z3, z4]) rfl ⟨⟨.slice PA acc.length PC, by rw [HNM.out], O10.out, S9.out.new⟩, S10.out⟩
        · rw [if_neg hop] at hbk hrt
          have HBK := hid hbk
          have HRT := hid hrt
          have HOP := hid (show pIs ts [123] (pMust ts [41] s') = false by simpa using hop)
          clear hbk hop hrt
          go_wp2_with fail
          refine (S3.out.step (S3.out.here.must ⟨#[41]⟩)).mono ?_
          rintro e w4 ⟨rfl, h4⟩
          have S4 := hid h4
          clear h4
          go_wp2_with fail
          refine (S4.out.step (S4.out.here.is ⟨#[123]⟩ (b := false) HOP.out)).mono ?_
          rintro e w5 ⟨rfl, h5⟩
          have S5 := hid h5
          clear h5
          go_wp2_with fail
          refine (S5.out.step (S5.out.here.typed rfl)).mono ?_
          rintro e w6 ⟨rfl, h6⟩
          have S6 := hid h6
          clear h6
          obtain ⟨a3, f3, hF⟩ := S6.out.cells 3
          simp at a3
          go_wp2_with fail
          have S7 := hid (S6.out.setRet (pType ts (pMust ts [41] s')))
          clear a3 f3 hF
          generalize w6.setCell ⟨F, 3, none⟩ (.int .i64 (pType ts (pMust ts [41] s') : Nat)) = w7 at *
          rw [HRT.out] at S7
          refine (S7.out.step (IH.out.block _ _ _ _ _ S7.out.here HBK.out HN.out)).mono ?_
          rintro e w8 ⟨rfl, h8⟩
          have S8 := hid h8
          clear h8
          obtain ⟨a4, f4, hF⟩ := S8.out.cells 4
          simp at a4
          go_upto_region 19 with (fail)
          have S9 := hid (S8.out.setBody (oneOf b.1))
          clear a4 f4 hF
          generalize w8.setCell ⟨F, 4, none⟩ (.int .i64 (oneOf b.1 : Nat)) = w9 at *
          obtain ⟨b0, _, hF⟩ := S9.out.cells 0
          obtain ⟨b1, _, _⟩ := S9.out.cells 1
          obtain ⟨b2, _, _⟩ := S9.out.cells 2
          obtain ⟨b3, _, _⟩ := S9.out.cells 3
          obtain ⟨b4, _, _⟩ := S9.out.cells 4
          have t0 := S9.out.bt.frozen 0
          have t1 := S9.out.bt.frozen 1
          have t2 := S9.out.bt.frozen 2
          have t3 := S9.out.bt.frozen 3
          have t4 := S9.out.bt.frozen 4
          have u0 := S9.out.bt.cell 0
          have u1 := S9.out.bt.cell 1
          have u2 := S9.out.bt.cell 2
          have u3 := S9.out.bt.cell 3
          have u4 := S9.out.bt.cell 4
          have hTl := S9.out.bt.lt
          simp at b0 b1 b2 b3 b4 u0 u1 u2 u3 u4
          go_wp2_with fail
          clear b0 b1 b2 b3 b4 t0 t1 t2 t3 t4 u0 u1 u2 u3 u4 hTl hF
          have HB9 := (((((S9.out.bt.setCell 0 (.string NM)).setCell 1 (.int .i64 line)).setCell 2 (.slice PA acc.length PC)).setCell 3 (.int .i64 RT)).setCell 4 (.int .i64 (oneOf b.1 : Nat)))
          have hF9 := Fr.five w9 T (.string NM) (.int .i64 line) (.slice PA acc.length PC) (.int .i64 RT) (.int .i64 (oneOf b.1 : Nat))
          have S10 := hid (S9.out.st.other hF9 (fun k hk => by rw [show k = T from hk]; exact ⟨S9.out.ht, _, _, S9.out.bt, by decide⟩))
          have O10 := hid (S9.out.own.fr hF9 (fun k hk hm => S9.out.own.blk_ne S9.out.bt (by decide) (by rw [hk, show k = T from hm])))
          clear hF9
          generalize ((((w9.setCell ⟨T, 0, none⟩ (.string NM)).setCell ⟨T, 1, none⟩ (.int .i64 line)).setCell ⟨T, 2, none⟩ (.slice PA acc.length PC)).setCell ⟨T, 3, none⟩ (.int .i64 RT)).setCell ⟨T, 4, none⟩ (.int .i64 (oneOf b.1 : Nat)) = w10 at *
          have z0 := HB9.cell 0
          have z1 := HB9.cell 1
          have z2 := HB9.cell 2
          have z3 := HB9.cell 3
          have z4 := HB9.cell 4
          simp at z0 z1 z2 z3 z4
          clear HB9
          refine bodyPost_ret (v := .agg #[.string NM, .int .i64 line, .slice PA acc.length PC, .int .i64 RT, .int .i64 (oneOf b.1 : Nat)]) (by simp [results, Tryd.results17, go_sem, z0, z1, z2, z3, z4]) rfl ⟨⟨.slice PA acc.length PC, by rw [HNM.out], O10.out, S9.out.new⟩, S10.out⟩
      | true =>
        have hr : runParams ts gk acc s' = some p := HR.out
        cases gk with
        | zero => simp [runParams] at hr
        | succ k =>
          simp only [runParams] at hr
          have hb := HB.out rfl
          have hri := S3.out.st.i_le
          have HB2 := hid (show acc.length ≤ 1000 by omega)
          have hle := (((Ext.refl s').named (ts := ts)).typed (ts := ts)).i
          have HLE := hid (show acc.length ≤ (pTyped ts (pNamed ts s')).i by omega)
          have hok := (S3.out.st.ok.named S3.out.st.toks).typed S3.out.st.toks
          obtain ⟨X, hX⟩ : ∃ X, bs (pName ts s') = X := ⟨_, rfl⟩
          have HX := hid hX
          clear hb hri HB HR hle hX
          by_cases hm : pIs ts [44] (pTyped ts (pNamed ts s')) = true
          · rw [if_pos hm] at hr
            have HM := hid hm
            have HO := hid (hok.goIs S3.out.st.toks hm)
            have HR2 := hid hr
            clear hr hm hok
            go_wp2_with fail
            refine (S3.out.step (S3.out.here.name HX.out)).mono ?_
            rintro e w4 ⟨rfl, h4⟩
            have S4 := hid h4
            clear h4
            go_wp2_with fail
            refine (S4.out.step (S4.out.here.typed rfl)).mono ?_
            rintro e w5 ⟨rfl, h5⟩
            have S5 := hid h5
            clear h5
            obtain ⟨a2, f2, hF⟩ := S5.out.cells 2
            simp at a2
            go_wp2_with (at_builtin; go_loud (refine wpList_append (m := 1) (news := [.string X, .int .i64 (pType ts (pNamed ts s') : Nat)]) rfl _ _ rfl TyParam rfl rfl (S5.out.own.alloc _) (Rd.ofBlk (n := 1) (cs := [.string X, .int .i64 (pType ts (pNamed ts s') : Nat)]) (Blk.new _ _ _) rfl (by decide)) (by simp [Value.oneCell']) (by have h9 := HB2.out; omega) (by have h9 := HB2.out; unfold maxLen; omega) ?_); go_loud (intro A6 c6 w6 ho6 hf6 hv6; have S6 := hid (S5.out.app (x := pName ts s') (t := pType ts (pNamed ts s')) (by rw [HX.out]; exact ho6) hf6 hv6); have g2 := ((S5.out.bf.alloc _).fr hf6 (fun hm => S5.out.own.blk_ne S5.out.bf (by decide) hm)).frozen 2; have g3 := ((S5.out.bf.alloc _).fr hf6 (fun hm => S5.out.own.blk_ne S5.out.bf (by decide) hm)).cell 2; have g4 := ((S5.out.bf.alloc _).fr hf6 (fun hm => S5.out.own.blk_ne S5.out.bf (by decide) hm)).lt; simp at g3; clear ho6 hf6 hv6 a2 f2 hF))
            clear g2 g3 g4
            generalize w6.setCell ⟨F, 2, none⟩ (.slice A6 (acc.length + 1) c6) = w7 at *
            refine (S6.out.step (S6.out.here.is ⟨#[44]⟩ (b := true) HM.out)).mono ?_
            rintro e w8 ⟨rfl, h8⟩
            have S8 := hid h8
            clear h8
            obtain ⟨hg8, c18, c28, c48, c58, f28, f48⟩ := S8.out.st.cells
            have hi8 := S8.out.st.i_le
            go_wp2_with fail
            have S9 := hid (S8.out.to (S8.out.here.go HO.out))
            go_roundg k
            case measure => omega
            case rel => exact ⟨acc ++ [(pName ts s', pType ts (pNamed ts s'))], pGo (pTyped ts (pNamed ts s')), true, _, rfl, hid (by have := HK.out; omega), S9, HR2, hid (fun _ => by have h9 := HLE.out; rw [List.length_append]; show acc.length + 1 ≤ (pTyped ts (pNamed ts s')).i + 1; omega)⟩
          · rw [if_neg hm] at hr
            simp only [Option.some.injEq] at hr
            have HM := hid (show pIs ts [44] (pTyped ts (pNamed ts s')) = false by simpa using hm)
            have HR2 := hid hr.symm
            clear hr hm hok
            go_wp2_with fail
            refine (S3.out.step (S3.out.here.name HX.out)).mono ?_
            rintro e w4 ⟨rfl, h4⟩
            have S4 := hid h4
            clear h4
            go_wp2_with fail
            refine (S4.out.step (S4.out.here.typed rfl)).mono ?_
            rintro e w5 ⟨rfl, h5⟩
            have S5 := hid h5
            clear h5
            obtain ⟨a2, f2, hF⟩ := S5.out.cells 2
            simp at a2
            go_wp2_with (at_builtin; go_loud (refine wpList_append (m := 1) (news := [.string X, .int .i64 (pType ts (pNamed ts s') : Nat)]) rfl _ _ rfl TyParam rfl rfl (S5.out.own.alloc _) (Rd.ofBlk (n := 1) (cs := [.string X, .int .i64 (pType ts (pNamed ts s') : Nat)]) (Blk.new _ _ _) rfl (by decide)) (by simp [Value.oneCell']) (by have h9 := HB2.out; omega) (by have h9 := HB2.out; unfold maxLen; omega) ?_); go_loud (intro A6 c6 w6 ho6 hf6 hv6; have S6 := hid (S5.out.app (x := pName ts s') (t := pType ts (pNamed ts s')) (by rw [HX.out]; exact ho6) hf6 hv6); have g2 := ((S5.out.bf.alloc _).fr hf6 (fun hm => S5.out.own.blk_ne S5.out.bf (by decide) hm)).frozen 2; have g3 := ((S5.out.bf.alloc _).fr hf6 (fun hm => S5.out.own.blk_ne S5.out.bf (by decide) hm)).cell 2; have g4 := ((S5.out.bf.alloc _).fr hf6 (fun hm => S5.out.own.blk_ne S5.out.bf (by decide) hm)).lt; simp at g3; clear ho6 hf6 hv6 a2 f2 hF))
            clear g2 g3 g4
            generalize w6.setCell ⟨F, 2, none⟩ (.slice A6 (acc.length + 1) c6) = w7 at *
            refine (S6.out.step (S6.out.here.is ⟨#[44]⟩ (b := false) HM.out)).mono ?_
            rintro e w8 ⟨rfl, h8⟩
            have S8 := hid h8
            clear h8
            go_wp2_with fail
            go_roundg k
            case measure => omega
            case rel => exact ⟨acc ++ [(pName ts s', pType ts (pNamed ts s'))], pTyped ts (pNamed ts s'), false, _, rfl, hid (by have := HK.out; omega), S8, HR2, hid (fun h => by cases h)⟩
   · rw [if_neg (by rintro ⟨_, h⟩; exact h0 h)] at hp
     simp only [Option.some.injEq] at hp
     have HA := hid (show ParamsAt ts n [] s3 p false from hp.symm)
     have he : ((s3.e : Int) == 0) = false := beq_eq_false_iff_ne.2 (by omega)
     clear he1 he2 h0 hp
     go_enter Tryd.func17, Tryd.ntmps17
     go_wp2_with fail
     refine ((S0.out.alloc _).here.line HLN.out).mono ?_
     rintro e w1 ⟨rfl, h1⟩
     have S1 := hid ((S0.out.alloc _).back h1)
     have hT := hid (show Blk w1 w.heap.size 43 #[.string ⟨#[]⟩, .int .i64 0, .slice none 0 0, .int .i64 0, .int .i64 0] by
      obtain ⟨cs, hb⟩ := (S0.out.alloc (.cells #[.string ⟨#[]⟩, .int .i64 0, .slice none 0 0, .int .i64 0, .int .i64 0] 43)).g_blk
      exact h1.fr.blk (Blk.new w _ _) ((Blk.new w 43 #[.string ⟨#[]⟩, .int .i64 0, .slice none 0 0, .int .i64 0, .int .i64 0]).ne hb (by decide)) (by decide))
     have hw0 := hid S0.out.fr.size
     clear h1
     generalize w.heap.size = T at *
     go_wp2_with fail
     have S2 := hid (FSt.start (line := line) S1.out hT.out hw0.out)
     clear S1 hT hw0 S0
     generalize hW2 : w1.alloc (.cells #[.string ⟨#[]⟩, .int .i64 line, .slice none 0 0, .int .i64 0, .int .i64 0] 43) = w2 at *
     clear hW2
     generalize w1.heap.size = F at *
     refine (S2.out.step (S2.out.here.must ⟨#[102, 110]⟩)).mono ?_
     rintro e w3 ⟨rfl, h3⟩
     have S3 := hid h3
     clear h3
     go_wp2_with fail
     refine (S3.out.step (S3.out.here.name HNM.out)).mono ?_
     rintro e w4 ⟨rfl, h4⟩
     have S4 := hid h4
     clear h4
     obtain ⟨a0, f0, hF⟩ := S4.out.cells 0
     simp at a0
     go_wp2_with fail
     have S5 := hid (S4.out.setName NM)
     clear a0 f0 hF
     generalize w4.setCell ⟨F, 0, none⟩ (.string NM) = w5 at *
     refine (S5.out.step (S5.out.here.must ⟨#[40]⟩)).mono ?_
     rintro e w6 ⟨rfl, h6⟩
     have S6 := hid (show FSt src tb tc ts g R w0 T F w6 s3 NM line _ _ _ _ by rw [← HS3.out]; exact h6)
     clear h6
     go_wp2_with fail
     refine (S6.out.step (S6.out.here.is ⟨#[41]⟩ (b := false) HE.out)).mono ?_
     rintro e w7 ⟨rfl, h7⟩
     have S7 := hid h7
     clear h7 S2 S3 S4 S5 S6
     obtain ⟨hg7, c17, c27, c47, c57, f27, f47⟩ := S7.out.st.cells
     go_wp2_with fail
     clear hg7 c17 c27 c47 c57 f27 f47 he
     go_loopg [5] n (fun k more wr => ∃ (acc : List (List UInt8 × Nat)) (s' : PS) (b : Bool) (pv : Value), more = .bool b ∧ Hid (k ≤ n) ∧ Hid (FSt src tb tc ts g R w0 T F wr s' NM line pv acc 0 0) ∧ Hid (ParamsAt ts k acc s' p b) ∧ Hid (b = true → acc.length ≤ s'.i))
     case atStart => exact ⟨[], s3, _, _, rfl, hid (Nat.le_refl n), S7, HA, hid (fun _ => Nat.zero_le _)⟩
     case round =>
      obtain ⟨acc, s', b1, pv, rfl, HK, S3, HR, HB⟩ := hrel
      clear S7 HA HE
      obtain ⟨PA, PC, rfl, hc1, hc2⟩ := S3.out.own.cap
      clear hc1 hc2
      cases b1 with
      | false =>
        have hr : p = (acc, s') := HR.out
        subst hr
        clear HR HB
        have hbk := HBK.out
        have hrt := HRT.out
        dsimp only at hbk hrt
        clear HBK HRT
        by_cases hop : pIs ts [123] (pMust ts [41] s') = true
        · rw [if_pos hop] at hbk hrt
          have HBK := hid hbk
          have HOP := hid hop
          have HRT := hid hrt
          clear hbk hop hrt
          go_wp2_with fail
          refine (S3.out.step (S3.out.here.must ⟨#[41]⟩)).mono ?_
          rintro e w4 ⟨rfl, h4⟩
          have S4 := hid h4
          clear h4
          go_wp2_with fail
          refine (S4.out.step (S4.out.here.is ⟨#[123]⟩ (b := true) HOP.out)).mono ?_
          rintro e w5 ⟨rfl, h5⟩
          have S5 := hid h5
          clear h5
          go_wp2_with fail
          have S7 := S5
          rw [HRT.out] at S7
          refine (S7.out.step (IH.out.block _ _ _ _ _ S7.out.here HBK.out HN.out)).mono ?_
          rintro e w8 ⟨rfl, h8⟩
          have S8 := hid h8
          clear h8
          obtain ⟨a4, f4, hF⟩ := S8.out.cells 4
          simp at a4
          go_upto_region 19 with (fail)
          have S9 := hid (S8.out.setBody (oneOf b.1))
          clear a4 f4 hF
          generalize w8.setCell ⟨F, 4, none⟩ (.int .i64 (oneOf b.1 : Nat)) = w9 at *
          obtain ⟨b0, _, hF⟩ := S9.out.cells 0
          obtain ⟨b1, _, _⟩ := S9.out.cells 1
          obtain ⟨b2, _, _⟩ := S9.out.cells 2
          obtain ⟨b3, _, _⟩ := S9.out.cells 3
          obtain ⟨b4, _, _⟩ := S9.out.cells 4
          have t0 := S9.out.bt.frozen 0
          have t1 := S9.out.bt.frozen 1
          have t2 := S9.out.bt.frozen 2
          have t3 := S9.out.bt.frozen 3
          have t4 := S9.out.bt.frozen 4
          have u0 := S9.out.bt.cell 0
          have u1 := S9.out.bt.cell 1
          have u2 := S9.out.bt.cell 2
          have u3 := S9.out.bt.cell 3
          have u4 := S9.out.bt.cell 4
          have hTl := S9.out.bt.lt
          simp at b0 b1 b2 b3 b4 u0 u1 u2 u3 u4
          go_wp2_with fail
          clear b0 b1 b2 b3 b4 t0 t1 t2 t3 t4 u0 u1 u2 u3 u4 hTl hF
          have HB9 := (((((S9.out.bt.setCell 0 (.string NM)).setCell 1 (.int .i64 line)).setCell 2 (.slice PA acc.length PC)).setCell 3 (.int .i64 RT)).setCell 4 (.int .i64 (oneOf b.1 : Nat)))
          have hF9 := Fr.five w9 T (.string NM) (.int .i64 line) (.slice PA acc.length PC) (.int .i64 RT) (.int .i64 (oneOf b.1 : Nat))
          have S10 := hid (S9.out.st.other hF9 (fun k hk => by rw [show k = T from hk]; exact ⟨S9.out.ht, _, _, S9.out.bt, by decide⟩))
          have O10 := hid (S9.out.own.fr hF9 (fun k hk hm => S9.out.own.blk_ne S9.out.bt (by decide) (by rw [hk, show k = T from hm])))
          clear hF9
          generalize ((((w9.setCell ⟨T, 0, none⟩ (.string NM)).setCell ⟨T, 1, none⟩ (.int .i64 line)).setCell ⟨T, 2, none⟩ (.slice PA acc.length PC)).setCell ⟨T, 3, none⟩ (.int .i64 RT)).setCell ⟨T, 4, none⟩ (.int .i64 (oneOf b.1 : Nat)) = w10 at *
          have z0 := HB9.cell 0
          have z1 := HB9.cell 1
          have z2 := HB9.cell 2
          have z3 := HB9.cell 3
          have z4 := HB9.cell 4
          simp at z0 z1 z2 z3 z4
          clear HB9
          refine bodyPost_ret (v := .agg #[.string NM, .int .i64 line, .slice PA acc.length PC, .int .i64 RT, .int .i64 (oneOf b.1 : Nat)]) (by simp [results, Tryd.results17, go_sem, z0, z1, z2, z3, z4]) rfl ⟨⟨.slice PA acc.length PC, by rw [HNM.out], O10.out, S9.out.new⟩, S10.out⟩
        · rw [if_neg hop] at hbk hrt
          have HBK := hid hbk
          have HRT := hid hrt
          have HOP := hid (show pIs ts [123] (pMust ts [41] s') = false by simpa using hop)
          clear hbk hop hrt
          go_wp2_with fail
          refine (S3.out.step (S3.out.here.must ⟨#[41]⟩)).mono ?_
          rintro e w4 ⟨rfl, h4⟩
          have S4 := hid h4
          clear h4
          go_wp2_with fail
          refine (S4.out.step (S4.out.here.is ⟨#[123]⟩ (b := false) HOP.out)).mono ?_
          rintro e w5 ⟨rfl, h5⟩
          have S5 := hid h5
          clear h5
          go_wp2_with fail
          refine (S5.out.step (S5.out.here.typed rfl)).mono ?_
          rintro e w6 ⟨rfl, h6⟩
          have S6 := hid h6
          clear h6
          obtain ⟨a3, f3, hF⟩ := S6.out.cells 3
          simp at a3
          go_wp2_with fail
          have S7 := hid (S6.out.setRet (pType ts (pMust ts [41] s')))
          clear a3 f3 hF
          generalize w6.setCell ⟨F, 3, none⟩ (.int .i64 (pType ts (pMust ts [41] s') : Nat)) = w7 at *
          rw [HRT.out] at S7
          refine (S7.out.step (IH.out.block _ _ _ _ _ S7.out.here HBK.out HN.out)).mono ?_
          rintro e w8 ⟨rfl, h8⟩
          have S8 := hid h8
          clear h8
          obtain ⟨a4, f4, hF⟩ := S8.out.cells 4
          simp at a4
          go_upto_region 19 with (fail)
          have S9 := hid (S8.out.setBody (oneOf b.1))
          clear a4 f4 hF
          generalize w8.setCell ⟨F, 4, none⟩ (.int .i64 (oneOf b.1 : Nat)) = w9 at *
          obtain ⟨b0, _, hF⟩ := S9.out.cells 0
          obtain ⟨b1, _, _⟩ := S9.out.cells 1
          obtain ⟨b2, _, _⟩ := S9.out.cells 2
          obtain ⟨b3, _, _⟩ := S9.out.cells 3
          obtain ⟨b4, _, _⟩ := S9.out.cells 4
          have t0 := S9.out.bt.frozen 0
          have t1 := S9.out.bt.frozen 1
          have t2 := S9.out.bt.frozen 2
          have t3 := S9.out.bt.frozen 3
          have t4 := S9.out.bt.frozen 4
          have u0 := S9.out.bt.cell 0
          have u1 := S9.out.bt.cell 1
          have u2 := S9.out.bt.cell 2
          have u3 := S9.out.bt.cell 3
          have u4 := S9.out.bt.cell 4
          have hTl := S9.out.bt.lt
          simp at b0 b1 b2 b3 b4 u0 u1 u2 u3 u4
          go_wp2_with fail
          clear b0 b1 b2 b3 b4 t0 t1 t2 t3 t4 u0 u1 u2 u3 u4 hTl hF
          have HB9 := (((((S9.out.bt.setCell 0 (.string NM)).setCell 1 (.int .i64 line)).setCell 2 (.slice PA acc.length PC)).setCell 3 (.int .i64 RT)).setCell 4 (.int .i64 (oneOf b.1 : Nat)))
          have hF9 := Fr.five w9 T (.string NM) (.int .i64 line) (.slice PA acc.length PC) (.int .i64 RT) (.int .i64 (oneOf b.1 : Nat))
          have S10 := hid (S9.out.st.other hF9 (fun k hk => by rw [show k = T from hk]; exact ⟨S9.out.ht, _, _, S9.out.bt, by decide⟩))
          have O10 := hid (S9.out.own.fr hF9 (fun k hk hm => S9.out.own.blk_ne S9.out.bt (by decide) (by rw [hk, show k = T from hm])))
          clear hF9
          generalize ((((w9.setCell ⟨T, 0, none⟩ (.string NM)).setCell ⟨T, 1, none⟩ (.int .i64 line)).setCell ⟨T, 2, none⟩ (.slice PA acc.length PC)).setCell ⟨T, 3, none⟩ (.int .i64 RT)).setCell ⟨T, 4, none⟩ (.int .i64 (oneOf b.1 : Nat)) = w10 at *
          have z0 := HB9.cell 0
          have z1 := HB9.cell 1
          have z2 := HB9.cell 2
          have z3 := HB9.cell 3
          have z4 := HB9.cell 4
          simp at z0 z1 z2 z3 z4
          clear HB9
          refine bodyPost_ret (v := .agg #[.string NM, .int .i64 line, .slice PA acc.length PC, .int .i64 RT, .int .i64 (oneOf b.1 : Nat)]) (by simp [results, Tryd.results17, go_sem, z0, z1, z2, z3, z4]) rfl ⟨⟨.slice PA acc.length PC, by rw [HNM.out], O10.out, S9.out.new⟩, S10.out⟩
      | true =>
        have hr : runParams ts gk acc s' = some p := HR.out
        cases gk with
        | zero => simp [runParams] at hr
        | succ k =>
          simp only [runParams] at hr
          have hb := HB.out rfl
          have hri := S3.out.st.i_le
          have HB2 := hid (show acc.length ≤ 1000 by omega)
          have hle := (((Ext.refl s').named (ts := ts)).typed (ts := ts)).i
          have HLE := hid (show acc.length ≤ (pTyped ts (pNamed ts s')).i by omega)
          have hok := (S3.out.st.ok.named S3.out.st.toks).typed S3.out.st.toks
          obtain ⟨X, hX⟩ : ∃ X, bs (pName ts s') = X := ⟨_, rfl⟩
          have HX := hid hX
          clear hb hri HB HR hle hX
          by_cases hm : pIs ts [44] (pTyped ts (pNamed ts s')) = true
          · rw [if_pos hm] at hr
            have HM := hid hm
            have HO := hid (hok.goIs S3.out.st.toks hm)
            have HR2 := hid hr
            clear hr hm hok
            go_wp2_with fail
            refine (S3.out.step (S3.out.here.name HX.out)).mono ?_
            rintro e w4 ⟨rfl, h4⟩
            have S4 := hid h4
            clear h4
            go_wp2_with fail
            refine (S4.out.step (S4.out.here.typed rfl)).mono ?_
            rintro e w5 ⟨rfl, h5⟩
            have S5 := hid h5
            clear h5
            obtain ⟨a2, f2, hF⟩ := S5.out.cells 2
            simp at a2
            go_wp2_with (at_builtin; go_loud (refine wpList_append (m := 1) (news := [.string X, .int .i64 (pType ts (pNamed ts s') : Nat)]) rfl _ _ rfl TyParam rfl rfl (S5.out.own.alloc _) (Rd.ofBlk (n := 1) (cs := [.string X, .int .i64 (pType ts (pNamed ts s') : Nat)]) (Blk.new _ _ _) rfl (by decide)) (by simp [Value.oneCell']) (by have h9 := HB2.out; omega) (by have h9 := HB2.out; unfold maxLen; omega) ?_); go_loud (intro A6 c6 w6 ho6 hf6 hv6; have S6 := hid (S5.out.app (x := pName ts s') (t := pType ts (pNamed ts s')) (by rw [HX.out]; exact ho6) hf6 hv6); have g2 := ((S5.out.bf.alloc _).fr hf6 (fun hm => S5.out.own.blk_ne S5.out.bf (by decide) hm)).frozen 2; have g3 := ((S5.out.bf.alloc _).fr hf6 (fun hm => S5.out.own.blk_ne S5.out.bf (by decide) hm)).cell 2; have g4 := ((S5.out.bf.alloc _).fr hf6 (fun hm => S5.out.own.blk_ne S5.out.bf (by decide) hm)).lt; simp at g3; clear ho6 hf6 hv6 a2 f2 hF))
            clear g2 g3 g4
            generalize w6.setCell ⟨F, 2, none⟩ (.slice A6 (acc.length + 1) c6) = w7 at *
            refine (S6.out.step (S6.out.here.is ⟨#[44]⟩ (b := true) HM.out)).mono ?_
            rintro e w8 ⟨rfl, h8⟩
            have S8 := hid h8
            clear h8
            obtain ⟨hg8, c18, c28, c48, c58, f28, f48⟩ := S8.out.st.cells
            have hi8 := S8.out.st.i_le
            go_wp2_with fail
            have S9 := hid (S8.out.to (S8.out.here.go HO.out))
            go_roundg k
            case measure => omega
            case rel => exact ⟨acc ++ [(pName ts s', pType ts (pNamed ts s'))], pGo (pTyped ts (pNamed ts s')), true, _, rfl, hid (by have := HK.out; omega), S9, HR2, hid (fun _ => by have h9 := HLE.out; rw [List.length_append]; show acc.length + 1 ≤ (pTyped ts (pNamed ts s')).i + 1; omega)⟩
          · rw [if_neg hm] at hr
            simp only [Option.some.injEq] at hr
            have HM := hid (show pIs ts [44] (pTyped ts (pNamed ts s')) = false by simpa using hm)
            have HR2 := hid hr.symm
            clear hr hm hok
            go_wp2_with fail
            refine (S3.out.step (S3.out.here.name HX.out)).mono ?_
            rintro e w4 ⟨rfl, h4⟩
            have S4 := hid h4
            clear h4
            go_wp2_with fail
            refine (S4.out.step (S4.out.here.typed rfl)).mono ?_
            rintro e w5 ⟨rfl, h5⟩
            have S5 := hid h5
            clear h5
            obtain ⟨a2, f2, hF⟩ := S5.out.cells 2
            simp at a2
            go_wp2_with (at_builtin; go_loud (refine wpList_append (m := 1) (news := [.string X, .int .i64 (pType ts (pNamed ts s') : Nat)]) rfl _ _ rfl TyParam rfl rfl (S5.out.own.alloc _) (Rd.ofBlk (n := 1) (cs := [.string X, .int .i64 (pType ts (pNamed ts s') : Nat)]) (Blk.new _ _ _) rfl (by decide)) (by simp [Value.oneCell']) (by have h9 := HB2.out; omega) (by have h9 := HB2.out; unfold maxLen; omega) ?_); go_loud (intro A6 c6 w6 ho6 hf6 hv6; have S6 := hid (S5.out.app (x := pName ts s') (t := pType ts (pNamed ts s')) (by rw [HX.out]; exact ho6) hf6 hv6); have g2 := ((S5.out.bf.alloc _).fr hf6 (fun hm => S5.out.own.blk_ne S5.out.bf (by decide) hm)).frozen 2; have g3 := ((S5.out.bf.alloc _).fr hf6 (fun hm => S5.out.own.blk_ne S5.out.bf (by decide) hm)).cell 2; have g4 := ((S5.out.bf.alloc _).fr hf6 (fun hm => S5.out.own.blk_ne S5.out.bf (by decide) hm)).lt; simp at g3; clear ho6 hf6 hv6 a2 f2 hF))
            clear g2 g3 g4
            generalize w6.setCell ⟨F, 2, none⟩ (.slice A6 (acc.length + 1) c6) = w7 at *
            refine (S6.out.step (S6.out.here.is ⟨#[44]⟩ (b := false) HM.out)).mono ?_
            rintro e w8 ⟨rfl, h8⟩
            have S8 := hid h8
            clear h8
            go_wp2_with fail
            go_roundg k
            case measure => omega
            case rel => exact ⟨acc ++ [(pName ts s', pType ts (pNamed ts s'))], pTyped ts (pNamed ts s'), false, _, rfl, hid (by have := HK.out; omega), S8, HR2, hid (fun h => by cases h)⟩
end
section
variable {src : List UInt8} {ts : List Tok}
theorem params_some : ∀ (n : Nat) (acc : List (List UInt8 × Nat)) (s : PS), rem ts s + 1 ≤ n → ∃ r, runParams ts n acc s = some r
 | 0, _, _, h => by omega
 | n + 1, acc, s, h => by
  simp only [runParams]
  by_cases hx : pIs ts [44] (pTyped ts (pNamed ts s)) = true
  · rw [if_pos hx]
    have h1 := rem_is hx (Ext.refl (pGo (pTyped ts (pNamed ts s))))
    have h2 : rem ts (pTyped ts (pNamed ts s)) ≤ rem ts s := rem_ext (((Ext.refl s).named (ts := ts)).typed (ts := ts))
    exact params_some n _ _ (by omega)
  · rw [if_neg hx]; exact ⟨_, rfl⟩
theorem func_ext {n : Nat} {s : PS} {fs : FuncM × PS} (h : runFunc src ts n s = some fs) : Ext (pMust ts [102, 110] s) fs.2 := by
 simp only [runFunc, Option.bind_eq_some_iff, Option.map_eq_some_iff] at h
 obtain ⟨p, hp, b, hb, rfl⟩ := h
 have hp2 : Ext (pMust ts [40] (pNamed ts (pMust ts [102, 110] s))) p.2 := by
   split at hp
   · exact params_ext _ _ _ _ hp
   · simp only [Option.some.injEq] at hp
     subst hp; exact Ext.refl _
 have hb2 := run_ext _ _ _ _ hb
 have h1 : Ext (pMust ts [102, 110] s) (pMust ts [41] p.2) := (((((Ext.refl _).named (ts := ts)).must (ts := ts) [40]).trans hp2).must (ts := ts) [41])
 split at hb2
 · exact h1.trans hb2
 · exact (h1.typed (ts := ts)).trans hb2
theorem func_ext' {n : Nat} {s : PS} {fs : FuncM × PS} (h : runFunc src ts n s = some fs) : Ext s fs.2 := ((Ext.refl s).must (ts := ts) [102, 110]).trans (func_ext h)
theorem func_some {n : Nat} {s : PS} (h : rem ts s + 15 ≤ n) : ∃ r, runFunc src ts n s = some r := by
 simp only [runFunc]
 obtain ⟨p, hp, hpe⟩ : ∃ p, (if pIs ts [41] (pMust ts [40] (pNamed ts (pMust ts [102, 110] s))) = false ∧ (pMust ts [40] (pNamed ts (pMust ts [102, 110] s))).e = 0 then runParams ts n [] (pMust ts [40] (pNamed ts (pMust ts [102, 110] s))) else some ([], pMust ts [40] (pNamed ts (pMust ts [102, 110] s)))) = some p ∧ Ext (pMust ts [40] (pNamed ts (pMust ts [102, 110] s))) p.2 := by
   have h1 : Ext s (pMust ts [40] (pNamed ts (pMust ts [102, 110] s))) := (((Ext.refl s).must (ts := ts) [102, 110]).named (ts := ts)).must (ts := ts) [40]
   have h2 := rem_ext (ts := ts) h1
   split
   · obtain ⟨p, hp⟩ := params_some (ts := ts) n [] (pMust ts [40] (pNamed ts (pMust ts [102, 110] s))) (by omega)
     exact ⟨p, hp, params_ext _ _ _ _ hp⟩
   · exact ⟨_, rfl, Ext.refl _⟩
 rw [hp]
 simp only [Option.bind_some]
 have h1 : Ext s (pMust ts [41] p.2) := (((((Ext.refl s).must (ts := ts) [102, 110]).named (ts := ts)).must (ts := ts) [40]).trans hpe).must (ts := ts) [41]
 split
 · obtain ⟨b, hb⟩ := run_some (src := src) (ts := ts) n .block (pMust ts [41] p.2) trivial (by have := rem_ext (ts := ts) h1; simp only [cost]; omega)
   rw [hb]; exact ⟨_, rfl⟩
 · obtain ⟨b, hb⟩ := run_some (src := src) (ts := ts) n .block (pTyped ts (pMust ts [41] p.2)) trivial (by have := rem_ext (ts := ts) (h1.typed (ts := ts)); simp only [cost]; omega)
   rw [hb]; exact ⟨_, rfl⟩
theorem must_goes {x : List UInt8} {s t : PS} (h : Ext (pMust ts x s) t) (h0 : t.e = 0) : pIs ts x s = true ∧ Ext (pGo s) t := by
 by_cases hx : pIs ts x s = true
 · refine ⟨hx, ?_⟩
   unfold pMust at h
   rw [if_pos hx] at h; exact h
 · exfalso
   unfold pMust at h
   rw [if_neg hx] at h
   have h1 := h.e0 h0
   unfold pFail at h1
   split at h1
   · simp at h1
   · rename_i h2; exact h2 h1
theorem fns_some : ∀ (n : Nat) (acc : List FuncM) (s : PS), rem ts s + 40 ≤ n → ∃ r, runFns src ts n acc s = some r := by
 intro n
 induction n with
 | zero => intro acc s h; omega
 | succ n ih =>
  intro acc s h
  simp only [runFns]
  split
  · exact ⟨_, rfl⟩
  · rename_i h0
    have h0 : s.e = 0 := by simpa using h0
    split
    · exact ⟨_, rfl⟩
    · obtain ⟨fs, hfs⟩ := func_some (src := src) (ts := ts) (n := n) (s := s) (by omega)
      rw [hfs]
      simp only [Option.bind_some]
      have he := func_ext hfs
      by_cases hf : fs.2.e = 0
      · obtain ⟨hx, hg⟩ := must_goes he hf
        have := rem_is hx hg
        exact ih _ _ (by omega)
      · cases n with
        | zero => omega
        | succ n => simp only [runFns]; rw [if_pos hf]; exact ⟨_, rfl⟩
theorem parse_some (src : List UInt8) : ∃ r, parseM src = some r := by
 unfold parseM
 cases lexM src with
 | bad p e => exact ⟨_, rfl⟩
 | good ts =>
  show ∃ r, parseT src ts = some r
  unfold parseT
  obtain ⟨r, hr⟩ := fns_some (src := src) (ts := ts) (parseFuel ts) [] ⟨0, [], 0, 0, 0⟩ (by unfold rem parseFuel; simp; omega)
  rw [hr]; exact ⟨_, rfl⟩
theorem params_ok (ht : ToksOk ts) : ∀ (n : Nat) (acc : List (List UInt8 × Nat)) (s : PS) (p : List (List UInt8 × Nat) × PS), runParams ts n acc s = some p → PSOk ts s → PSOk ts p.2
 | 0, _, _, _, h, _ => by simp [runParams] at h
 | n + 1, acc, s, p, h, hs => by
  simp only [runParams] at h
  split at h
  · rename_i hx
    exact params_ok ht n _ _ _ h (((hs.named ht).typed ht).goIs ht hx)
  · simp only [Option.some.injEq] at h
    subst h
    exact (hs.named ht).typed ht
theorem params_pot : ∀ (n : Nat) (acc : List (List UInt8 × Nat)) (s : PS) (p : List (List UInt8 × Nat) × PS), runParams ts n acc s = some p → pot p.2 ≤ pot s
 | 0, _, _, _, h => by simp [runParams] at h
 | n + 1, acc, s, p, h => by
  have typed : ∀ s, pot (pTyped ts s) ≤ pot s := fun s => by
    unfold pTyped; split
    · rw [pot_fail]; omega
    · rw [pot_go]; omega
  have h1 := pot_named (ts := ts) s
  have h2 := typed (pNamed ts s)
  simp only [runParams] at h
  split at h
  · have := params_pot n _ _ _ h
    rw [pot_go] at this; omega
  · simp only [Option.some.injEq] at h
    subst h
    exact Int.le_trans h2 h1
theorem func_ok (ht : ToksOk ts) {n : Nat} {s : PS} {fs : FuncM × PS} (h : runFunc src ts n s = some fs) (hs : PSOk ts s) : PSOk ts fs.2 ∧ pot fs.2 ≤ pot (pMust ts [102, 110] s) + 3 := by
 have typed : ∀ s, pot (pTyped ts s) ≤ pot s := fun s => by
   unfold pTyped; split
   · rw [pot_fail]; omega
   · rw [pot_go]; omega
 simp only [runFunc, Option.bind_eq_some_iff, Option.map_eq_some_iff] at h
 obtain ⟨p, hp, b, hb, rfl⟩ := h
 have h1 : PSOk ts (pMust ts [40] (pNamed ts (pMust ts [102, 110] s))) := ((hs.must ht _).named ht).must ht _
 have hpp : pot (pMust ts [40] (pNamed ts (pMust ts [102, 110] s))) ≤ pot (pMust ts [102, 110] s) := Int.le_trans (pot_must _ _) (pot_named _)
 have h2 : PSOk ts p.2 ∧ pot p.2 ≤ pot (pMust ts [102, 110] s) := by
   split at hp
   · exact ⟨params_ok ht _ _ _ _ hp h1, Int.le_trans (params_pot _ _ _ _ hp) hpp⟩
   · simp only [Option.some.injEq] at hp
     subst hp; exact ⟨h1, hpp⟩
 have h3 : PSOk ts (pMust ts [41] p.2) := h2.1.must ht _
 have h4 := pot_must (ts := ts) [41] p.2
 have hfew := (run_few _ _ _ _ hb).1
 have hok := run_ok ht _ _ _ _ hb
 simp only [kN] at hfew
 split at hfew
 · rename_i hx
   rw [if_pos hx] at hok
   exact ⟨hok h3, by have := h2.2; show pot b.2 ≤ _; omega⟩
 · rename_i hx
   rw [if_neg hx] at hok
   have := typed (pMust ts [41] p.2)
   exact ⟨hok (h3.typed ht), by have := h2.2; show pot b.2 ≤ _; omega⟩
theorem fns_ext : ∀ (n : Nat) (acc : List FuncM) (s : PS) (r : List FuncM × PS), runFns src ts n acc s = some r → Ext s r.2
 | 0, _, _, _, h => by simp [runFns] at h
 | n + 1, acc, s, r, h => by
  simp only [runFns] at h
  split at h
  · simp only [Option.some.injEq] at h; subst h; exact Ext.refl _
  · split at h
    · simp only [Option.some.injEq] at h; subst h; exact Ext.refl _
    · simp only [Option.bind_eq_some_iff] at h
      obtain ⟨fs, hfs, h⟩ := h
      exact (func_ext' hfs).trans (fns_ext n _ _ _ h)
theorem fns_ok (ht : ToksOk ts) : ∀ (n : Nat) (acc : List FuncM) (s : PS) (r : List FuncM × PS), runFns src ts n acc s = some r → PSOk ts s → PSOk ts r.2 ∧ pot r.2 ≤ pot s + 3
 | 0, _, _, _, h, _ => by simp [runFns] at h
 | n + 1, acc, s, r, h, hs => by
  simp only [runFns] at h
  split at h
  · simp only [Option.some.injEq] at h; subst h; exact ⟨hs, by show pot s ≤ _; omega⟩
  · split at h
    · simp only [Option.some.injEq] at h; subst h; exact ⟨hs, by show pot s ≤ _; omega⟩
    · simp only [Option.bind_eq_some_iff] at h
      obtain ⟨fs, hfs, h⟩ := h
      obtain ⟨a1, a2⟩ := func_ok ht hfs hs
      obtain ⟨b1, b2⟩ := fns_ok ht n _ _ _ h a1
      refine ⟨b1, ?_⟩
      by_cases he : fs.2.e = 0
      · obtain ⟨hx, _⟩ := must_goes (func_ext hfs) he
        have : pot (pMust ts [102, 110] s) = pot s - 20 := by unfold pMust; rw [if_pos hx, pot_go]
        omega
      · cases n with
        | zero => simp [runFns] at h
        | succ n =>
         simp only [runFns] at h
         rw [if_pos he] at h
         simp only [Option.some.injEq] at h
         subst h
         have := pot_must (ts := ts) [102, 110] s
         show pot fs.2 ≤ _
         omega
theorem fns_few (ht : ToksOk ts) {n : Nat} {r : List FuncM × PS} (h : runFns src ts n [] ⟨0, [], 0, 0, 0⟩ = some r) : r.2.nodes.length ≤ 1000000 := by
 have h0 : PSOk ts ⟨0, [], 0, 0, 0⟩ := ⟨ht.pos, by decide, fun _ => by decide, by decide, by decide⟩
 obtain ⟨a, b⟩ := fns_ok ht _ _ _ _ h h0
 have := a.room
 have := ht.few
 unfold pot at b
 simp at b
 omega
end
structure TokFine (N : Nat) (t : Tok) : Prop where
 kind : t.kind ≤ 5
 place : t.place ≤ N
 long : t.text.length ≤ N
 num : t.kind = 1 → t.text ≠ [] ∧ allDigits t.text ∧ digitsVal 0 t.text ≤ 9223372036854775807
theorem first_shape {l : List UInt8} {k o m n : Nat} (h0 : 0 < l.length) (h : firstM l = .ok k o m n) : 1 ≤ k ∧ k ≤ 5 ∧ (k = 1 → (l.drop o).take m ≠ [] ∧ allDigits ((l.drop o).take m) ∧ digitsVal 0 ((l.drop o).take m) ≤ 9223372036854775807) := by
 unfold firstM at h
 split at h
 · rename_i hd
   unfold numberM at h
   split at h
   · rename_i hn
     injection h with h1 h2 h3 h4
     subst h1; subst h2; subst h3
     have hp := runN_pos digitI l h0 hd
     have hle := runN_le digitI l
     refine ⟨by decide, by decide, fun _ => ?_⟩
     rw [List.drop_zero]
     unfold numOk at hn
     simp only [Bool.and_eq_true, decide_eq_true_eq] at hn
     refine ⟨fun e => ?_, run_digits l, hn.2⟩
     have := congrArg List.length e
     rw [List.length_take, List.length_nil] at this
     omega
   · cases h
 · split at h
   · unfold nameM at h
     split at h
     · injection h with h1 h2 h3 h4
       exact ⟨by omega, by omega, fun e => by omega⟩
     · split at h
       · cases h
       · injection h with h1 h2 h3 h4
         exact ⟨by omega, by omega, fun e => by omega⟩
   · split at h
     · unfold textM at h
       split at h
       · cases h
       · split at h
         · cases h
         · injection h with h1 h2 h3 h4
           exact ⟨by omega, by omega, fun e => by omega⟩
     · unfold signM at h
       split at h
       · injection h with h1 h2 h3 h4
         exact ⟨by omega, by omega, fun e => by omega⟩
       · split at h
         · injection h with h1 h2 h3 h4
           exact ⟨by omega, by omega, fun e => by omega⟩
         · cases h
theorem lex_shape : ∀ (n : Nat) (l : List UInt8) (p N : Nat) (ts : List Tok), l.length ≤ n → p + l.length ≤ N → lexFrom l p = .good ts →
  (∀ t ∈ ts, TokFine N t) ∧ ts.length ≤ l.length + 1 ∧ ∃ K q, ts = K ++ [⟨0, [], q⟩] ∧ ∀ t ∈ K, t.kind ≠ 0 := by
 intro n
 induction n with
 | zero =>
  intro l p N ts hl hN h
  have : l = [] := List.eq_nil_of_length_eq_zero (by omega)
  subst this
  rw [lex_nil] at h
  injection h with h
  subst h
  refine ⟨fun t ht => ?_, by simp, [], p, rfl, fun t ht => by cases ht⟩
  rw [List.mem_singleton.1 ht]
  exact ⟨by simp, by simp at hN ⊢; omega, by simp, fun e => by simp at e⟩
 | succ n ih =>
  intro l p N ts hl hN h
  refine lex_step (Mo := fun l p => l.length ≤ n + 1 → p + l.length ≤ N → lexFrom l p = .good ts → (∀ t ∈ ts, TokFine N t) ∧ ts.length ≤ l.length + 1 ∧ ∃ K q, ts = K ++ [⟨0, [], q⟩] ∧ ∀ t ∈ K, t.kind ≠ 0) l p ?_ ?_ ?_ ?_ ?_ hl hN h
  · intro _ _ hN h
    rw [lex_nil] at h
    injection h with h
    subst h
    refine ⟨fun t ht => ?_, by simp, [], p, rfl, fun t ht => by cases ht⟩
    rw [List.mem_singleton.1 ht]
    exact ⟨by simp, by simp at hN ⊢; omega, by simp, fun e => by simp at e⟩
  · intro h0 hb hl hN h
    rw [lex_blank h0 hb] at h
    have hd : (l.drop 1).length = l.length - 1 := by rw [List.length_drop]
    obtain ⟨a, b, c⟩ := ih (l.drop 1) (p + 1) N ts (by omega) (by omega) h
    exact ⟨a, by omega, c⟩
  · intro h0 hb hr hp hl hN h
    rw [lex_remark h0 hb hr] at h
    have hle := runN_le lineI l
    have hd : (l.drop (runN lineI l)).length = l.length - runN lineI l := by rw [List.length_drop]
    obtain ⟨a, b, c⟩ := ih (l.drop (runN lineI l)) (p + runN lineI l) N ts (by omega) (by omega) h
    exact ⟨a, by omega, c⟩
  · intro e h0 hb hr hf hl hN h
    rw [lex_err h0 hb hr hf] at h
    cases h
  · intro k o m n' h0 hb hr hf hl hN h
    obtain ⟨g1, g2, g3⟩ := firstM_ok h0 hf
    obtain ⟨k1, k2, k3⟩ := first_shape h0 hf
    rw [lex_ok h0 hb hr hf] at h
    have hd : (l.drop n').length = l.length - n' := by rw [List.length_drop]
    cases hq : lexFrom (l.drop n') (p + n') with
    | bad i e => rw [hq] at h; cases h
    | good us =>
     rw [hq] at h
     injection h with h
     obtain ⟨a, b, K, q, e1, e2⟩ := ih (l.drop n') (p + n') N us (by omega) (by omega) hq
     subst h
     refine ⟨fun t ht => ?_, by simp; omega, ⟨k, (l.drop o).take m, p⟩ :: K, q, by rw [e1]; rfl, fun t ht => ?_⟩
     · rcases List.mem_append.1 ht with ht | ht
       · rw [List.mem_singleton.1 ht]
         exact ⟨k2, by show p ≤ N; omega, by show ((l.drop o).take m).length ≤ N; rw [List.length_take]; omega, k3⟩
       · exact a t ht
     · rcases List.mem_cons.1 ht with rfl | ht
       · show k ≠ 0; omega
       · exact e2 t ht
theorem lexM_toks {l : List UInt8} {ts : List Tok} (h : lexM l = .good ts) : ToksOk ts := by
 unfold lexM at h
 split at h
 · cases h
 · rename_i hl
   obtain ⟨a, b, K, q, e1, e2⟩ := lex_shape l.length l 0 600 ts (Nat.le_refl _) (by omega) h
   refine ⟨by rw [e1]; simp, by omega, fun t ht => ⟨(a t ht).kind, by have := (a t ht).place; omega⟩, ?_, fun t ht => (a t ht).num, fun t ht => by have := (a t ht).long; omega⟩
   rw [e1, List.length_append, List.length_singleton, Nat.add_sub_cancel, List.getD, List.getElem?_append_right (Nat.le_refl _), Nat.sub_self]
   rfl
theorem lexM_few {l : List UInt8} {ts : List Tok} (h : lexM l = .good ts) : ts.length ≤ 601 := by
 unfold lexM at h
 split at h
 · cases h
 · obtain ⟨a, b, _⟩ := lex_shape l.length l 0 600 ts (Nat.le_refl _) (by omega) h
   omega
theorem TyFn : SlTy Tryd.prog 24 43 5 64 (.agg #[.string ⟨#[]⟩, .int .i64 0, .slice none 0 0, .int .i64 0, .int .i64 0]) := SlTy.mk' (by kernel_rfl) (by kernel_rfl) rfl (by decide)
def fnCell (f : FuncM) (v : Value) : List Value := [.string (bs f.name), .int .i64 f.line, v, .int .i64 f.ret, .int .i64 f.body]
def fnCells : List FuncM → List Value → List Value
 | f :: fs, v :: vs => fnCell f v ++ fnCells fs vs
 | _, _ => []
theorem fnCells_snoc : ∀ (fs : List FuncM) (vs : List Value) (f : FuncM) (v : Value), fs.length = vs.length → fnCells (fs ++ [f]) (vs ++ [v]) = fnCells fs vs ++ fnCell f v
 | [], [], f, v, _ => by simp [fnCells]
 | [], _ :: _, _, _, h => by simp at h
 | _ :: _, [], _, _, h => by simp at h
 | a :: fs, b :: vs, f, v, h => by
  rw [List.cons_append, List.cons_append, fnCells, fnCells_snoc fs vs f v (by simpa using h), fnCells, List.append_assoc]
theorem fnCells_get : ∀ {fs : List FuncM} {vs : List Value} {j : Nat} {f : FuncM} {v : Value}, fs[j]? = some f → vs[j]? = some v → (fnCells fs vs)[j * 5 + 2]? = some v
 | [], _, _, _, _, h, _ => by simp at h
 | _ :: _, [], _, _, _, _, h => by simp at h
 | a :: fs, b :: vs, 0, f, v, h, h2 => by simp at h h2; subst h; subst h2; rfl
 | a :: fs, b :: vs, j + 1, f, v, h, h2 => by
  have := fnCells_get (fs := fs) (vs := vs) (j := j) (by simpa using h) (by simpa using h2)
  rw [fnCells, List.getElem?_append_right (by simp [fnCell]; omega), show (fnCell a b).length = 5 from rfl, show (j + 1) * 5 + 2 - 5 = j * 5 + 2 by omega]
  exact this
theorem Own.some {w : World} {e size n c : Nat} {A : Option Addr} {xs : List Value} (h : Own w e size (.slice A n c) n xs) (h0 : 0 < n) :
   ∃ g, A = some ⟨g, 0, none⟩ ∧ ∀ j u, xs[j]? = some u → w.cell? ⟨g, j, none⟩ = some u := by
 obtain ⟨hl, A', c', hv, ⟨_, h2⟩ | ⟨g, cur, rfl, h1, hb, hnc, hcm, hsz, ht⟩⟩ := h
 · omega
 · injection hv with hA hn hc
   subst hA; subst hc
   refine ⟨g, rfl, fun j u hu => ?_⟩
   rw [hb.cell]
   rw [← ht, List.getElem?_take] at hu
   split at hu
   · simpa using hu
   · cases hu
def ParAll (w : World) : List FuncM → List Value → Prop
 | [], [] => True
 | f :: fs, v :: vs => Own w 80 2 v f.params.length (paramCells f.params) ∧ ParAll w fs vs
 | _, _ => False
section
variable {w w' : World}
theorem ParAll.to {M : Nat → Prop} (f : Fr M w w') (hM : ∀ k cs, Blk w k 80 cs → ¬ M k) : ∀ {fs : List FuncM} {vs : List Value}, ParAll w fs vs → ParAll w' fs vs
 | [], [], _ => trivial
 | [], _ :: _, h => h.elim
 | _ :: _, [], h => h.elim
 | _ :: _, _ :: _, h => ⟨h.1.fr f (fun k hk => by obtain ⟨cs, hc⟩ := h.1.ty hk; exact hM k cs hc), ParAll.to f hM h.2⟩
theorem ParAll.snoc {f : FuncM} {v : Value} (hn : Own w 80 2 v f.params.length (paramCells f.params)) : ∀ {fs : List FuncM} {vs : List Value}, ParAll w fs vs → ParAll w (fs ++ [f]) (vs ++ [v])
 | [], [], _ => ⟨hn, trivial⟩
 | [], _ :: _, h => h.elim
 | _ :: _, [], h => h.elim
 | _ :: _, _ :: _, h => ⟨h.1, ParAll.snoc hn h.2⟩
theorem ParAll.get : ∀ {fs : List FuncM} {vs : List Value} {j : Nat} {f : FuncM} {v : Value}, ParAll w fs vs → fs[j]? = some f → vs[j]? = some v → Own w 80 2 v f.params.length (paramCells f.params)
 | [], _, _, _, _, _, h, _ => by simp at h
 | _ :: _, [], _, _, _, _, _, h => by simp at h
 | a :: fs, b :: vs, 0, f, v, hp, h, h2 => by simp at h h2; subst h; subst h2; exact hp.1
 | a :: fs, b :: vs, j + 1, f, v, hp, h, h2 => ParAll.get hp.2 (by simpa using h) (by simpa using h2)
end
structure TreeAt (B : Nat) (w : World) (nv fv : Value) (lvs pvs : List Value) (ns : List NodeM) (fs : List FuncM) : Prop where
 nodes : Own w 49 5 nv ns.length (nodesCells ns lvs)
 below : Below2 w ns lvs
 same : ns.length = lvs.length
 fns : Own w 43 5 fv fs.length (fnCells fs pvs)
 pars : ParAll w fs pvs
 samef : fs.length = pvs.length
 newn : ∀ k, blk nv = some k → B ≤ k
 newf : ∀ k, blk fv = some k → B ≤ k
def ParseAt (B : Nat) (w : World) (e : Ending) : ParseR → Prop
 | .bad p er => e = .returned (.tuple #[.agg #[.slice none 0 0, .slice none 0 0], .int .i64 p, .int .i64 er])
 | .good nodes fns => ∃ nv fv lvs pvs, e = .returned (.tuple #[.agg #[nv, fv], .int .i64 0, .int .i64 0]) ∧ TreeAt B w nv fv lvs pvs nodes fns
structure ASt (src : ByteArray) (tb tc : Nat) (ts : List Tok) (g : Nat) (w0 : World) (TT T9 : Nat) (w : World) (s : PS) (fv : Value) (fns : List FuncM) (pvs : List Value) : Prop where
 st : St src tb tc ts g (fun _ => False) w0 w s
 bt : Blk w TT 26 #[.slice none 0 0, .slice none 0 0]
 b9 : Blk w T9 26 #[.slice none 0 0, fv]
 h9 : w0.heap.size ≤ T9
 ne : TT ≠ T9
 own : Own w 43 5 fv fns.length (fnCells fns pvs)
 pars : ParAll w fns pvs
 same : fns.length = pvs.length
 newf : ∀ k, blk fv = some k → w0.heap.size ≤ k
section
variable {src : ByteArray} {tb tc : Nat} {ts : List Tok} {g : Nat} {w0 w w1 w' : World} {s : PS} {TT T9 : Nat} {fv : Value} {fns : List FuncM} {pvs : List Value}
theorem FrR.far (h : FrR g w w') {cs : Array Value} {t : TypeId} (hb : Blk w g t cs) {k : Nat} {u : TypeId} {cu : Array Value} (hk : Blk w k u cu) (h1 : u ≠ t) (h2 : u ≠ 49) : ¬ (k = g ∨ (g < k ∧ NodeTy w k)) := by
 rintro (e | ⟨_, cs', f, hc⟩)
 · subst e; exact hk.ne hb h1 rfl
 · unfold Blk at hk
   rw [hk] at hc
   injection hc with hc
   injection hc with _ ht
   exact h2 ht
theorem ASt.to (h : ASt src tb tc ts g w0 TT T9 w s fv fns pvs) {s' : PS} (h' : St src tb tc ts g (fun _ => False) w w' s') : ASt src tb tc ts g w0 TT T9 w' s' fv fns pvs := by
 obtain ⟨cs, hb⟩ := h.st.g_blk
 exact ⟨h.st.back h', h'.fr.blk h.bt (h.bt.ne hb (by decide)) (by decide), h'.fr.blk h.b9 (h.b9.ne hb (by decide)) (by decide), h.h9, h.ne, h.own.frR hb (by decide) (by decide) h'.fr,
  h.pars.to h'.fr (fun k cu hk => h'.fr.far hb hk (by decide) (by decide)), h.same, h.newf⟩
theorem ASt.step (h : ASt src tb tc ts g w0 TT T9 w s fv fns pvs) {f : FuncId} {args : Array Value} {E : Ending → Prop} {s' : PS} (c : Calls Tryd.prog f args w fun e w' => E e ∧ St src tb tc ts g (fun _ => False) w w' s') :
 Calls Tryd.prog f args w fun e w' => E e ∧ ASt src tb tc ts g w0 TT T9 w' s' fv fns pvs := c.mono fun e w' ⟨he, h'⟩ => ⟨he, h.to h'⟩
theorem ASt.app (h : ASt src tb tc ts g w0 TT T9 w s fv fns pvs) {f : FuncM} {pv : Value} (hp : Own w 80 2 pv f.params.length (paramCells f.params)) {o1 o2 : Obj} {v' : Value}
   (ho : Own w' 43 5 v' (fns.length + 1) (fnCells fns pvs ++ fnCell f pv)) (hf : Fr (obl (blk fv)) ((w.alloc o1).alloc o2) w') (hv : blk v' = blk fv ∨ blk v' = some ((w.alloc o1).alloc o2).heap.size) :
   ASt src tb tc ts g w0 TT T9 (w'.setCell ⟨T9, 1, none⟩ v') s v' (fns ++ [f]) (pvs ++ [pv]) := by
 have hst := (h.st.alloc o1).alloc o2
 have hown := (h.own.alloc o1).alloc o2
 have hbt := (h.bt.alloc o1).alloc o2
 have hb9 := (h.b9.alloc o1).alloc o2
 have hpp := (hp.alloc o1).alloc o2
 have hpars : ParAll ((w.alloc o1).alloc o2) fns pvs := (h.pars.to (M := nob) (((Fr.refl nob w).alloc o1).alloc o2) (fun _ _ _ x => x))
 have h2 : St src tb tc ts g (fun _ => False) w0 w' s := hst.other (M := obl (blk fv)) hf (fun k hk => by
   obtain ⟨cs, hc⟩ := hown.ty (k := k) hk
   exact ⟨h.newf k hk, _, _, hc, by decide⟩)
 have hb92 := hb9.fr hf (fun hm => hown.blk_ne hb9 (by decide) hm)
 have hbt2 := hbt.fr hf (fun hm => hown.blk_ne hbt (by decide) hm)
 have hpars2 : ParAll w' fns pvs := hpars.to hf (fun k cs hk hm => by
   obtain ⟨cs2, hc⟩ := hown.ty (k := k) hm
   exact hk.ne hc (by decide) rfl)
 have hpp2 := hpp.fr hf (fun k hk hm => hown.blk_ne' hpp (by decide) hk hm)
 have fs : Fr (oneb T9) w' (w'.setCell ⟨T9, 1, none⟩ v') := (Fr.refl _ w').setCell _ _ (fun _ => rfl)
 have h3 : Own w' 43 5 v' (fns ++ [f]).length (fnCells (fns ++ [f]) (pvs ++ [pv])) := by
   rw [List.length_append, fnCells_snoc _ _ _ _ h.same]; exact ho
 refine ⟨h2.other (M := oneb T9) fs (fun k hk => by rw [show k = T9 from hk]; exact ⟨h.h9, _, _, hb92, by decide⟩), hbt2.far (p := ⟨T9, 1, none⟩) h.ne _, hb92.setCell 1 _, h.h9, h.ne, h3.far (p := ⟨T9, 1, none⟩) (h3.blk_ne hb92 (by decide)) _,
   ParAll.to fs (fun k cs hk hm => hk.ne hb92 (by decide) hm) (ParAll.snoc hpp2 hpars2), by simp [h.same], fun k hk => ?_⟩
 rcases hv with e | e
 · rw [e] at hk; exact h.newf k hk
 · rw [e] at hk; injection hk with hk
   have := hst.fr.size; omega
end
section
variable {src : ByteArray} {tb tc b0 : Nat} {ts : List Tok} {w0 : World}
theorem st_start (ht : Toks b0 w0 (.slice (some ⟨tb, 0, none⟩) ts.length tc) ts) (hk : ToksOk ts) (hs : src.size ≤ 281474976710656) :
  St src tb tc ts w0.heap.size (fun _ => False) w0 (w0.alloc (.cells #[.string src, .slice (some ⟨tb, 0, none⟩) ts.length tc, .int .i64 0, .slice none 0 0, .int .i64 0, .int .i64 0, .int .i64 0] 61)) ⟨0, [], 0, 0, 0⟩ := by
 have hf : Fr nob w0 (w0.alloc (.cells #[.string src, .slice (some ⟨tb, 0, none⟩) ts.length tc, .int .i64 0, .slice none 0 0, .int .i64 0, .int .i64 0, .int .i64 0] 61)) := (Fr.refl nob w0).alloc _
 have hb := Blk.new w0 61 #[.string src, .slice (some ⟨tb, 0, none⟩) ts.length tc, .int .i64 0, .slice none 0 0, .int .i64 0, .int .i64 0, .int .i64 0]
 refine ⟨⟨[], ⟨⟨.slice none 0 0, hb, Own.nil _ _ _⟩, trivial, rfl, ⟨_, ht.no hf⟩, fun nv h1 k hk => ?_⟩, fun v hv => by cases hv⟩, fun k hk => hk.elim, ⟨hk.pos, by decide, fun _ => by decide, by decide, by decide⟩, hk, hs, FrR.no hf⟩
 have h3 := hb.cell 3
 rw [h3] at h1
 simp at h1
 subst h1
 simp [blk] at hk
end
theorem fr_end {g : Nat} {w w1 w2 : World} {o : Obj} (h1 : Fr nob (w.alloc o) w1) (h2 : FrR g w1 w2) (hg : w.heap.size ≤ g) : Fr nob w w2 := by
 refine Fr.trans (((Fr.refl nob w).alloc o).tr h1) h2 (fun _ _ x => x) (fun k hk hm => ?_)
 rcases hm with e | ⟨e, _⟩ <;> omega
theorem TreeAt.far {B : Nat} {w w' : World} {nv fv : Value} {lvs pvs : List Value} {ns : List NodeM} {fs : List FuncM} (h : TreeAt B w nv fv lvs pvs ns fs) {M : Nat → Prop} (f : Fr M w w') (hM : ∀ k, M k → ∃ cs, Blk w k 26 cs) : TreeAt B w' nv fv lvs pvs ns fs := by
 have farO : ∀ {e size n : Nat} {v : Value} {xs : List Value}, Own w e size v n xs → e ≠ 26 → ∀ k, blk v = some k → ¬ M k := fun ho hne k hk hm => by
  obtain ⟨cs, hc⟩ := hM k hm
  exact ho.blk_ne hc hne hk
 have hbel : ∀ {ns : List NodeM} {vs : List Value}, Below2 w ns vs → Below2 w' ns vs := by
  intro ns
  induction ns with
  | nil => intro vs hb; cases vs with
   | nil => trivial
   | cons _ _ => exact hb.elim
  | cons n ns ih => intro vs hb; cases vs with
   | nil => exact hb.elim
   | cons u vs => exact ⟨hb.1.fr f (farO hb.1 (by decide)), ih hb.2⟩
 exact ⟨h.nodes.fr f (farO h.nodes (by decide)), hbel h.below, h.same, h.fns.fr f (farO h.fns (by decide)), h.pars.to f (fun k cs hk hm => by
  obtain ⟨cs2, hc⟩ := hM k hm
  exact hk.ne hc (by decide) rfl), h.samef, h.newn, h.newf⟩
theorem Blk.new1 (w : World) (o : Obj) (t : TypeId) (cs : Array Value) : Blk ((w.alloc o).alloc (.cells cs t)) (w.heap.size + 1) t cs := by
 have h := Blk.new (w.alloc o) t cs
 rwa [show (w.alloc o).heap.size = w.heap.size + 1 by simp] at h
theorem St.cell6 {src : ByteArray} {tb tc : Nat} {ts : List Tok} {g : Nat} {R : Nat → Prop} {w0 w : World} {s : PS} (h : St src tb tc ts g R w0 w s) : w.cell? ⟨g, 6, none⟩ = some (.int .i64 s.place) := by
 obtain ⟨lvs, hr, _⟩ := h.rdr
 obtain ⟨nv, hb⟩ := hr.blk
 have := hb.cell 6
 simpa using this
set_option maxHeartbeats 1600000 in
set_option maxRecDepth 100000 in
theorem pall_any (src : ByteArray) (w : World) (hs : src.size ≤ 281474976710656) {r : ParseR} (hr : parseM src.data.toList = some r) :
  Calls Tryd.prog 9 #[.string src] w fun e w' => ParseAt w.heap.size w' e r ∧ Fr nob w w' := by
 have HL := hid (fun w' => rall_any src w' hs)
 have HS := hid hs
 unfold parseM at hr
 cases hl : lexM src.data.toList with
 | bad p er =>
  rw [hl] at hr HL
  simp only [Option.some.injEq] at hr
  subst hr
  have hne : ((er : Int) == 0) = false := by
   have := lexM_bad hl
   exact beq_eq_false_iff_ne.2 (by omega)
  clear hl hs
  go_enter Tryd.func9, Tryd.ntmps9
  go_wp2_with fail
  refine (HL.out _).mono ?_
  rintro e w1 ⟨rfl, hf⟩
  have F1 := hid hf
  have hB := (Blk.new w 26 #[.slice none 0 0, .slice none 0 0]).fr hf (fun x => x)
  have t0 := hB.frozen 0
  have t1 := hB.frozen 1
  have u0 := hB.cell 0
  have u1 := hB.cell 1
  have ul := hB.lt
  simp at u0 u1
  clear hf hB
  go_wp2_with fail
  have F2 := hid (show Fr nob w ((w1.setCell ⟨w.heap.size, 0, none⟩ (.slice none 0 0)).setCell ⟨w.heap.size, 1, none⟩ (.slice none 0 0)) from
   ((((Fr.refl nob w).alloc _).tr F1.out).setCell _ _ (fun h => absurd h (Nat.lt_irrefl _))).setCell _ _ (fun h => absurd h (Nat.lt_irrefl _)))
  have hB2 := ((((Blk.new w 26 #[.slice none 0 0, .slice none 0 0]).fr F1.out (fun x => x)).setCell 0 (.slice none 0 0)).setCell 1 (.slice none 0 0))
  clear t0 t1 u0 u1 ul
  generalize (w1.setCell ⟨w.heap.size, 0, none⟩ (.slice none 0 0)).setCell ⟨w.heap.size, 1, none⟩ (.slice none 0 0) = w2 at *
  have z0 := hB2.cell 0
  have z1 := hB2.cell 1
  simp at z0 z1
  refine bodyPost_ret (v := .tuple #[.agg #[.slice none 0 0, .slice none 0 0], .int .i64 p, .int .i64 er]) (by simp [results, Tryd.results9, go_sem, z0, z1]) rfl ⟨rfl, F2.out⟩
 | good ts =>
  rw [hl] at hr HL
  have TK := hid (lexM_toks hl)
  have hfew := lexM_few hl
  simp only [parseT, Option.map_eq_some_iff] at hr
  obtain ⟨q, hq, hRR⟩ := hr
  have HRR := hid hRR
  have HQ := hid hq
  have HN := hid (fns_few (lexM_toks hl) hq)
  have hfu : parseFuel ts ≤ 40000 := by unfold parseFuel; omega
  have HFU := hid hfu
  clear hl hs hfu hfew hq hRR
  generalize parseFuel ts = n0 at *
  go_enter Tryd.func9, Tryd.ntmps9
  go_wp2_with fail
  refine (HL.out _).mono ?_
  rintro e w1 ⟨⟨v, rfl, htk⟩, hf⟩
  obtain ⟨A, tc, rfl, hc1, hc2⟩ := htk.slice
  obtain ⟨tb, rfl, _, _, _⟩ := htk.some TK.out.pos
  have F1 := hid hf
  have TA := hid htk
  have hsz := F1.out.size
  simp at hsz
  have HG := hid (show w.heap.size < w1.heap.size by omega)
  clear hf htk hc1 hc2 hsz
  go_wp2_with fail
  have AS := hid (show ASt src tb tc ts w1.heap.size w1 w.heap.size (w1.heap.size + 1) ((w1.alloc (.cells #[.string src, .slice (some ⟨tb, 0, none⟩) ts.length tc, .int .i64 0, .slice none 0 0, .int .i64 0, .int .i64 0, .int .i64 0] 61)).alloc (.cells #[.slice none 0 0, .slice none 0 0] 26)) ⟨0, [], 0, 0, 0⟩ (.slice none 0 0) [] [] from by
   have hS := st_start TA.out TK.out HS.out
   have hB := (((Blk.new w 26 #[.slice none 0 0, .slice none 0 0]).fr F1.out (fun x => x)).alloc (.cells #[.string src, .slice (some ⟨tb, 0, none⟩) ts.length tc, .int .i64 0, .slice none 0 0, .int .i64 0, .int .i64 0, .int .i64 0] 61)).alloc (.cells #[.slice none 0 0, .slice none 0 0] 26)
   have h9 := Blk.new (w1.alloc (.cells #[.string src, .slice (some ⟨tb, 0, none⟩) ts.length tc, .int .i64 0, .slice none 0 0, .int .i64 0, .int .i64 0, .int .i64 0] 61)) 26 #[.slice none 0 0, .slice none 0 0]
   rw [show (w1.alloc (.cells #[.string src, .slice (some ⟨tb, 0, none⟩) ts.length tc, .int .i64 0, .slice none 0 0, .int .i64 0, .int .i64 0, .int .i64 0] 61)).heap.size = w1.heap.size + 1 by simp] at h9
   exact ⟨hS.alloc _, hB, h9, Nat.le_succ _, by have := HG.out; omega, Own.nil _ _ _, trivial, rfl, fun k hk => by simp [blk] at hk⟩)
  clear TA
  go_loopg [10] n0 (fun k x wr => ∃ (fns : List FuncM) (pvs : List Value) (s' : PS) (fv : Value), Hid (fns.length + k ≤ n0) ∧ Hid (ASt src tb tc ts w1.heap.size w1 w.heap.size (w1.heap.size + 1) wr s' fv fns pvs) ∧ Hid (runFns src.data.toList ts k fns s' = some q))
  case atStart => exact ⟨[], [], _, _, hid (by simp), AS, HQ⟩
  case round =>
   obtain ⟨fns, pvs, s', fv, HK, S, HR⟩ := hrel
   clear AS HQ HL
   generalize w1.heap.size + 1 = T9 at *
   generalize w1.heap.size = g at *
   have hr := HR.out
   cases gk with
   | zero => simp [runFns] at hr
   | succ k =>
     simp only [runFns] at hr
     by_cases h0 : s'.e = 0
     case neg =>
       rw [if_pos h0] at hr
       simp only [Option.some.injEq] at hr
       subst hr
       have HR2 := hid (show r = .bad s'.place s'.e by rw [← HRR.out, if_pos h0])
       have he : ((s'.e : Int) == 0) = false := beq_eq_false_iff_ne.2 (by omega)
       have he2 : ((s'.e : Int) != 0) = true := by rw [bne, he]; rfl
       obtain ⟨hg, c1, c2, c4, c5, f2, f4⟩ := S.out.st.cells
       have c6 := S.out.st.cell6
       have t0 := S.out.bt.frozen 0
       have t1 := S.out.bt.frozen 1
       have u0 := S.out.bt.cell 0
       have u1 := S.out.bt.cell 1
       have hTl := S.out.bt.lt
       have HGT := hid (show w.heap.size ≠ g by have := HG.out; omega)
       simp at u0 u1
       go_wp2_with fail
       have m5 : (⟨w.heap.size, 0, none⟩ : Addr) ≠ ⟨g, 5, none⟩ := by intro e; injection e with e; exact HGT.out e
       have m6 : (⟨w.heap.size, 0, none⟩ : Addr) ≠ ⟨g, 6, none⟩ := by intro e; injection e with e; exact HGT.out e
       have p5 : (⟨w.heap.size, 1, none⟩ : Addr) ≠ ⟨g, 5, none⟩ := by intro e; injection e with e; exact HGT.out e
       have p6 : (⟨w.heap.size, 1, none⟩ : Addr) ≠ ⟨g, 6, none⟩ := by intro e; injection e with e; exact HGT.out e
       have D5 := hid c5
       have D6 := hid c6
       have E5 := hid ((World.cell?_setCell_other (wr.drew.setCell ⟨w.heap.size, 0, none⟩ (.slice none 0 0)) ⟨w.heap.size, 1, none⟩ ⟨g, 5, none⟩ (.slice none 0 0) p5).trans ((World.cell?_setCell_other wr.drew ⟨w.heap.size, 0, none⟩ ⟨g, 5, none⟩ (.slice none 0 0) m5).trans c5))
       have E6 := hid ((World.cell?_setCell_other (wr.drew.setCell ⟨w.heap.size, 0, none⟩ (.slice none 0 0)) ⟨w.heap.size, 1, none⟩ ⟨g, 6, none⟩ (.slice none 0 0) p6).trans ((World.cell?_setCell_other wr.drew ⟨w.heap.size, 0, none⟩ ⟨g, 6, none⟩ (.slice none 0 0) m6).trans c6))
       clear m5 m6 p5 p6
       go_region_held3 (fun wx => wx.cell? ⟨g, 5, none⟩ = some (.int .i64 s'.e) ∧ wx.cell? ⟨g, 6, none⟩ = some (.int .i64 s'.place)) (first | exact ⟨D5.out, D6.out⟩ | exact ⟨E5.out, E6.out⟩) (first | fail)
       -- END A
       clear D5 D6 E5 E6 hg c1 c2 c4 c5 f2 f4 c6 t0 t1 u0 u1 hTl he he2
       go_wp2_with fail
       have FE := hid (fr_end F1.out S.out.st.fr (Nat.le_of_lt HG.out))
       have hB2 := ((S.out.bt.setCell 0 (.slice none 0 0)).setCell 1 (.slice none 0 0))
       have F2 := hid (show Fr nob w (((wr.setCell ⟨w.heap.size, 0, none⟩ (.slice none 0 0)).setCell ⟨w.heap.size, 1, none⟩ (.slice none 0 0)).drew) from ((FE.out.setCell ⟨w.heap.size, 0, none⟩ (.slice none 0 0) (fun h => absurd h (Nat.lt_irrefl _))).setCell ⟨w.heap.size, 1, none⟩ (.slice none 0 0) (fun h => absurd h (Nat.lt_irrefl _))).drew)
       have hB3 : Blk (((wr.setCell ⟨w.heap.size, 0, none⟩ (.slice none 0 0)).setCell ⟨w.heap.size, 1, none⟩ (.slice none 0 0)).drew) w.heap.size 26 #[.slice none 0 0, .slice none 0 0] := hB2
       clear hB2
       generalize ((wr.setCell ⟨w.heap.size, 0, none⟩ (.slice none 0 0)).setCell ⟨w.heap.size, 1, none⟩ (.slice none 0 0)).drew = we at *
       have z0 := hB3.cell 0
       have z1 := hB3.cell 1
       simp at z0 z1
       clear hB3
       refine bodyPost_ret (v := .tuple #[.agg #[.slice none 0 0, .slice none 0 0], .int .i64 s'.place, .int .i64 s'.e]) (by simp [results, Tryd.results9, go_sem, z0, z1]) rfl ⟨by rw [HR2.out]; rfl, F2.out⟩
     case pos =>
       rw [if_neg (by omega)] at hr
       have he : ((s'.e : Int) == 0) = true := by rw [h0]; rfl
       have he2 : ((s'.e : Int) != 0) = false := by rw [bne, he]; rfl
       obtain ⟨hg, c1, c2, c4, c5, f2, f4⟩ := S.out.st.cells
       by_cases hk : pKind ts 0 s' = true
       · rw [if_pos hk] at hr
         simp only [Option.some.injEq] at hr
         subst hr
         have HKI := hid hk
         have HRR2 := hid (show r = if 300 < s'.nodes.length ∨ 6 < fns.length ∨ fns.any (fun f => decide (3 < f.params.length)) = true then .bad 0 4 else .good s'.nodes fns by rw [← HRR.out, if_neg (fun h => h h0)])
         clear HRR HR hk h0
         go_wp2_with fail
         refine (S.out.step (S.out.st.here.kind 0 (b := true) HKI.out)).mono ?_
         rintro e w4 ⟨rfl, h4⟩
         have S4 := hid h4
         clear h4 hg c1 c2 c4 c5 f2 f4
         obtain ⟨lvs, hrd, _⟩ := S4.out.st.rdr
         obtain ⟨nv, hgb, hon⟩ := hrd.cells
         have hnew := hrd.newer nv (hgb.cell 3)
         obtain ⟨NA, NC, rfl, _, _⟩ := hon.cap
         obtain ⟨FA, FC, rfl, hf1, hf2⟩ := S4.out.own.cap
         have hc2f := Nat.le_trans hf1 hf2
         clear hf1 hf2
         have TR := hid (show TreeAt w.heap.size w4 (.slice NA s'.nodes.length NC) (.slice FA fns.length FC) lvs pvs s'.nodes fns from
           ⟨hon, hrd.below, hrd.same, S4.out.own, S4.out.pars, S4.out.same, fun k hk => by have := hnew k hk; have := HG.out; omega, fun k hk => by have := S4.out.newf k hk; have := F1.out.size; simp at this; omega⟩)
         have c3 := hgb.cell 3
         have c5 := hgb.cell 5
         have u0 := S4.out.b9.cell 0
         have u1 := S4.out.b9.cell 1
         have t0 := S4.out.b9.frozen 0
         have h9l := S4.out.b9.lt
         simp at c3 c5 u0 u1
         have FE := hid (fr_end F1.out S4.out.st.fr (Nat.le_of_lt HG.out))
         have FB := hid (show Blk (w4.setCell ⟨T9, 0, none⟩ (.slice NA s'.nodes.length NC)) T9 26 #[.slice NA s'.nodes.length NC, .slice FA fns.length FC] from S4.out.b9.setCell 0 _)
         have TB := hid (show Blk (w4.setCell ⟨T9, 0, none⟩ (.slice NA s'.nodes.length NC)) w.heap.size 26 #[.slice none 0 0, .slice none 0 0] from S4.out.bt.far (p := ⟨T9, 0, none⟩) S4.out.ne _)
         have TR2 := hid (TR.out.far (M := oneb T9) ((Fr.refl _ w4).setCell ⟨T9, 0, none⟩ (.slice NA s'.nodes.length NC) (fun _ => rfl)) (fun k hk => by rw [show k = T9 from hk]; exact ⟨_, S4.out.b9⟩))
         have FE2 := hid (show Fr nob w (w4.setCell ⟨T9, 0, none⟩ (.slice NA s'.nodes.length NC)) from FE.out.setCell ⟨T9, 0, none⟩ _ (fun h => by have h' : T9 < w.heap.size := h; have := S4.out.h9; have h3 := F1.out.size; simp at h3; omega))
         have HT9 := hid S4.out.ne
         have HNL := hid (show s'.nodes.length ≤ 1000000 from HN.out)
         clear hrd hgb hon hnew S FE TR HK HN HKI
         by_cases q3 : 300 < s'.nodes.length
         · have n3 : (300 : Int) < (s'.nodes.length : Int) := by omega
           have HB0 := hid (show (true || fns.any (fun f => decide (3 < f.params.length))) = decide (300 < s'.nodes.length ∨ 6 < fns.length ∨ fns.any (fun f => decide (3 < f.params.length)) = true) by rw [Bool.eq_iff_iff, decide_eq_true_eq]; simp [q3])
           clear q3
           go_wp2_with fail
           clear c3 c5 u0 u1 t0 h9l S4 he he2
           generalize w4.setCell ⟨T9, 0, none⟩ (.slice NA s'.nodes.length NC) = w5 at *
           have HD := hid (show w5.cell? ⟨T9, 1, none⟩ = some (.slice FA fns.length FC) by simpa using FB.out.cell 1)
           have hFL : (fns.length : Int) ≤ 9223372036854775807 := by have := hc2f; unfold maxLen at this; omega
           clear hc2f
           go_loop [12, 13] (fun b i => ∃ j : Nat, j ≤ fns.length ∧ i = .int .i64 j ∧ b = .bool (true || (fns.take j).any (fun f => decide (3 < f.params.length)))) (fun _ i => fns.length - (intOf i).toNat)
           case atStart => exact ⟨0, Nat.zero_le _, rfl, by first | (simp; done) | (simp; omega)⟩
           case round =>
             obtain ⟨j, hj, rfl, rfl⟩ := hrel
             have d1 := HD.out
             by_cases hlt : j < fns.length
             · have hlt2 : (j : Int) < (fns.length : Int) := by omega
               have hls : j < pvs.length := by have := TR2.out.samef; omega
               obtain ⟨f, hf⟩ : ∃ f, fns[j]? = some f := ⟨_, List.getElem?_eq_getElem hlt⟩
               obtain ⟨pv, hpv⟩ : ∃ pv, pvs[j]? = some pv := ⟨_, List.getElem?_eq_getElem hls⟩
               obtain ⟨PA, PC, rfl, _, _⟩ := (TR2.out.pars.get hf hpv).cap
               obtain ⟨fb, rfl, hcell⟩ := TR2.out.fns.some (by omega)
               have e2 := hcell (j * 5 + 2) _ (fnCells_get hf hpv)
               have HTK := hid (show ∀ p : FuncM → Bool, (fns.take (j + 1)).any p = ((fns.take j).any p || p f) from fun p => by
                 rw [List.take_add_one, hf, List.any_append]; simp)
               clear hls hf hpv hcell
               obtain ⟨cur, hcur⟩ : ∃ cur, (true || (fns.take j).any (fun f => decide (3 < f.params.length))) = cur := ⟨_, rfl⟩
               rw [hcur]
               have HCUR := hid hcur
               clear hcur
               cases cur with
               | true =>
                 go_wp2
                 go_round
                 case rel => exact ⟨j + 1, by omega, by go_num, by rw [HTK.out, ← Bool.or_assoc, HCUR.out]; rfl⟩
                 case measure => simp [intOf]; omega
               | false =>
                 by_cases h3 : 3 < f.params.length
                 · have h3b : (3 : Int) < (f.params.length : Int) := by omega
                   have h3d := hid (decide_eq_true h3)
                   clear h3
                   go_wp2
                   go_round
                   case rel => exact ⟨j + 1, by omega, by go_num, by rw [HTK.out, ← Bool.or_assoc, HCUR.out, h3d.out]; first | done | rfl | (simp; done) | (simp; omega)⟩
                   case measure => simp [intOf]; omega
                 · have h3b : (f.params.length : Int) ≤ 3 := by omega
                   have h3d := hid (decide_eq_false h3)
                   clear h3
                   go_wp2
                   go_round
                   case rel => exact ⟨j + 1, by omega, by go_num, by rw [HTK.out, ← Bool.or_assoc, HCUR.out, h3d.out]; first | done | rfl | (simp; done) | (simp; omega)⟩
                   case measure => simp [intOf]; omega
             · have hle : (fns.length : Int) ≤ (j : Int) := by omega
               have htk := List.take_of_length_le (show fns.length ≤ j by omega)
               rw [htk, HB0.out]
               have t0 := TB.out.frozen 0
               have t1 := TB.out.frozen 1
               have u0 := TB.out.cell 0
               have u1 := TB.out.cell 1
               have ul := TB.out.lt
               have d0 : w5.cell? ⟨T9, 0, none⟩ = some (.slice NA s'.nodes.length NC) := by simpa using FB.out.cell 0
               simp at u0 u1
               clear htk
               obtain ⟨bg, hbg⟩ : ∃ bg, decide (300 < s'.nodes.length ∨ 6 < fns.length ∨ fns.any (fun f => decide (3 < f.params.length)) = true) = bg := ⟨_, rfl⟩
               rw [hbg]
               cases bg with
               | true =>
                 have HR2 := hid (show r = .bad 0 4 by rw [HRR2.out, if_pos (of_decide_eq_true hbg)])
                 have FE := FE2
                 clear hbg
                 go_wp2
                 clear t0 t1 u0 u1 ul d0 d1
                 have hB2 := ((TB.out.setCell 0 (.slice none 0 0)).setCell 1 (.slice none 0 0))
                 have F2 := hid (show Fr nob w (((w5.setCell ⟨w.heap.size, 0, none⟩ (.slice none 0 0)).setCell ⟨w.heap.size, 1, none⟩ (.slice none 0 0))) from ((FE.out.setCell ⟨w.heap.size, 0, none⟩ (.slice none 0 0) (fun h => absurd h (Nat.lt_irrefl _))).setCell ⟨w.heap.size, 1, none⟩ (.slice none 0 0) (fun h => absurd h (Nat.lt_irrefl _))))
                 have hB3 : Blk (((w5.setCell ⟨w.heap.size, 0, none⟩ (.slice none 0 0)).setCell ⟨w.heap.size, 1, none⟩ (.slice none 0 0))) w.heap.size 26 #[.slice none 0 0, .slice none 0 0] := hB2
                 clear hB2
                 generalize ((w5.setCell ⟨w.heap.size, 0, none⟩ (.slice none 0 0)).setCell ⟨w.heap.size, 1, none⟩ (.slice none 0 0)) = we at *
                 have z0 := hB3.cell 0
                 have z1 := hB3.cell 1
                 simp at z0 z1
                 clear hB3
                 refine bodyPost_ret (v := .tuple #[.agg #[.slice none 0 0, .slice none 0 0], .int .i64 0, .int .i64 4]) (by simp [results, Tryd.results9, go_sem, z0, z1]) rfl ⟨by rw [HR2.out]; rfl, F2.out⟩
               | false =>
                 have HR2 := hid (show r = .good s'.nodes fns by rw [HRR2.out, if_neg (of_decide_eq_false hbg)])
                 clear hbg
                 go_wp2
                 clear t0 t1 u0 u1 ul d0 d1
                 have hB2 := ((TB.out.setCell 0 (.slice NA s'.nodes.length NC)).setCell 1 (.slice FA fns.length FC))
                 have F2 := hid (show Fr nob w ((w5.setCell ⟨w.heap.size, 0, none⟩ (.slice NA s'.nodes.length NC)).setCell ⟨w.heap.size, 1, none⟩ (.slice FA fns.length FC)) from ((FE2.out.setCell ⟨w.heap.size, 0, none⟩ _ (fun h => absurd h (Nat.lt_irrefl _))).setCell ⟨w.heap.size, 1, none⟩ _ (fun h => absurd h (Nat.lt_irrefl _))))
                 have hone : Fr (oneb w.heap.size) w5 ((w5.setCell ⟨w.heap.size, 0, none⟩ (.slice NA s'.nodes.length NC)).setCell ⟨w.heap.size, 1, none⟩ (.slice FA fns.length FC)) := by
                   have h1 : Fr (oneb w.heap.size) w5 (w5.setCell ⟨w.heap.size, 0, none⟩ (.slice NA s'.nodes.length NC)) := (Fr.refl _ _).setCell _ _ (fun _ => rfl)
                   exact h1.setCell ⟨w.heap.size, 1, none⟩ _ (fun _ => rfl)
                 have TR3 := hid (TR2.out.far hone (fun k hk => by rw [show k = w.heap.size from hk]; exact ⟨_, TB.out⟩))
                 have hB3 : Blk ((w5.setCell ⟨w.heap.size, 0, none⟩ (.slice NA s'.nodes.length NC)).setCell ⟨w.heap.size, 1, none⟩ (.slice FA fns.length FC)) w.heap.size 26 #[.slice NA s'.nodes.length NC, .slice FA fns.length FC] := hB2
                 clear hB2 hone
                 generalize (w5.setCell ⟨w.heap.size, 0, none⟩ (.slice NA s'.nodes.length NC)).setCell ⟨w.heap.size, 1, none⟩ (.slice FA fns.length FC) = we at *
                 have z0 := hB3.cell 0
                 have z1 := hB3.cell 1
                 simp at z0 z1
                 clear hB3
                 refine bodyPost_ret (v := .tuple #[.agg #[.slice NA s'.nodes.length NC, .slice FA fns.length FC], .int .i64 0, .int .i64 0]) (by simp [results, Tryd.results9, go_sem, z0, z1]) rfl ⟨by rw [HR2.out]; exact ⟨_, _, lvs, pvs, rfl, TR3.out⟩, F2.out⟩
         · by_cases q6 : 6 < fns.length
           · have n3 : (s'.nodes.length : Int) ≤ 300 := by omega
             have n6 : (6 : Int) < (fns.length : Int) := by omega
             have HB0 := hid (show (true || fns.any (fun f => decide (3 < f.params.length))) = decide (300 < s'.nodes.length ∨ 6 < fns.length ∨ fns.any (fun f => decide (3 < f.params.length)) = true) by rw [Bool.eq_iff_iff, decide_eq_true_eq]; simp [q3, q6])
             clear q3 q6
             go_wp2_with fail
             clear c3 c5 u0 u1 t0 h9l S4 he he2
             generalize w4.setCell ⟨T9, 0, none⟩ (.slice NA s'.nodes.length NC) = w5 at *
             have HD := hid (show w5.cell? ⟨T9, 1, none⟩ = some (.slice FA fns.length FC) by simpa using FB.out.cell 1)
             have hFL : (fns.length : Int) ≤ 9223372036854775807 := by have := hc2f; unfold maxLen at this; omega
             clear hc2f
             go_loop [12, 13] (fun b i => ∃ j : Nat, j ≤ fns.length ∧ i = .int .i64 j ∧ b = .bool (true || (fns.take j).any (fun f => decide (3 < f.params.length)))) (fun _ i => fns.length - (intOf i).toNat)
             case atStart => exact ⟨0, Nat.zero_le _, rfl, by first | (simp; done) | (simp; omega)⟩
             case round =>
               obtain ⟨j, hj, rfl, rfl⟩ := hrel
               have d1 := HD.out
               by_cases hlt : j < fns.length
               · have hlt2 : (j : Int) < (fns.length : Int) := by omega
                 have hls : j < pvs.length := by have := TR2.out.samef; omega
                 obtain ⟨f, hf⟩ : ∃ f, fns[j]? = some f := ⟨_, List.getElem?_eq_getElem hlt⟩
                 obtain ⟨pv, hpv⟩ : ∃ pv, pvs[j]? = some pv := ⟨_, List.getElem?_eq_getElem hls⟩
                 obtain ⟨PA, PC, rfl, _, _⟩ := (TR2.out.pars.get hf hpv).cap
                 obtain ⟨fb, rfl, hcell⟩ := TR2.out.fns.some (by omega)
                 have e2 := hcell (j * 5 + 2) _ (fnCells_get hf hpv)
                 have HTK := hid (show ∀ p : FuncM → Bool, (fns.take (j + 1)).any p = ((fns.take j).any p || p f) from fun p => by
                   rw [List.take_add_one, hf, List.any_append]; simp)
                 clear hls hf hpv hcell
                 obtain ⟨cur, hcur⟩ : ∃ cur, (true || (fns.take j).any (fun f => decide (3 < f.params.length))) = cur := ⟨_, rfl⟩
                 rw [hcur]
                 have HCUR := hid hcur
                 clear hcur
                 cases cur with
                 | true =>
                   go_wp2
                   go_round
                   case rel => exact ⟨j + 1, by omega, by go_num, by rw [HTK.out, ← Bool.or_assoc, HCUR.out]; rfl⟩
                   case measure => simp [intOf]; omega
                 | false =>
                   by_cases h3 : 3 < f.params.length
                   · have h3b : (3 : Int) < (f.params.length : Int) := by omega
                     have h3d := hid (decide_eq_true h3)
                     clear h3
                     go_wp2
                     go_round
                     case rel => exact ⟨j + 1, by omega, by go_num, by rw [HTK.out, ← Bool.or_assoc, HCUR.out, h3d.out]; first | done | rfl | (simp; done) | (simp; omega)⟩
                     case measure => simp [intOf]; omega
                   · have h3b : (f.params.length : Int) ≤ 3 := by omega
                     have h3d := hid (decide_eq_false h3)
                     clear h3
                     go_wp2
                     go_round
                     case rel => exact ⟨j + 1, by omega, by go_num, by rw [HTK.out, ← Bool.or_assoc, HCUR.out, h3d.out]; first | done | rfl | (simp; done) | (simp; omega)⟩
                     case measure => simp [intOf]; omega
               · have hle : (fns.length : Int) ≤ (j : Int) := by omega
                 have htk := List.take_of_length_le (show fns.length ≤ j by omega)
                 rw [htk, HB0.out]
                 have t0 := TB.out.frozen 0
                 have t1 := TB.out.frozen 1
                 have u0 := TB.out.cell 0
                 have u1 := TB.out.cell 1
                 have ul := TB.out.lt
                 have d0 : w5.cell? ⟨T9, 0, none⟩ = some (.slice NA s'.nodes.length NC) := by simpa using FB.out.cell 0
                 simp at u0 u1
                 clear htk
                 obtain ⟨bg, hbg⟩ : ∃ bg, decide (300 < s'.nodes.length ∨ 6 < fns.length ∨ fns.any (fun f => decide (3 < f.params.length)) = true) = bg := ⟨_, rfl⟩
                 rw [hbg]
                 cases bg with
                 | true =>
                   have HR2 := hid (show r = .bad 0 4 by rw [HRR2.out, if_pos (of_decide_eq_true hbg)])
                   have FE := FE2
                   clear hbg
                   go_wp2
                   clear t0 t1 u0 u1 ul d0 d1
                   have hB2 := ((TB.out.setCell 0 (.slice none 0 0)).setCell 1 (.slice none 0 0))
                   have F2 := hid (show Fr nob w (((w5.setCell ⟨w.heap.size, 0, none⟩ (.slice none 0 0)).setCell ⟨w.heap.size, 1, none⟩ (.slice none 0 0))) from ((FE.out.setCell ⟨w.heap.size, 0, none⟩ (.slice none 0 0) (fun h => absurd h (Nat.lt_irrefl _))).setCell ⟨w.heap.size, 1, none⟩ (.slice none 0 0) (fun h => absurd h (Nat.lt_irrefl _))))
                   have hB3 : Blk (((w5.setCell ⟨w.heap.size, 0, none⟩ (.slice none 0 0)).setCell ⟨w.heap.size, 1, none⟩ (.slice none 0 0))) w.heap.size 26 #[.slice none 0 0, .slice none 0 0] := hB2
                   clear hB2
                   generalize ((w5.setCell ⟨w.heap.size, 0, none⟩ (.slice none 0 0)).setCell ⟨w.heap.size, 1, none⟩ (.slice none 0 0)) = we at *
                   have z0 := hB3.cell 0
                   have z1 := hB3.cell 1
                   simp at z0 z1
                   clear hB3
                   refine bodyPost_ret (v := .tuple #[.agg #[.slice none 0 0, .slice none 0 0], .int .i64 0, .int .i64 4]) (by simp [results, Tryd.results9, go_sem, z0, z1]) rfl ⟨by rw [HR2.out]; rfl, F2.out⟩
                 | false =>
                   have HR2 := hid (show r = .good s'.nodes fns by rw [HRR2.out, if_neg (of_decide_eq_false hbg)])
                   clear hbg
                   go_wp2
                   clear t0 t1 u0 u1 ul d0 d1
                   have hB2 := ((TB.out.setCell 0 (.slice NA s'.nodes.length NC)).setCell 1 (.slice FA fns.length FC))
                   have F2 := hid (show Fr nob w ((w5.setCell ⟨w.heap.size, 0, none⟩ (.slice NA s'.nodes.length NC)).setCell ⟨w.heap.size, 1, none⟩ (.slice FA fns.length FC)) from ((FE2.out.setCell ⟨w.heap.size, 0, none⟩ _ (fun h => absurd h (Nat.lt_irrefl _))).setCell ⟨w.heap.size, 1, none⟩ _ (fun h => absurd h (Nat.lt_irrefl _))))
                   have hone : Fr (oneb w.heap.size) w5 ((w5.setCell ⟨w.heap.size, 0, none⟩ (.slice NA s'.nodes.length NC)).setCell ⟨w.heap.size, 1, none⟩ (.slice FA fns.length FC)) := by
                     have h1 : Fr (oneb w.heap.size) w5 (w5.setCell ⟨w.heap.size, 0, none⟩ (.slice NA s'.nodes.length NC)) := (Fr.refl _ _).setCell _ _ (fun _ => rfl)
                     exact h1.setCell ⟨w.heap.size, 1, none⟩ _ (fun _ => rfl)
                   have TR3 := hid (TR2.out.far hone (fun k hk => by rw [show k = w.heap.size from hk]; exact ⟨_, TB.out⟩))
                   have hB3 : Blk ((w5.setCell ⟨w.heap.size, 0, none⟩ (.slice NA s'.nodes.length NC)).setCell ⟨w.heap.size, 1, none⟩ (.slice FA fns.length FC)) w.heap.size 26 #[.slice NA s'.nodes.length NC, .slice FA fns.length FC] := hB2
                   clear hB2 hone
                   generalize (w5.setCell ⟨w.heap.size, 0, none⟩ (.slice NA s'.nodes.length NC)).setCell ⟨w.heap.size, 1, none⟩ (.slice FA fns.length FC) = we at *
                   have z0 := hB3.cell 0
                   have z1 := hB3.cell 1
                   simp at z0 z1
                   clear hB3
                   refine bodyPost_ret (v := .tuple #[.agg #[.slice NA s'.nodes.length NC, .slice FA fns.length FC], .int .i64 0, .int .i64 0]) (by simp [results, Tryd.results9, go_sem, z0, z1]) rfl ⟨by rw [HR2.out]; exact ⟨_, _, lvs, pvs, rfl, TR3.out⟩, F2.out⟩
           · have n3 : (s'.nodes.length : Int) ≤ 300 := by omega
             have n6 : (fns.length : Int) ≤ 6 := by omega
             have HB0 := hid (show (false || fns.any (fun f => decide (3 < f.params.length))) = decide (300 < s'.nodes.length ∨ 6 < fns.length ∨ fns.any (fun f => decide (3 < f.params.length)) = true) by rw [Bool.eq_iff_iff, decide_eq_true_eq]; simp [q3, q6])
             clear q3 q6
             go_wp2_with fail
             clear c3 c5 u0 u1 t0 h9l S4 he he2
             generalize w4.setCell ⟨T9, 0, none⟩ (.slice NA s'.nodes.length NC) = w5 at *
             have HD := hid (show w5.cell? ⟨T9, 1, none⟩ = some (.slice FA fns.length FC) by simpa using FB.out.cell 1)
             have hFL : (fns.length : Int) ≤ 9223372036854775807 := by have := hc2f; unfold maxLen at this; omega
             clear hc2f
             go_loop [12, 13] (fun b i => ∃ j : Nat, j ≤ fns.length ∧ i = .int .i64 j ∧ b = .bool (false || (fns.take j).any (fun f => decide (3 < f.params.length)))) (fun _ i => fns.length - (intOf i).toNat)
             case atStart => exact ⟨0, Nat.zero_le _, rfl, by first | (simp; done) | (simp; omega)⟩
             case round =>
               obtain ⟨j, hj, rfl, rfl⟩ := hrel
               have d1 := HD.out
               by_cases hlt : j < fns.length
               · have hlt2 : (j : Int) < (fns.length : Int) := by omega
                 have hls : j < pvs.length := by have := TR2.out.samef; omega
                 obtain ⟨f, hf⟩ : ∃ f, fns[j]? = some f := ⟨_, List.getElem?_eq_getElem hlt⟩
                 obtain ⟨pv, hpv⟩ : ∃ pv, pvs[j]? = some pv := ⟨_, List.getElem?_eq_getElem hls⟩
                 obtain ⟨PA, PC, rfl, _, _⟩ := (TR2.out.pars.get hf hpv).cap
                 obtain ⟨fb, rfl, hcell⟩ := TR2.out.fns.some (by omega)
                 have e2 := hcell (j * 5 + 2) _ (fnCells_get hf hpv)
                 have HTK := hid (show ∀ p : FuncM → Bool, (fns.take (j + 1)).any p = ((fns.take j).any p || p f) from fun p => by
                   rw [List.take_add_one, hf, List.any_append]; simp)
                 clear hls hf hpv hcell
                 obtain ⟨cur, hcur⟩ : ∃ cur, (false || (fns.take j).any (fun f => decide (3 < f.params.length))) = cur := ⟨_, rfl⟩
                 rw [hcur]
                 have HCUR := hid hcur
                 clear hcur
                 cases cur with
                 | true =>
                   go_wp2
                   go_round
                   case rel => exact ⟨j + 1, by omega, by go_num, by rw [HTK.out, ← Bool.or_assoc, HCUR.out]; rfl⟩
                   case measure => simp [intOf]; omega
                 | false =>
                   by_cases h3 : 3 < f.params.length
                   · have h3b : (3 : Int) < (f.params.length : Int) := by omega
                     have h3d := hid (decide_eq_true h3)
                     clear h3
                     go_wp2
                     go_round
                     case rel => exact ⟨j + 1, by omega, by go_num, by rw [HTK.out, ← Bool.or_assoc, HCUR.out, h3d.out]; first | done | rfl | (simp; done) | (simp; omega)⟩
                     case measure => simp [intOf]; omega
                   · have h3b : (f.params.length : Int) ≤ 3 := by omega
                     have h3d := hid (decide_eq_false h3)
                     clear h3
                     go_wp2
                     go_round
                     case rel => exact ⟨j + 1, by omega, by go_num, by rw [HTK.out, ← Bool.or_assoc, HCUR.out, h3d.out]; first | done | rfl | (simp; done) | (simp; omega)⟩
                     case measure => simp [intOf]; omega
               · have hle : (fns.length : Int) ≤ (j : Int) := by omega
                 have htk := List.take_of_length_le (show fns.length ≤ j by omega)
                 rw [htk, HB0.out]
                 have t0 := TB.out.frozen 0
                 have t1 := TB.out.frozen 1
                 have u0 := TB.out.cell 0
                 have u1 := TB.out.cell 1
                 have ul := TB.out.lt
                 have d0 : w5.cell? ⟨T9, 0, none⟩ = some (.slice NA s'.nodes.length NC) := by simpa using FB.out.cell 0
                 simp at u0 u1
                 clear htk
                 obtain ⟨bg, hbg⟩ : ∃ bg, decide (300 < s'.nodes.length ∨ 6 < fns.length ∨ fns.any (fun f => decide (3 < f.params.length)) = true) = bg := ⟨_, rfl⟩
                 rw [hbg]
                 cases bg with
                 | true =>
                   have HR2 := hid (show r = .bad 0 4 by rw [HRR2.out, if_pos (of_decide_eq_true hbg)])
                   have FE := FE2
                   clear hbg
                   go_wp2
                   clear t0 t1 u0 u1 ul d0 d1
                   have hB2 := ((TB.out.setCell 0 (.slice none 0 0)).setCell 1 (.slice none 0 0))
                   have F2 := hid (show Fr nob w (((w5.setCell ⟨w.heap.size, 0, none⟩ (.slice none 0 0)).setCell ⟨w.heap.size, 1, none⟩ (.slice none 0 0))) from ((FE.out.setCell ⟨w.heap.size, 0, none⟩ (.slice none 0 0) (fun h => absurd h (Nat.lt_irrefl _))).setCell ⟨w.heap.size, 1, none⟩ (.slice none 0 0) (fun h => absurd h (Nat.lt_irrefl _))))
                   have hB3 : Blk (((w5.setCell ⟨w.heap.size, 0, none⟩ (.slice none 0 0)).setCell ⟨w.heap.size, 1, none⟩ (.slice none 0 0))) w.heap.size 26 #[.slice none 0 0, .slice none 0 0] := hB2
                   clear hB2
                   generalize ((w5.setCell ⟨w.heap.size, 0, none⟩ (.slice none 0 0)).setCell ⟨w.heap.size, 1, none⟩ (.slice none 0 0)) = we at *
                   have z0 := hB3.cell 0
                   have z1 := hB3.cell 1
                   simp at z0 z1
                   clear hB3
                   refine bodyPost_ret (v := .tuple #[.agg #[.slice none 0 0, .slice none 0 0], .int .i64 0, .int .i64 4]) (by simp [results, Tryd.results9, go_sem, z0, z1]) rfl ⟨by rw [HR2.out]; rfl, F2.out⟩
                 | false =>
                   have HR2 := hid (show r = .good s'.nodes fns by rw [HRR2.out, if_neg (of_decide_eq_false hbg)])
                   clear hbg
                   go_wp2
                   clear t0 t1 u0 u1 ul d0 d1
                   have hB2 := ((TB.out.setCell 0 (.slice NA s'.nodes.length NC)).setCell 1 (.slice FA fns.length FC))
                   have F2 := hid (show Fr nob w ((w5.setCell ⟨w.heap.size, 0, none⟩ (.slice NA s'.nodes.length NC)).setCell ⟨w.heap.size, 1, none⟩ (.slice FA fns.length FC)) from ((FE2.out.setCell ⟨w.heap.size, 0, none⟩ _ (fun h => absurd h (Nat.lt_irrefl _))).setCell ⟨w.heap.size, 1, none⟩ _ (fun h => absurd h (Nat.lt_irrefl _))))
                   have hone : Fr (oneb w.heap.size) w5 ((w5.setCell ⟨w.heap.size, 0, none⟩ (.slice NA s'.nodes.length NC)).setCell ⟨w.heap.size, 1, none⟩ (.slice FA fns.length FC)) := by
                     have h1 : Fr (oneb w.heap.size) w5 (w5.setCell ⟨w.heap.size, 0, none⟩ (.slice NA s'.nodes.length NC)) := (Fr.refl _ _).setCell _ _ (fun _ => rfl)
                     exact h1.setCell ⟨w.heap.size, 1, none⟩ _ (fun _ => rfl)
                   have TR3 := hid (TR2.out.far hone (fun k hk => by rw [show k = w.heap.size from hk]; exact ⟨_, TB.out⟩))
                   have hB3 : Blk ((w5.setCell ⟨w.heap.size, 0, none⟩ (.slice NA s'.nodes.length NC)).setCell ⟨w.heap.size, 1, none⟩ (.slice FA fns.length FC)) w.heap.size 26 #[.slice NA s'.nodes.length NC, .slice FA fns.length FC] := hB2
                   clear hB2 hone
                   generalize (w5.setCell ⟨w.heap.size, 0, none⟩ (.slice NA s'.nodes.length NC)).setCell ⟨w.heap.size, 1, none⟩ (.slice FA fns.length FC) = we at *
                   have z0 := hB3.cell 0
                   have z1 := hB3.cell 1
                   simp at z0 z1
                   clear hB3
                   refine bodyPost_ret (v := .tuple #[.agg #[.slice NA s'.nodes.length NC, .slice FA fns.length FC], .int .i64 0, .int .i64 0]) (by simp [results, Tryd.results9, go_sem, z0, z1]) rfl ⟨by rw [HR2.out]; exact ⟨_, _, lvs, pvs, rfl, TR3.out⟩, F2.out⟩
       · rw [if_neg hk] at hr
         simp only [Option.bind_eq_some_iff] at hr
         obtain ⟨fs, hfs, hr⟩ := hr
         have HN2 := hid (Nat.le_trans (nodes_le (fns_ext _ _ _ _ hr)) HN.out)
         have HKI := hid (show pKind ts 0 s' = false by simpa using hk)
         have HFS := hid hfs
         have HR2 := hid hr
         have HB2 := hid (show fns.length ≤ 40000 by have := HK.out; have := HFU.out; omega)
         clear hr hk h0 hfs HR
         go_wp2_with fail
         refine (S.out.step (S.out.st.here.kind 0 (b := false) HKI.out)).mono ?_
         rintro e w4 ⟨rfl, h4⟩
         have S4 := hid h4
         clear h4 hg c1 c2 c4 c5 f2 f4 S he he2
         go_wp2_with fail
         refine (func_any (good_all k) S4.out.st.here HFS.out HN2.out).mono ?_
         rintro e w5 ⟨⟨pv, rfl, hpo, hpn⟩, h5⟩
         obtain ⟨PA, PC, rfl, _, _⟩ := hpo.cap
         have S5 := hid (S4.out.to h5)
         have HPO := hid hpo
         clear h5 hpo hpn S4
         obtain ⟨FA, FC, rfl, hf1, hf2⟩ := S5.out.own.cap
         clear hf1 hf2
         have u0 := S5.out.b9.cell 0
         have u1 := S5.out.b9.cell 1
         have t1 := S5.out.b9.frozen 1
         have h9l := S5.out.b9.lt
         simp at u0 u1
         go_wp2_with (at_builtin; go_loud (refine wpList_append (m := 1) (news := [.string (bs fs.1.name), .int .i64 fs.1.line, .slice PA fs.1.params.length PC, .int .i64 fs.1.ret, .int .i64 fs.1.body]) rfl _ _ rfl TyFn rfl rfl ((S5.out.own.alloc _).alloc _) (Rd.ofBlk (n := 1) (cs := [.string (bs fs.1.name), .int .i64 fs.1.line, .slice PA fs.1.params.length PC, .int .i64 fs.1.ret, .int .i64 fs.1.body]) (Blk.new1 _ _ _ _) rfl (by decide)) (by simp [Value.oneCell']) (by have h9 := HB2.out; omega) (by have h9 := HB2.out; unfold maxLen; omega) ?_); go_loud (intro A6 c6 w6 ho6 hf6 hv6; have S6 := hid (S5.out.app (f := fs.1) HPO.out ho6 hf6 hv6); have g2 := (((S5.out.b9.alloc _).alloc _).fr hf6 (fun hm => S5.out.own.blk_ne S5.out.b9 (by decide) hm)).frozen 1; have g3 := (((S5.out.b9.alloc _).alloc _).fr hf6 (fun hm => S5.out.own.blk_ne S5.out.b9 (by decide) hm)).cell 1; have g4 := (((S5.out.b9.alloc _).alloc _).fr hf6 (fun hm => S5.out.own.blk_ne S5.out.b9 (by decide) hm)).lt; simp at g3; clear ho6 hf6 hv6 u0 u1 t1 h9l))
         go_roundg k
         case measure => omega
         case rel => exact ⟨fns ++ [fs.1], pvs ++ [.slice PA fs.1.params.length PC], fs.2, _, hid (by have := HK.out; rw [List.length_append]; simp; omega), S6, HR2⟩
end Go.Proofs.YtlbjicjinnnboaaDoor
