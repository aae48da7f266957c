/- CompileStacks: the law's walk. Printed by wip/tools/mkstk.py. -/
import Derived.Test.YtlbjicjinnnboaaGreatDoorTLw
import Derived.Deep.DeepCutAuto
namespace Go.Proofs.YtlbjicjinnnboaaGreatDoor
open Go.RowKit
open Pw
set_option linter.unusedVariables false
set_option linter.unusedSimpArgs false
set_option maxHeartbeats 8000000 in
set_option maxRecDepth 100000 in
theorem compileStacks_walk (HSRC : SrcAny) (s : ByteArray) (w : World) : Calls Tryz.prog 5 #[.string s] w fun e w' => e = .returned (.bool true) ∧ Fr nob w w' := by
  have HSH := hid (shown9_any HSRC w)
  obtain ⟨T, hT⟩ : ∃ T, s.data.toList.take 700 = T := ⟨_, rfl⟩
  have HSO := hid (fun w' => short9_any s w')
  rw [hT] at HSO
  have hTl : T.length ≤ 700 := by rw [← hT, List.length_take]; omega
  obtain ⟨r, hr⟩ := source_some T
  have HS := hid (fun w' => HSRC (bs T) w' (by show T.toArray.size ≤ _; rw [List.size_toArray]; omega) (r := r) hr)
  have HR := hid hr
  clear hT hTl hr
  go_enter Tryz.func5, Tryz.ntmps5
  go_wp2_with fail
  refine HSH.out.mono ?_
  rintro e w1 ⟨rfl, hf1⟩
  have F1 := hid hf1
  clear hf1 HSH
  go_wp2_with fail
  refine (HSO.out w1).mono ?_
  rintro e w1' ⟨rfl, hw⟩
  subst hw
  go_wp2_with fail
  refine (HS.out _).mono ?_
  rintro e w2 ⟨hsa, hf2⟩
  have F2 := hid (F1.out.tr hf2)
  clear hf2 HS HSO F1
  cases r with
  | bad p er =>
    obtain ⟨he, he0⟩ := hsa
    have he : e = .returned (.tuple #[.agg #[.slice none 0 0, .slice none 0 0, .slice none 0 0, .slice none 0 0, .slice none 0 0, .slice none 0 0], .int .i64 (p : Nat), .int .i64 (er : Nat)]) := he
    subst he
    have heb : ((er : Int) == 0) = false := beq_eq_false_iff_ne.2 (by omega)
    have hne : ((er : Int) != 0) = true := by rw [bne, heb]; rfl
    clear he0
    go_wp2_with fail
    go_ret
    exact ⟨rfl, F2.out.alloc _⟩
  | good p =>
    have HI := hid (source_is HR.out).1
    obtain ⟨g, hg, pg, rfl⟩ := source_prog hsa HI.out
    subst hg
    clear hsa
    have P2 := hid (pg.no ((Fr.refl nob w2).alloc (.cells #[.slice (some ⟨g.nb, 0, none⟩) g.p.ns.length g.nc, .slice (some ⟨g.fb, 0, none⟩) g.p.fs.length g.fc, .slice (some ⟨g.tb, 0, none⟩) g.p.ns.length g.tc, .slice (some ⟨g.sb, 0, none⟩) g.p.ns.length g.sc, .slice g.ua g.un g.uc, .slice g.za g.zn g.zc] 29)))
    have F3 := hid (F2.out.alloc (.cells #[.slice (some ⟨g.nb, 0, none⟩) g.p.ns.length g.nc, .slice (some ⟨g.fb, 0, none⟩) g.p.fs.length g.fc, .slice (some ⟨g.tb, 0, none⟩) g.p.ns.length g.tc, .slice (some ⟨g.sb, 0, none⟩) g.p.ns.length g.sc, .slice g.ua g.un g.uc, .slice g.za g.zn g.zc] 29))
    have HA := hid (coall_any P2.out)
    unfold PgV.val at HA
    unfold PgV.val
    clear pg F2
    go_wp2_with fail
    refine HA.out.mono ?_
    rintro e w4 ⟨iv, ev, rfl, hc, hf⟩
    have F4 := hid (F3.out.tr hf)
    clear hf HA P2 F3
    have hlen := (comp_cd HI.out).len
    have hn3 : (compM g.p).ins.length ≤ 1000 := by have := HI.out.tree.ok.few; have := HI.out.tree.ok.fewf; omega
    have hm3 : (compM g.p).entry.length ≤ 6 := by rw [(comp_cd HI.out).elen]; exact HI.out.tree.ok.fewf
    have hci := hc.ins
    have hce := hc.ent
    obtain ⟨IA, IC, rfl, -, -⟩ := hci.cap
    obtain ⟨EA, EC, rfl, -, -⟩ := hce.cap
    obtain ⟨n, hn⟩ : ∃ n, n = (compM g.p).ins.length := ⟨_, rfl⟩
    obtain ⟨m, hm⟩ : ∃ m, m = (compM g.p).entry.length := ⟨_, rfl⟩
    rw [← hn] at hn3 hci
    rw [← hm] at hm3 hce
    have HN := hid hn
    have HM := hid hm
    rw [← hn, ← hm]
    obtain ⟨Z, hZ, hmk⟩ := makeInts9 (n + 1) (by omega)
    have hmk2 : ∀ w : World, (Instr.makeSlice 27 (.int .i64 ((n : Int) + 1)) (.int .i64 ((n : Int) + 1))).run Tryz.prog w = .ok (.slice (some ⟨w.heap.size, 0, none⟩) (n + 1) (n + 1)) (w.alloc (.cells Z 3)) := fun w => by have := hmk w; simpa using this
    have SK0 := hid (show Sk w (w4.heap.size) (w4.heap.size + 1) IA EA IC EC n m (compM g.p) ((w4.alloc (.cells #[.slice IA n IC, .slice EA m EC] 37)).alloc (.cells Z 3)) (List.replicate (n + 1) 0) from by
      have hb := (Blk.new w4 37 #[.slice IA n IC, .slice EA m EC]).alloc (.cells Z 3)
      have hz := Blk.new (w4.alloc (.cells #[.slice IA n IC, .slice EA m EC] 37)) 3 Z
      rw [World.size_alloc] at hz
      refine ⟨hb, (hci.alloc _).alloc _, (hce.alloc _).alloc _, ?_, fun e => ?_, (F4.out.alloc _).alloc _, ?_, HN.out, HM.out⟩
      · refine ⟨by simp [intsI], _, _, rfl, .inr ⟨_, Z, rfl, by omega, hz, Nat.le_refl _, by unfold maxLen; omega, ?_, ?_⟩⟩
        · rw [← Array.length_toList, hZ, List.length_replicate, Nat.mul_one]
        · rw [hZ, Nat.mul_one, List.take_of_length_le (by rw [List.length_replicate]; exact Nat.le_refl _)]; unfold intsI; rw [List.map_replicate]
      · have := hce.blk_lt e; omega
      · have := F4.out.size; omega)
    clear hc hci hce hmk hZ hn hm hlen F4
    have hvw : IntKind.i64.wrap ((n : Int) + 1) = (n : Int) + 1 := IntWalk.i64_in _ (by omega)
    go_wp2_with fail
    clear hmk2 hvw
    generalize (w4.alloc (.cells #[.slice IA n IC, .slice EA m EC] 37)).alloc (.cells Z 3) = w5 at *
    generalize w4.heap.size + 1 = DB at *
    generalize w4.heap.size = CB at *
    go_loopw [9] (fun i wr => ∃ (j : Nat) (dp : List Int), j ≤ n + 1 ∧ i = .int .i64 j ∧ Hid (Sk w CB DB IA EA IC EC n m (compM g.p) wr dp) ∧ Hid (∀ k, k < j → dp[k]? = some (-1))) (fun i _ => n + 1 - (intOf i).toNat)
    case atStart => exact ⟨0, _, Nat.zero_le _, rfl, SK0, hid (fun k hk => by omega)⟩
    case round =>
      obtain ⟨j, dp, hj, rfl, SK, HP⟩ := hrel
      clear SK0
      by_cases hlt : j < n + 1
      · obtain ⟨v, hv⟩ : ∃ v, dp[j]? = some v := ⟨_, List.getElem?_eq_getElem (by rw [SK.out.len]; exact hlt)⟩
        obtain ⟨c0, z0, dlt⟩ := SK.out.at_ hv
        have hlt2 : (j : Int) < (n : Int) + 1 := by omega
        have hn4 : (n : Int) ≤ 1000 := by omega
        have SK2 := hid (SK.out.set j (-1))
        have HP2 := hid (show ∀ k, k < j + 1 → (dp.set j (-1))[k]? = some (-1) from fun k hk => by
          by_cases e : j = k
          · subst e; exact List.getElem?_set_self (by rw [SK.out.len]; exact hlt)
          · rw [List.getElem?_set_ne e]; exact HP.out k (by omega))
        clear hv SK HP
        go_wp2_with fail
        go_roundw
        case rel => exact ⟨j + 1, _, by omega, by go_num, SK2, HP2⟩
        case measure => simp [intOf]; omega
      · have hjn : j = n + 1 := by omega
        subst hjn
        have hlt2 : ¬ (n : Int) + 1 < (n : Int) + 1 := by omega
        have D0 := hid (show DeepOk (compM g.p).ins 0 dp from ⟨by rw [SK.out.len, HN.out], fun k hk => .inl (HP.out k (by have := HN.out; omega)), fun h => by cases h⟩)
        clear hlt hj HP
        go_wp2_with fail
        have SKa := hid SK.out
        clear SK hlt2
        go_loopw [10] (fun i wr => ∃ (j : Nat) (dp : List Int), j ≤ m ∧ i = .int .i64 j ∧ Hid (Sk w CB DB IA EA IC EC n m (compM g.p) wr dp) ∧ Hid (DeepOk (compM g.p).ins 0 dp)) (fun i _ => m - (intOf i).toNat)
        case atStart => exact ⟨0, _, Nat.zero_le _, rfl, SKa, D0⟩
        case round =>
          obtain ⟨j, dq, hj, rfl, SK, D⟩ := hrel
          clear SKa D0
          obtain ⟨k0, k1, klt⟩ := SK.out.code
          by_cases hlt : j < m
          · obtain ⟨ee, hee⟩ : ∃ ee, (compM g.p).entry[j]? = some ee := ⟨_, List.getElem?_eq_getElem (by have := HM.out; omega)⟩
            obtain ⟨he1, he2⟩ := deep_start HI.out ee (List.mem_of_getElem? hee)
            rw [← HN.out] at he1
            obtain ⟨v, hv⟩ : ∃ v, dq[ee]? = some v := ⟨_, List.getElem?_eq_getElem (by rw [SK.out.len]; omega)⟩
            obtain ⟨c0, z0, dlt⟩ := SK.out.at_ hv
            obtain ⟨eb, rfl, x0, eblt, ebne⟩ := SK.out.entry hee
            have hlt2 : (j : Int) < (m : Int) := by omega
            have hn4 : (n : Int) ≤ 1000 := by omega
            have hm4 : (m : Int) ≤ 6 := by omega
            have g1 : ¬ (ee : Int) < 0 := by omega
            have g2 : ¬ (n : Int) ≤ (ee : Int) := by omega
            have g3 : ¬ n ≤ ee := by omega
            have g4 : (ee : Int) < (n : Int) + 1 := by omega
            have SK2 := hid (SK.out.set ee 0)
            have D2 := hid (show DeepOk (compM g.p).ins 0 (dq.set ee 0) from D.out.set (n := 0) he2)
            have HJ := hid hlt
            clear hv hee he1 he2 SK D hj hlt
            go_wp2_with fail
            go_quiet (fail)
            go_wp2_with fail
            go_roundw
            case rel => exact ⟨j + 1, _, by have := HJ.out; omega, by go_num, by first | exact SK2 | exact hid (SK2.out.no ((Fr.refl nob _).drewN nq)) | exact hid (SK2.out.no (Fr.drewN (Fr.refl nob _) _)), D2⟩
            case measure => simp [intOf]; have := HJ.out; omega
          · have hjm : j = m := by omega
            subst hjm
            have hlt2 : ¬ (j : Int) < (j : Int) := by omega
            clear hlt hj
            go_wp2_with fail
            clear k0 k1 klt hlt2
            go_loopw [11] (fun i wr => ∃ (k : Nat) (dp : List Int), k ≤ n ∧ i = .int .i64 k ∧ Hid (Sk w CB DB IA EA IC EC n j (compM g.p) wr dp) ∧ Hid (DeepOk (compM g.p).ins k dp)) (fun i _ => n - (intOf i).toNat)
            case atStart => exact ⟨0, _, Nat.zero_le _, rfl, SK, D⟩
            case round =>
              clear SK D
              obtain ⟨k, dp3, hk, rfl, SK, D⟩ := hrel
              obtain ⟨k0, k1, klt⟩ := SK.out.code
              have hn4 : (n : Int) ≤ 1000 := by omega
              by_cases hlt : k < n
              · obtain ⟨x, hx⟩ : ∃ x, (compM g.p).ins[k]? = some x := ⟨_, List.getElem?_eq_getElem (by have := HN.out; omega)⟩
                have hop := op_ok HI.out hx
                have hN := deep_now HI.out D.out hx
                have hdl := deep_le (compM g.p).ins k
                obtain ⟨ib, rfl, y0, y1, y2, y3, ilt⟩ := SK.out.insr hx
                have HX := hid hx
                have HJ := hid hlt
                have hlt2 : (k : Int) < (n : Int) := by omega
                have hlt3 : (k : Int) < (n : Int) + 1 := by omega
                have hlt4 : (k : Int) + 1 < (n : Int) + 1 := by omega
                have hwk : IntKind.i64.wrap ((k : Int) + 1) = (k : Int) + 1 := IntWalk.i64_in _ (by omega)
                have hkl : ¬ CB = wr.heap.size := by omega
                have hil : ¬ ib = wr.heap.size := by omega
                obtain ⟨d, hd⟩ : ∃ d, deepI (compM g.p).ins k = d := ⟨_, rfl⟩
                rw [hd] at hN hdl
                rw [← HN.out] at hdl
                obtain ⟨o, a, b, sx⟩ := x
                dsimp only at hop y0 y1 y2 y3
                have HCH := hid (fun w' => change_any w' ⟨o, a, b, sx⟩ hop)
                dsimp only at HCH
                have HDD := hid hd
                clear hx hlt hk hd
                generalize hSX : bs sx = SX at *
                clear hSX
                obtain ⟨tt, htt⟩ : ∃ tt, takesI ⟨o, a, b, sx⟩ = tt := ⟨_, rfl⟩
                obtain ⟨gg, hgg⟩ : ∃ gg, givesI ⟨o, a, b, sx⟩ = gg := ⟨_, rfl⟩
                obtain ⟨AA, hAA⟩ : ∃ AA, afterI d ⟨o, a, b, sx⟩ = AA := ⟨_, rfl⟩
                have hg1 := gives_le ⟨o, a, b, sx⟩
                have htk := hN.takes
                have hA2 : d - takesI ⟨o, a, b, sx⟩ + givesI ⟨o, a, b, sx⟩ = AA := hAA
                rw [htt] at htk
                rw [hgg] at hg1
                rw [htt, hgg] at hA2
                rw [htt, hgg] at HCH
                have hv1 : IntKind.i64.wrap ((d : Int) - (tt : Int)) = (d : Int) - (tt : Int) := IntWalk.i64_in _ (by omega)
                have hv2 : IntKind.i64.wrap ((d : Int) - (tt : Int) + (gg : Int)) = (AA : Int) := by rw [show (d : Int) - (tt : Int) + (gg : Int) = (AA : Int) by omega]; exact IntWalk.i64_in _ (by omega)
                have hv3 : IntKind.i64.wrap ((AA : Int) + 1) = (AA : Int) + 1 := IntWalk.i64_in _ (by omega)
                have htd : ¬ (d : Int) < (tt : Int) := by omega
                have hnd : ¬ (d : Int) < 0 := by omega
                have HNN := hid hN
                have HAA := hid hAA
                clear hN hAA hA2 htk hg1 htt hgg hop
                obtain ⟨v, hv⟩ : ∃ v, dp3[k]? = some v := ⟨_, List.getElem?_eq_getElem (by rw [SK.out.len]; have := HJ.out; omega)⟩
                have hnow : (v = -1 ∧ d = 0 ∧ (o = 1 ∨ o = 22 ∨ o = 16)) ∨ v = (d : Int) := by
                  have h := HNN.out.now
                  rw [hv] at h
                  rcases h with ⟨h1, h2, h3⟩ | h1
                  · injection h1 with h1
                    refine .inl ⟨h1, h2, ?_⟩
                    simp only [safeI, Bool.or_eq_true, decide_eq_true_eq] at h3
                    omega
                  · injection h1 with h1; exact .inr h1
                obtain ⟨c0, z0, dlt⟩ := SK.out.at_ hv
                have hdn : ¬ DB = wr.heap.size := by omega
                have FAL := hid (show Fr nob wr (wr.alloc (.cells #[.int .i64 (o : Nat), .int .i64 a, .int .i64 (b : Nat), .string SX] 45)) from (Fr.refl nob wr).alloc _)
                have BX := hid (Blk.new wr 45 #[.int .i64 (o : Nat), .int .i64 a, .int .i64 (b : Nat), .string SX])
                clear hv
                go_upto_if 94 with fail
                have SKa := hid (SK.out.no FAL.out)
                have hxd := hid (show wr.heap.size ≠ DB from fun e => hdn e.symm)
                clear SK k0 k1 klt y0 y1 y2 y3 ilt hkl hil c0 z0 dlt hdn FAL
                generalize wr.alloc (.cells #[.int .i64 (o : Nat), .int .i64 a, .int .i64 (b : Nat), .string SX] 45) = wa at *
                generalize wr.heap.size = XB at *
                have x0 := (BX.out.cell 0).trans rfl
                go_cut [12, 13] (fun q c wx => q = .pointer (some ⟨XB, 0, none⟩) ∧ c = .int .i64 (d : Nat) ∧ wx = wa)
                case first =>
                  rcases hnow with ⟨rfl, hd0, rfl | rfl | rfl⟩ | rfl
                  · go_wp2_with fail
                    go_meet
                    exact ⟨rfl, by rw [hd0]; rfl, rfl⟩
                  · go_wp2_with fail
                    go_meet
                    exact ⟨rfl, by rw [hd0]; rfl, rfl⟩
                  · go_wp2_with fail
                    go_meet
                    exact ⟨rfl, by rw [hd0]; rfl, rfl⟩
                  · go_wp2_with fail
                    go_meet
                    exact ⟨rfl, rfl, rfl⟩
                case rest =>
                  obtain ⟨rfl, rfl, rfl⟩ := hcut
                  have hcls : o = 1 ∨ o = 16 ∨ o = 22 ∨ o = 17 ∨ o = 18 ∨ o = 19 ∨ o = 21 ∨ (o ≠ 1 ∧ o ≠ 16 ∧ o ≠ 22 ∧ o ≠ 17 ∧ o ≠ 18 ∧ o ≠ 19 ∧ o ≠ 21) := by omega
                  clear x0 hnow
                  rcases hcls with rfl | rfl | rfl | rfl | rfl | rfl | rfl | hcls
                  · as_aux_lemma =>
                    have hq : ((d : Int) != 0) = false := by rw [HNN.out.safe rfl]; rfl
                    have BX := hid (show Blk wc XB 45 #[.int .i64 1, .int .i64 a, .int .i64 (b : Nat), .string SX] from BX.out)
                    have x0 := (BX.out.cell 0).trans rfl
                    have x1 := (BX.out.cell 1).trans rfl
                    have x2 := (BX.out.cell 2).trans rfl
                    have x3 := (BX.out.cell 3).trans rfl
                    go_wp2_with fail
                    refine (HCH.out _).mono ?_
                    rintro e w6 ⟨rfl, hf6⟩
                    have SK6 := hid (SKa.out.no hf6)
                    have BX6 := hid (BX.out.fr hf6 (fun x => x))
                    clear hf6 SKa BX x0 x1 x2 x3
                    obtain ⟨k0, k1, klt⟩ := SK6.out.code
                    have x0 := (BX6.out.cell 0).trans rfl
                    have x1 := (BX6.out.cell 1).trans rfl
                    have hN7 := deep_now HI.out D.out HX.out
                    rw [HDD.out] at hN7
                    obtain ⟨hc8, -, hD8⟩ := hN7.nextF rfl
                    rw [HAA.out] at hc8 hD8
                    have D8 := hid hD8
                    have SK8 := hid (SK6.out.set (k + 1) (AA : Int))
                    clear hN7 hD8
                    rcases hc8 with hc8 | hc8
                    · obtain ⟨c8, z8, dlt8⟩ := SK6.out.at_ hc8
                      clear hc8
                      go_wp2_with fail
                      go_roundw
                      case rel => exact ⟨k + 1, _, by have := HJ.out; omega, by go_num, SK8, D8⟩
                      case measure => simp [intOf]; have := HJ.out; omega
                    · obtain ⟨c8, z8, dlt8⟩ := SK6.out.at_ hc8
                      clear hc8
                      go_wp2_with fail
                      go_roundw
                      case rel => exact ⟨k + 1, _, by have := HJ.out; omega, by go_num, SK8, D8⟩
                      case measure => simp [intOf]; have := HJ.out; omega
                  · as_aux_lemma =>
                    have BX := hid (show Blk wc XB 45 #[.int .i64 16, .int .i64 a, .int .i64 (b : Nat), .string SX] from BX.out)
                    have x0 := (BX.out.cell 0).trans rfl
                    have x1 := (BX.out.cell 1).trans rfl
                    have x2 := (BX.out.cell 2).trans rfl
                    have x3 := (BX.out.cell 3).trans rfl
                    go_wp2_with fail
                    refine (HCH.out _).mono ?_
                    rintro e w6 ⟨rfl, hf6⟩
                    have SK6 := hid (SKa.out.no hf6)
                    have BX6 := hid (BX.out.fr hf6 (fun x => x))
                    clear hf6 SKa BX x0 x1 x2 x3
                    obtain ⟨k0, k1, klt⟩ := SK6.out.code
                    have x0 := (BX6.out.cell 0).trans rfl
                    have x1 := (BX6.out.cell 1).trans rfl
                    obtain ⟨tj, hta, htj, hdj, hcase⟩ := HNN.out.dest a rfl
                    subst hta
                    have hLL : leftI d (⟨16, (tj : Int), b, sx⟩ : InsM) = AA := by exact HAA.out
                    rw [hLL] at hdj hcase
                    rw [← HN.out] at htj
                    have t1 : ¬ (n : Int) < (tj : Int) := by omega
                    have t2 : (0 : Int) ≤ (tj : Int) := by omega
                    have t3 : (tj : Int) < (n : Int) + 1 := by omega
                    have t4 : (0 : Int) ≤ (AA : Int) := by omega
                    have D7 := hid (show DeepOk (compM g.p).ins k (dp3.set tj (AA : Int)) from D.out.set (n := AA) hdj)
                    have SK7 := hid (SK6.out.set tj (AA : Int))
                    have BX7 := hid (BX6.out.far (p := ⟨DB, tj, none⟩) hxd.out (.int .i64 (AA : Int)))
                    clear hLL hdj htj D
                    have hcase : dp3[tj]? = some (-1) ∨ dp3[tj]? = some (AA : Int) := hcase
                    go_upto_if 161 with fail
                    go_cut [12, 16] (fun q c wx => q = .pointer (some ⟨XB, 0, none⟩) ∧ c = .int .i64 (AA : Nat) ∧ Hid (Sk w CB DB (some ⟨ib, 0, none⟩) EA IC EC n j (compM g.p) wx (dp3.set tj (AA : Int))) ∧ Hid (Blk wx XB 45 #[.int .i64 16, .int .i64 (tj : Int), .int .i64 (b : Nat), .string SX]))
                    case first =>
                      rcases hcase with hcs | hcs
                      · obtain ⟨c1, z1, dlt⟩ := SK6.out.at_ hcs
                        clear hcs
                        go_wp2_with fail
                        go_meet
                        exact ⟨rfl, rfl, SK7, BX7⟩
                      · obtain ⟨c1, z1, dlt⟩ := SK6.out.at_ hcs
                        clear hcs
                        go_wp2_with fail
                        go_meet
                        exact ⟨rfl, rfl, SK7, BX7⟩
                    case rest =>
                      clear SK6 BX6 SK7 BX7 k0 k1 klt x0 x1 hcase
                      obtain ⟨rfl, rfl, SK7, BX7⟩ := hcut
                      have x0 := (BX7.out.cell 0).trans rfl
                      have hN7 := deep_now HI.out D7.out HX.out
                      rw [HDD.out] at hN7
                      have D8 := hid (hN7.nextN rfl)
                      clear hN7
                      go_wp2_with fail
                      go_roundw
                      case rel => exact ⟨k + 1, _, by have := HJ.out; omega, by go_num, SK7, D8⟩
                      case measure => simp [intOf]; have := HJ.out; omega
                  · as_aux_lemma =>
                    have hq : ((d : Int) != 0) = false := by rw [HNN.out.safe rfl]; rfl
                    have BX := hid (show Blk wc XB 45 #[.int .i64 22, .int .i64 a, .int .i64 (b : Nat), .string SX] from BX.out)
                    have x0 := (BX.out.cell 0).trans rfl
                    have x1 := (BX.out.cell 1).trans rfl
                    have x2 := (BX.out.cell 2).trans rfl
                    have x3 := (BX.out.cell 3).trans rfl
                    go_wp2_with fail
                    refine (HCH.out _).mono ?_
                    rintro e w6 ⟨rfl, hf6⟩
                    have SK6 := hid (SKa.out.no hf6)
                    have BX6 := hid (BX.out.fr hf6 (fun x => x))
                    clear hf6 SKa BX x0 x1 x2 x3
                    obtain ⟨k0, k1, klt⟩ := SK6.out.code
                    have x0 := (BX6.out.cell 0).trans rfl
                    have x1 := (BX6.out.cell 1).trans rfl
                    have hN7 := deep_now HI.out D.out HX.out
                    rw [HDD.out] at hN7
                    have D8 := hid (hN7.nextN rfl)
                    clear hN7
                    go_wp2_with fail
                    go_roundw
                    case rel => exact ⟨k + 1, _, by have := HJ.out; omega, by go_num, SK6, D8⟩
                    case measure => simp [intOf]; have := HJ.out; omega
                  · as_aux_lemma =>
                    have BX := hid (show Blk wc XB 45 #[.int .i64 17, .int .i64 a, .int .i64 (b : Nat), .string SX] from BX.out)
                    have x0 := (BX.out.cell 0).trans rfl
                    have x1 := (BX.out.cell 1).trans rfl
                    have x2 := (BX.out.cell 2).trans rfl
                    have x3 := (BX.out.cell 3).trans rfl
                    go_wp2_with fail
                    refine (HCH.out _).mono ?_
                    rintro e w6 ⟨rfl, hf6⟩
                    have SK6 := hid (SKa.out.no hf6)
                    have BX6 := hid (BX.out.fr hf6 (fun x => x))
                    clear hf6 SKa BX x0 x1 x2 x3
                    obtain ⟨k0, k1, klt⟩ := SK6.out.code
                    have x0 := (BX6.out.cell 0).trans rfl
                    have x1 := (BX6.out.cell 1).trans rfl
                    obtain ⟨tj, hta, htj, hdj, hcase⟩ := HNN.out.dest a rfl
                    subst hta
                    have hLL : leftI d (⟨17, (tj : Int), b, sx⟩ : InsM) = AA := by exact HAA.out
                    rw [hLL] at hdj hcase
                    rw [← HN.out] at htj
                    have t1 : ¬ (n : Int) < (tj : Int) := by omega
                    have t2 : (0 : Int) ≤ (tj : Int) := by omega
                    have t3 : (tj : Int) < (n : Int) + 1 := by omega
                    have t4 : (0 : Int) ≤ (AA : Int) := by omega
                    have D7 := hid (show DeepOk (compM g.p).ins k (dp3.set tj (AA : Int)) from D.out.set (n := AA) hdj)
                    have SK7 := hid (SK6.out.set tj (AA : Int))
                    have BX7 := hid (BX6.out.far (p := ⟨DB, tj, none⟩) hxd.out (.int .i64 (AA : Int)))
                    clear hLL hdj htj D
                    have hcase : dp3[tj]? = some (-1) ∨ dp3[tj]? = some (AA : Int) := hcase
                    go_upto_if 161 with fail
                    go_cut [12, 16] (fun q c wx => q = .pointer (some ⟨XB, 0, none⟩) ∧ c = .int .i64 (AA : Nat) ∧ Hid (Sk w CB DB (some ⟨ib, 0, none⟩) EA IC EC n j (compM g.p) wx (dp3.set tj (AA : Int))) ∧ Hid (Blk wx XB 45 #[.int .i64 17, .int .i64 (tj : Int), .int .i64 (b : Nat), .string SX]))
                    case first =>
                      rcases hcase with hcs | hcs
                      · obtain ⟨c1, z1, dlt⟩ := SK6.out.at_ hcs
                        clear hcs
                        go_wp2_with fail
                        go_meet
                        exact ⟨rfl, rfl, SK7, BX7⟩
                      · obtain ⟨c1, z1, dlt⟩ := SK6.out.at_ hcs
                        clear hcs
                        go_wp2_with fail
                        go_meet
                        exact ⟨rfl, rfl, SK7, BX7⟩
                    case rest =>
                      clear SK6 BX6 SK7 BX7 k0 k1 klt x0 x1 hcase
                      obtain ⟨rfl, rfl, SK7, BX7⟩ := hcut
                      have x0 := (BX7.out.cell 0).trans rfl
                      have hN7 := deep_now HI.out D7.out HX.out
                      rw [HDD.out] at hN7
                      obtain ⟨hc8, -, hD8⟩ := hN7.nextF rfl
                      rw [HAA.out] at hc8 hD8
                      have D8 := hid hD8
                      have SK8 := hid (SK7.out.set (k + 1) (AA : Int))
                      clear hN7 hD8
                      rcases hc8 with hc8 | hc8
                      · obtain ⟨c8, z8, dlt8⟩ := SK7.out.at_ hc8
                        clear hc8
                        go_wp2_with fail
                        go_roundw
                        case rel => exact ⟨k + 1, _, by have := HJ.out; omega, by go_num, SK8, D8⟩
                        case measure => simp [intOf]; have := HJ.out; omega
                      · obtain ⟨c8, z8, dlt8⟩ := SK7.out.at_ hc8
                        clear hc8
                        go_wp2_with fail
                        go_roundw
                        case rel => exact ⟨k + 1, _, by have := HJ.out; omega, by go_num, SK8, D8⟩
                        case measure => simp [intOf]; have := HJ.out; omega
                  · as_aux_lemma =>
                    have BX := hid (show Blk wc XB 45 #[.int .i64 18, .int .i64 a, .int .i64 (b : Nat), .string SX] from BX.out)
                    have x0 := (BX.out.cell 0).trans rfl
                    have x1 := (BX.out.cell 1).trans rfl
                    have x2 := (BX.out.cell 2).trans rfl
                    have x3 := (BX.out.cell 3).trans rfl
                    go_wp2_with fail
                    refine (HCH.out _).mono ?_
                    rintro e w6 ⟨rfl, hf6⟩
                    have SK6 := hid (SKa.out.no hf6)
                    have BX6 := hid (BX.out.fr hf6 (fun x => x))
                    clear hf6 SKa BX x0 x1 x2 x3
                    obtain ⟨k0, k1, klt⟩ := SK6.out.code
                    have x0 := (BX6.out.cell 0).trans rfl
                    have x1 := (BX6.out.cell 1).trans rfl
                    obtain ⟨tj, hta, htj, hdj, hcase⟩ := HNN.out.dest a rfl
                    subst hta
                    have hLL : leftI d (⟨18, (tj : Int), b, sx⟩ : InsM) = (AA + 1) := by show afterI d (⟨18, (tj : Int), b, sx⟩ : InsM) + 1 = AA + 1; rw [HAA.out]
                    rw [hLL] at hdj hcase
                    rw [← HN.out] at htj
                    have t1 : ¬ (n : Int) < (tj : Int) := by omega
                    have t2 : (0 : Int) ≤ (tj : Int) := by omega
                    have t3 : (tj : Int) < (n : Int) + 1 := by omega
                    have t4 : (0 : Int) ≤ ((AA : Int) + 1) := by omega
                    have D7 := hid (show DeepOk (compM g.p).ins k (dp3.set tj ((AA : Int) + 1)) from D.out.set (n := (AA + 1)) hdj)
                    have SK7 := hid (SK6.out.set tj ((AA : Int) + 1))
                    have BX7 := hid (BX6.out.far (p := ⟨DB, tj, none⟩) hxd.out (.int .i64 ((AA : Int) + 1)))
                    clear hLL hdj htj D
                    have hcase : dp3[tj]? = some (-1) ∨ dp3[tj]? = some ((AA : Int) + 1) := hcase
                    go_upto_if 161 with fail
                    go_cut [12, 16] (fun q c wx => q = .pointer (some ⟨XB, 0, none⟩) ∧ c = .int .i64 (AA : Nat) ∧ Hid (Sk w CB DB (some ⟨ib, 0, none⟩) EA IC EC n j (compM g.p) wx (dp3.set tj ((AA : Int) + 1))) ∧ Hid (Blk wx XB 45 #[.int .i64 18, .int .i64 (tj : Int), .int .i64 (b : Nat), .string SX]))
                    case first =>
                      rcases hcase with hcs | hcs
                      · obtain ⟨c1, z1, dlt⟩ := SK6.out.at_ hcs
                        clear hcs
                        go_wp2_with fail
                        go_meet
                        exact ⟨rfl, rfl, SK7, BX7⟩
                      · obtain ⟨c1, z1, dlt⟩ := SK6.out.at_ hcs
                        clear hcs
                        go_wp2_with fail
                        go_meet
                        exact ⟨rfl, rfl, SK7, BX7⟩
                    case rest =>
                      clear SK6 BX6 SK7 BX7 k0 k1 klt x0 x1 hcase
                      obtain ⟨rfl, rfl, SK7, BX7⟩ := hcut
                      have x0 := (BX7.out.cell 0).trans rfl
                      have hN7 := deep_now HI.out D7.out HX.out
                      rw [HDD.out] at hN7
                      obtain ⟨hc8, -, hD8⟩ := hN7.nextF rfl
                      rw [HAA.out] at hc8 hD8
                      have D8 := hid hD8
                      have SK8 := hid (SK7.out.set (k + 1) (AA : Int))
                      clear hN7 hD8
                      rcases hc8 with hc8 | hc8
                      · obtain ⟨c8, z8, dlt8⟩ := SK7.out.at_ hc8
                        clear hc8
                        go_wp2_with fail
                        go_roundw
                        case rel => exact ⟨k + 1, _, by have := HJ.out; omega, by go_num, SK8, D8⟩
                        case measure => simp [intOf]; have := HJ.out; omega
                      · obtain ⟨c8, z8, dlt8⟩ := SK7.out.at_ hc8
                        clear hc8
                        go_wp2_with fail
                        go_roundw
                        case rel => exact ⟨k + 1, _, by have := HJ.out; omega, by go_num, SK8, D8⟩
                        case measure => simp [intOf]; have := HJ.out; omega
                  · as_aux_lemma =>
                    have BX := hid (show Blk wc XB 45 #[.int .i64 19, .int .i64 a, .int .i64 (b : Nat), .string SX] from BX.out)
                    have x0 := (BX.out.cell 0).trans rfl
                    have x1 := (BX.out.cell 1).trans rfl
                    have x2 := (BX.out.cell 2).trans rfl
                    have x3 := (BX.out.cell 3).trans rfl
                    go_wp2_with fail
                    refine (HCH.out _).mono ?_
                    rintro e w6 ⟨rfl, hf6⟩
                    have SK6 := hid (SKa.out.no hf6)
                    have BX6 := hid (BX.out.fr hf6 (fun x => x))
                    clear hf6 SKa BX x0 x1 x2 x3
                    obtain ⟨k0, k1, klt⟩ := SK6.out.code
                    have x0 := (BX6.out.cell 0).trans rfl
                    have x1 := (BX6.out.cell 1).trans rfl
                    obtain ⟨tj, hta, htj, hdj, hcase⟩ := HNN.out.dest a rfl
                    subst hta
                    have hLL : leftI d (⟨19, (tj : Int), b, sx⟩ : InsM) = (AA + 1) := by show afterI d (⟨19, (tj : Int), b, sx⟩ : InsM) + 1 = AA + 1; rw [HAA.out]
                    rw [hLL] at hdj hcase
                    rw [← HN.out] at htj
                    have t1 : ¬ (n : Int) < (tj : Int) := by omega
                    have t2 : (0 : Int) ≤ (tj : Int) := by omega
                    have t3 : (tj : Int) < (n : Int) + 1 := by omega
                    have t4 : (0 : Int) ≤ ((AA : Int) + 1) := by omega
                    have D7 := hid (show DeepOk (compM g.p).ins k (dp3.set tj ((AA : Int) + 1)) from D.out.set (n := (AA + 1)) hdj)
                    have SK7 := hid (SK6.out.set tj ((AA : Int) + 1))
                    have BX7 := hid (BX6.out.far (p := ⟨DB, tj, none⟩) hxd.out (.int .i64 ((AA : Int) + 1)))
                    clear hLL hdj htj D
                    have hcase : dp3[tj]? = some (-1) ∨ dp3[tj]? = some ((AA : Int) + 1) := hcase
                    go_upto_if 161 with fail
                    go_cut [12, 16] (fun q c wx => q = .pointer (some ⟨XB, 0, none⟩) ∧ c = .int .i64 (AA : Nat) ∧ Hid (Sk w CB DB (some ⟨ib, 0, none⟩) EA IC EC n j (compM g.p) wx (dp3.set tj ((AA : Int) + 1))) ∧ Hid (Blk wx XB 45 #[.int .i64 19, .int .i64 (tj : Int), .int .i64 (b : Nat), .string SX]))
                    case first =>
                      rcases hcase with hcs | hcs
                      · obtain ⟨c1, z1, dlt⟩ := SK6.out.at_ hcs
                        clear hcs
                        go_wp2_with fail
                        go_meet
                        exact ⟨rfl, rfl, SK7, BX7⟩
                      · obtain ⟨c1, z1, dlt⟩ := SK6.out.at_ hcs
                        clear hcs
                        go_wp2_with fail
                        go_meet
                        exact ⟨rfl, rfl, SK7, BX7⟩
                    case rest =>
                      clear SK6 BX6 SK7 BX7 k0 k1 klt x0 x1 hcase
                      obtain ⟨rfl, rfl, SK7, BX7⟩ := hcut
                      have x0 := (BX7.out.cell 0).trans rfl
                      have hN7 := deep_now HI.out D7.out HX.out
                      rw [HDD.out] at hN7
                      obtain ⟨hc8, -, hD8⟩ := hN7.nextF rfl
                      rw [HAA.out] at hc8 hD8
                      have D8 := hid hD8
                      have SK8 := hid (SK7.out.set (k + 1) (AA : Int))
                      clear hN7 hD8
                      rcases hc8 with hc8 | hc8
                      · obtain ⟨c8, z8, dlt8⟩ := SK7.out.at_ hc8
                        clear hc8
                        go_wp2_with fail
                        go_roundw
                        case rel => exact ⟨k + 1, _, by have := HJ.out; omega, by go_num, SK8, D8⟩
                        case measure => simp [intOf]; have := HJ.out; omega
                      · obtain ⟨c8, z8, dlt8⟩ := SK7.out.at_ hc8
                        clear hc8
                        go_wp2_with fail
                        go_roundw
                        case rel => exact ⟨k + 1, _, by have := HJ.out; omega, by go_num, SK8, D8⟩
                        case measure => simp [intOf]; have := HJ.out; omega
                  · as_aux_lemma =>
                    have BX := hid (show Blk wc XB 45 #[.int .i64 21, .int .i64 a, .int .i64 (b : Nat), .string SX] from BX.out)
                    have x0 := (BX.out.cell 0).trans rfl
                    have x1 := (BX.out.cell 1).trans rfl
                    have x2 := (BX.out.cell 2).trans rfl
                    have x3 := (BX.out.cell 3).trans rfl
                    go_wp2_with fail
                    refine (HCH.out _).mono ?_
                    rintro e w6 ⟨rfl, hf6⟩
                    have SK6 := hid (SKa.out.no hf6)
                    have BX6 := hid (BX.out.fr hf6 (fun x => x))
                    clear hf6 SKa BX x0 x1 x2 x3
                    obtain ⟨k0, k1, klt⟩ := SK6.out.code
                    have x0 := (BX6.out.cell 0).trans rfl
                    have x1 := (BX6.out.cell 1).trans rfl
                    have hN7 := deep_now HI.out D.out HX.out
                    rw [HDD.out] at hN7
                    have D8 := hid (hN7.nextN rfl)
                    clear hN7
                    go_wp2_with fail
                    go_roundw
                    case rel => exact ⟨k + 1, _, by have := HJ.out; omega, by go_num, SK6, D8⟩
                    case measure => simp [intOf]; have := HJ.out; omega
                  · as_aux_lemma =>
                    obtain ⟨q1, q16, q22, q17, q18, q19, q21⟩ := hcls
                    have e1 : ((o : Int) == 1) = false := beq_eq_false_iff_ne.2 (by omega)
                    have f1 : ((o : Int) != 1) = true := by rw [bne, e1]; rfl
                    have e16 : ((o : Int) == 16) = false := beq_eq_false_iff_ne.2 (by omega)
                    have f16 : ((o : Int) != 16) = true := by rw [bne, e16]; rfl
                    have e22 : ((o : Int) == 22) = false := beq_eq_false_iff_ne.2 (by omega)
                    have f22 : ((o : Int) != 22) = true := by rw [bne, e22]; rfl
                    have e17 : ((o : Int) == 17) = false := beq_eq_false_iff_ne.2 (by omega)
                    have f17 : ((o : Int) != 17) = true := by rw [bne, e17]; rfl
                    have e18 : ((o : Int) == 18) = false := beq_eq_false_iff_ne.2 (by omega)
                    have f18 : ((o : Int) != 18) = true := by rw [bne, e18]; rfl
                    have e19 : ((o : Int) == 19) = false := beq_eq_false_iff_ne.2 (by omega)
                    have f19 : ((o : Int) != 19) = true := by rw [bne, e19]; rfl
                    have e21 : ((o : Int) == 21) = false := beq_eq_false_iff_ne.2 (by omega)
                    have f21 : ((o : Int) != 21) = true := by rw [bne, e21]; rfl
                    have hfl : fallsI (⟨o, a, b, sx⟩ : InsM) = true := by simp [fallsI, q16, q21, q22]
                    have HFS := hid hfl
                    clear hfl q1 q16 q22 q17 q18 q19 q21
                    have x0 := (BX.out.cell 0).trans rfl
                    have x1 := (BX.out.cell 1).trans rfl
                    have x2 := (BX.out.cell 2).trans rfl
                    have x3 := (BX.out.cell 3).trans rfl
                    go_wp2_with fail
                    refine (HCH.out _).mono ?_
                    rintro e w6 ⟨rfl, hf6⟩
                    have SK6 := hid (SKa.out.no hf6)
                    have BX6 := hid (BX.out.fr hf6 (fun x => x))
                    clear hf6 SKa BX x0 x1 x2 x3
                    obtain ⟨k0, k1, klt⟩ := SK6.out.code
                    have x0 := (BX6.out.cell 0).trans rfl
                    have x1 := (BX6.out.cell 1).trans rfl
                    have hN7 := deep_now HI.out D.out HX.out
                    rw [HDD.out] at hN7
                    obtain ⟨hc8, -, hD8⟩ := hN7.nextF HFS.out
                    rw [HAA.out] at hc8 hD8
                    have D8 := hid hD8
                    have SK8 := hid (SK6.out.set (k + 1) (AA : Int))
                    clear hN7 hD8
                    rcases hc8 with hc8 | hc8
                    · obtain ⟨c8, z8, dlt8⟩ := SK6.out.at_ hc8
                      clear hc8
                      go_wp2_with fail
                      go_roundw
                      case rel => exact ⟨k + 1, _, by have := HJ.out; omega, by go_num, SK8, D8⟩
                      case measure => simp [intOf]; have := HJ.out; omega
                    · obtain ⟨c8, z8, dlt8⟩ := SK6.out.at_ hc8
                      clear hc8
                      go_wp2_with fail
                      go_roundw
                      case rel => exact ⟨k + 1, _, by have := HJ.out; omega, by go_num, SK8, D8⟩
                      case measure => simp [intOf]; have := HJ.out; omega
              · have hkn : k = n := by omega
                subst hkn
                have hlt2 : ¬ (k : Int) < (k : Int) := by omega
                have HFR := hid SK.out.fr
                clear hlt hk SK D
                go_wp2_with fail
                go_ret
                exact ⟨rfl, HFR.out⟩
end Go.Proofs.YtlbjicjinnnboaaGreatDoor
