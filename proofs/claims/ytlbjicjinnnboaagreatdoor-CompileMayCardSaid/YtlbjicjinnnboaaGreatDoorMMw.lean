/- CompileMay: the law's walk. Printed by wip/tools/mkmay.py. -/
import Derived.Test.YtlbjicjinnnboaaGreatDoorMMy
import Derived.Deep.DeepCutAuto
import Derived.BigQuiet
set_option linter.unusedVariables false
set_option linter.unusedSimpArgs false
namespace Go.Proofs.YtlbjicjinnnboaaGreatDoor
open Go.RowKit
open Pw
set_option maxHeartbeats 8000000 in
set_option maxRecDepth 100000 in
theorem compileMay_walk (HSRC : SrcAny) (s : ByteArray) (w : World) : Calls Tryz.prog 4 #[.string s] w fun e w' => e = .returned (.bool true) ∧ Fr nob w w' := by
 have HSH := hid (shown9_any HSRC w)
 obtain ⟨T, hT⟩ : ∃ T, s.data.toList.take 700 = T := ⟨_, rfl⟩
 have HSO := hid (fun w' => short9_any s w')
 rw [hT] at HSO
 have hTl : T.length ≤ 700 := by rw [← hT, List.length_take]; omega
 obtain ⟨r, hr⟩ := source_some T
 have HS := hid (fun w' => HSRC (bs T) w' (by show T.toArray.size ≤ _; rw [List.size_toArray]; omega) (r := r) hr)
 have HR := hid hr
 clear hT hTl hr
 go_enter Tryz.func4, Tryz.ntmps4
 go_wp2_with fail
 refine HSH.out.mono ?_
 rintro e w1 ⟨rfl, hf1⟩
 have F1 := hid hf1
 clear hf1 HSH
 go_wp2_with fail
 refine (HSO.out w1).mono ?_
 rintro e w1' ⟨rfl, hw⟩
 subst hw
 go_wp2_with fail
 refine (HS.out _).mono ?_
 rintro e w2 ⟨hsa, hf2⟩
 have F2 := hid (F1.out.tr hf2)
 clear hf2 HS HSO F1
 cases r with
 | bad p er =>
  obtain ⟨he, he0⟩ := hsa
  have he : e = .returned (.tuple #[.agg #[.slice none 0 0, .slice none 0 0, .slice none 0 0, .slice none 0 0, .slice none 0 0, .slice none 0 0], .int .i64 (p : Nat), .int .i64 (er : Nat)]) := he
  subst he
  have heb : ((er : Int) == 0) = false := beq_eq_false_iff_ne.2 (by omega)
  have hne : ((er : Int) != 0) = true := by rw [bne, heb]; rfl
  clear he0
  go_wp2_with fail
  go_ret
  exact ⟨rfl, F2.out.alloc _⟩
 | good p =>
  have HI := hid (source_is HR.out).1
  have HT := hid (texts_ok (source_is HR.out).2)
  obtain ⟨g, hg, pg, rfl, hfn, hsz⟩ := source_prog2 hsa HI.out
  subst hg
  clear hsa
  have FP := hid (show Fr nob w2 (w2.alloc (.cells #[.slice (some ⟨g.nb, 0, none⟩) g.p.ns.length g.nc, .slice (some ⟨g.fb, 0, none⟩) g.p.fs.length g.fc, .slice (some ⟨g.tb, 0, none⟩) g.p.ns.length g.tc, .slice (some ⟨g.sb, 0, none⟩) g.p.ns.length g.sc, .slice g.ua g.un g.uc, .slice g.za g.zn g.zc] 29)) from (Fr.refl nob w2).alloc _)
  have P2 := hid (pg.no FP.out)
  have PB2 := hid (Blk.new w2 29 #[.slice (some ⟨g.nb, 0, none⟩) g.p.ns.length g.nc, .slice (some ⟨g.fb, 0, none⟩) g.p.fs.length g.fc, .slice (some ⟨g.tb, 0, none⟩) g.p.ns.length g.tc, .slice (some ⟨g.sb, 0, none⟩) g.p.ns.length g.sc, .slice g.ua g.un g.uc, .slice g.za g.zn g.zc])
  have FN2 := hid (hfn.fr FP.out (fun _ _ x => x))
  have SZ2 := hid (hsz.fr FP.out (fun _ _ x => x))
  have F3 := hid (F2.out.tr FP.out)
  have HA := hid (coall_any P2.out)
  unfold PgV.val at HA
  unfold PgV.val
  clear pg F2 FP hfn hsz
  go_wp2_with fail
  refine HA.out.mono ?_
  rintro e w4 ⟨iv, ev, rfl, hc, hf⟩
  have hlen := (comp_cd HI.out).len
  have hn3 : (compM g.p).ins.length ≤ 1000 := by have := HI.out.tree.ok.few; have := HI.out.tree.ok.fewf; omega
  have hm3 : (compM g.p).entry.length ≤ 6 := by rw [(comp_cd HI.out).elen]; exact HI.out.tree.ok.fewf
  have hN3 : g.p.ns.length ≤ 300 := HI.out.tree.ok.few
  have hN0 : 0 < g.p.ns.length := (prog_pos HI.out).2
  have hm0 : 0 < (compM g.p).entry.length := by rw [(comp_cd HI.out).elen]; exact (prog_pos HI.out).1
  have hmf : (compM g.p).entry.length = g.p.fs.length := (comp_cd HI.out).elen
  have hci := hc.ins
  have hce := hc.ent
  obtain ⟨IA, IC, rfl, -, -⟩ := hci.cap
  obtain ⟨EA, EC, rfl, -, -⟩ := hce.cap
  obtain ⟨n, hn⟩ : ∃ n, n = (compM g.p).ins.length := ⟨_, rfl⟩
  obtain ⟨m, hm⟩ : ∃ m, m = (compM g.p).entry.length := ⟨_, rfl⟩
  rw [← hn] at hn3 hci
  rw [← hm] at hm3 hce hmf hm0
  have HN := hid hn
  have HM := hid hm
  have HMF := hid hmf
  clear hmf
  rw [← hn, ← hm]
  have FC := hid (show Fr nob w4 (w4.alloc (.cells #[.slice IA n IC, .slice EA m EC] 37)) from (Fr.refl nob w4).alloc _)
  have CB4 := hid (Blk.new w4 37 #[.slice IA n IC, .slice EA m EC])
  have HCI := hid (hci.fr FC.out (fun _ _ x => x))
  have HCE := hid (hce.fr FC.out (fun _ _ x => x))
  have FX := hid (hf.tr FC.out)
  have hn4 : (n : Int) ≤ 1000 := by omega
  have hm4 : (m : Int) ≤ 6 := by omega
  clear hc hlen hci hce hf HA hn hm
  go_wp2_with fail
  refine (put8_any _ HN.out HM.out HCI.out HCE.out (by omega) (by omega) (by rw [HN.out]; exact ent_le HI.out HT.out) (ins_may HI.out HT.out)).mono ?_
  rintro e w5 ⟨⟨v, rfl⟩, hf5⟩
  have FY := hid (FX.out.tr hf5)
  have MY5 := hid (show My g w2.heap.size w4.heap.size IA EA IC EC n m w5 from ⟨P2.out.no FY.out, FN2.out.fr FY.out (fun _ _ x => x), SZ2.out.fr FY.out (fun _ _ x => x), PB2.out.fr FY.out (fun x => x), CB4.out.fr hf5 (fun x => x), HCI.out.fr hf5 (fun _ _ x => x), HCE.out.fr hf5 (fun _ _ x => x), HN.out, HM.out⟩)
  have F5 := hid (F3.out.tr FY.out)
  clear hf5 FY FX CB4 HCI HCE FC PB2 P2 FN2 SZ2 F3
  generalize w4.heap.size = CB at *
  generalize w2.heap.size = PB at *
  obtain ⟨eb, rfl, -⟩ := MY5.out.entry (j := 0) (List.getElem?_eq_getElem (by rw [← HM.out]; exact hm0))
  obtain ⟨ib, rfl, -⟩ := MY5.out.insr (j := 0) (List.getElem?_eq_getElem (by
   obtain ⟨e, e2, z, f, h⟩ := may_fn HI.out HT.out (k := 0) (by rw [← HM.out]; exact hm0)
   have := h.lt; have := h.le; omega))
  have hme : ((m : Int) != (g.p.fs.length : Int)) = false := by rw [HMF.out]; simp
  obtain ⟨Z, hZ, hmk⟩ := makeInts9 g.p.ns.length (by omega)
  have hl5 := MY5.out.pg.len
  have MT0 := hid (show Mt w5 w5.heap.size g.p.ns.length (w5.alloc (.cells Z 3)) (List.replicate g.p.ns.length 0) from by
   have hz := Blk.new w5 3 Z
   refine ⟨⟨by simp [ints], _, _, rfl, .inr ⟨_, Z, rfl, by omega, hz, Nat.le_refl _, by unfold maxLen; omega, ?_, ?_⟩⟩, (Fr.refl nob w5).alloc _, Nat.le_refl _⟩
   · rw [← Array.length_toList, hZ, List.length_replicate, Nat.mul_one]
   · rw [hZ, Nat.mul_one, List.take_of_length_le (by rw [List.length_replicate]; exact Nat.le_refl _)]; unfold ints; rw [List.map_replicate]; rfl)
  obtain ⟨⟨c0, c1, clt⟩, p0, p1, p4, p5, plt⟩ := MY5.out.boxes
  have HN0 := hid hN0
  clear hZ hN0 hm0
  go_wp2_with fail
  clear hmk hme c0 c1 clt p0 p1 p4 p5 plt
  generalize w5.alloc (.cells Z 3) = w6 at *
  generalize w5.heap.size = TB at *
  go_loopw [10, 12] (fun mk k wr => ∃ (j mm : Nat) (ts : List Nat), j ≤ m ∧ mk = .int .i64 (mm : Nat) ∧ k = .int .i64 j ∧ Hid (mm ≤ 300) ∧ Hid (Mt w5 TB g.p.ns.length wr ts) ∧ Hid (Mks g.p (eAt g.p j) mm ts)) (fun _ k _ => m - (intOf k).toNat)
  case atStart => exact ⟨0, 0, _, Nat.zero_le _, rfl, rfl, hid (by omega), MT0, hid (by rw [eAt_zero HI.out]; exact Mks.zero _)⟩
  case round =>
   obtain ⟨j, mm, ts, hj, rfl, rfl, HMM, MT, MK⟩ := hrel
   clear MT0
   have MY := hid (MY5.out.no MT.out.fr)
   obtain ⟨⟨c0, c1, clt⟩, p0, p1, p4, p5, plt⟩ := MY.out.boxes
   by_cases hlt : j < m
   · obtain ⟨e, e2, z, f, hMF⟩ := may_fn HI.out HT.out (k := j) (by rw [← HM.out]; exact hlt)
     obtain ⟨E, rfl⟩ : ∃ E, e2 = E + 1 := ⟨e2 - 1, by have := hMF.lt; omega⟩
     have HF := hid hMF
     have hle : e ≤ E := by have := hMF.lt; omega
     have hEn : E < n := by have := hMF.le; have := HN.out; omega
     have x0 := MY.out.entry' hMF.ent
     obtain ⟨y0, y1, -, -, ilt⟩ := MY.out.insr' hMF.last
     rw [Nat.add_sub_cancel] at y0 y1
     obtain ⟨PA, PC, -, r3, flt⟩ := MY.out.func hMF.fn
     have hlt2 : (j : Int) < (m : Int) := by omega
     have hjf : (j : Int) < (g.p.fs.length : Int) := by have := HMF.out; omega
     have HJ := hid hlt
     have hj6 : (j : Int) ≤ 6 := by omega
     have hEn2 : (E : Int) < (n : Int) := by omega
     have hE3 : (E : Int) ≤ 1000 := by omega
     have hle2 : (e : Int) ≤ (E : Int) := by omega
     clear hMF hlt hj
     go_upto_if 71 with fail
     go_cut [13] (fun v wx => v = .int .i64 ((E : Int) + 1) ∧ wx = wr)
     case first =>
      rcases HF.out.nxt with hx | ⟨hx, hx2⟩
      · have hlt3 : (j : Int) + 1 < (m : Int) := by have := (List.getElem?_eq_some_iff.1 hx).1; have := HM.out; omega
        have x4 := MY.out.entry' hx
        rw [show (((E + 1 : Nat) : Nat) : Int) = (E : Int) + 1 by omega] at x4
        clear hx
        go_wp2_with fail
        go_meet
        exact ⟨rfl, rfl⟩
      · have hlt3 : ¬ (j : Int) + 1 < (m : Int) := by have := HM.out; omega
        have hnE : (n : Int) = (E : Int) + 1 := by have := HN.out; omega
        have HNE := hid hnE
        clear hx hx2 hnE
        go_wp2_with fail
        go_meet
        exact ⟨by rw [HNE.out], rfl⟩
     case rest =>
      obtain ⟨rfl, rfl⟩ := hcut
      have b1 : decide ((E : Int) + 1 ≤ (e : Int)) = false := decide_eq_false (by omega)
      have b1' : ¬ (E : Int) + 1 ≤ (e : Int) := by omega
      have b2 : ((f.ret : Int) != (f.ret : Int)) = false := by simp
      have v1 : IntKind.i64.wrap ((E : Int) + 1 - 1) = (E : Int) := by rw [Int.add_sub_cancel]; exact IntWalk.i64_in _ (by omega)
      have v2 : (E : Int) + 1 - 1 = (E : Int) := by omega
      go_wp2_with fail
      go_quiet (fail)
      go_wp2_with fail
      have MK7 := hid (show Mks g.p e mm ts from by have := MK.out; rwa [HF.out.now] at this)
      clear MK b1 b1' b2 v1 v2 c0 c1 clt p0 p1 p4 p5 plt y0 y1 ilt r3 flt x0 MY
      go_loopw [10, 14] (fun mk i wq => ∃ (q mm : Nat) (ts : List Nat), e ≤ q ∧ q ≤ E + 1 ∧ mk = .int .i64 (mm : Nat) ∧ i = .int .i64 q ∧ Hid (Mt w5 TB g.p.ns.length wq ts) ∧ Hid (Mks g.p q mm ts)) (fun _ i _ => E + 1 - (intOf i).toNat)
      case atStart => exact ⟨e, mm, ts, Nat.le_refl _, by omega, rfl, rfl, (by first | exact MT | exact hid (MT.out.no ((Fr.refl nob _).drewN _))), MK7⟩
      case round =>
        clear MT MK7
        obtain ⟨q, mm, ts, hq1, hq2, rfl, rfl, MT, MK⟩ := hrel
        have MY := hid (MY5.out.no MT.out.fr)
        obtain ⟨⟨c0, c1, clt⟩, p0, p1, p4, p5, plt⟩ := MY.out.boxes
        by_cases hlt : q < E + 1
        · obtain ⟨x, hx⟩ : ∃ x, (compM g.p).ins[q]? = some x := ⟨_, List.getElem?_eq_getElem (by have := HN.out; omega)⟩
          have hea := HF.out.each q x hq1 hlt hx
          obtain ⟨y0, y1, y2, y3, ilt⟩ := MY.out.insr' hx
          obtain ⟨o, a, b, sx⟩ := x
          obtain ⟨hmay, hjump, hslot, hcall, hmark⟩ := hea
          dsimp only at y0 y1 y2 y3 hjump hslot hcall hmark
          have ho := hmay.op
          dsimp only at ho
          have HX := hid hx
          have hq4 : (q : Int) < (n : Int) := by omega
          have hlt2 : (q : Int) < (E : Int) + 1 := by omega
          have HJ2 := hid hlt
          have HQ1 := hid hq1
          generalize hSX : bs sx = SX at *
          have hmm : (mm : Int) ≤ 300 := by have := MK.out.le HI.out; omega
          have FAL := hid (show Fr nob wr (wr.alloc (.cells #[.int .i64 (o : Nat), .int .i64 a, .int .i64 (b : Nat), .string SX] 45)) from (Fr.refl nob wr).alloc _)
          have BX := hid (Blk.new wr 45 #[.int .i64 (o : Nat), .int .i64 a, .int .i64 (b : Nat), .string SX])
          have HJP := hid hjump
          have HSL := hid hslot
          have HCL := hid hcall
          have HMK := hid hmark
          clear hx hmay hjump hslot hcall hmark hlt hq1 hq2 hSX
          go_upto_region 23 with fail
          have MTa := hid (MT.out.no FAL.out)
          have MYa := hid (MY.out.no FAL.out)
          clear c0 c1 clt p0 p1 p4 p5 plt y0 y1 y2 y3 ilt FAL MT MY
          generalize wr.alloc (.cells #[.int .i64 (o : Nat), .int .i64 a, .int .i64 (b : Nat), .string SX] 45) = wa at *
          generalize wr.heap.size = XB at *
          obtain ⟨⟨c0, c1, clt⟩, p0, p1, p4, p5, plt⟩ := MYa.out.boxes
          have hcls : o = 16 ∨ o = 17 ∨ o = 18 ∨ o = 19 ∨ o = 5 ∨ o = 6 ∨ o = 11 ∨ o = 12 ∨ o = 20 ∨ o = 1 ∨ (o ≠ 16 ∧ o ≠ 17 ∧ o ≠ 18 ∧ o ≠ 19 ∧ o ≠ 5 ∧ o ≠ 6 ∧ o ≠ 11 ∧ o ≠ 12 ∧ o ≠ 20 ∧ o ≠ 1) := by omega
          clear ho
          rcases hcls with rfl | rfl | rfl | rfl | rfl | rfl | rfl | rfl | rfl | rfl | hcls
          · as_aux_lemma =>
            have BX := hid (show Blk wa XB 45 #[.int .i64 16, .int .i64 a, .int .i64 (b : Nat), .string SX] from BX.out)
            have x0 := (BX.out.cell 0).trans rfl
            have x1 := (BX.out.cell 1).trans rfl
            have x2 := (BX.out.cell 2).trans rfl
            obtain ⟨ha1, ha2⟩ := HJP.out a rfl
            have b1 : decide (a < (e : Int)) = false := decide_eq_false (by omega)
            have b2 : decide ((E : Int) + 1 ≤ a) = false := decide_eq_false (by omega)
            have b1' : ¬ a < (e : Int) := by omega
            have b2' : ¬ (E : Int) + 1 ≤ a := by omega
            have x4 := MYa.out.entry' HF.out.ent
            go_wp2_with fail
            go_quiet (fail)
            go_wp2_with fail
            go_quiet (fail)
            go_wp2_with fail
            go_quiet (fail)
            go_wp2_with fail
            go_roundw
            case rel => exact ⟨q + 1, mm, ts, by have := HQ1.out; omega, by have := HJ2.out; omega, rfl, by go_num, hid (MTa.out.no (by first | exact Fr.refl nob _ | exact (Fr.refl nob _).drewN _ | exact ((Fr.refl nob _).drewN _).drewN _ | exact (((Fr.refl nob _).drewN _).drewN _).drewN _)), hid (MK.out.other HX.out (by show (16 : Nat) ≠ 1; decide))⟩
            case measure => simp [intOf]; have := HJ2.out; omega
          · as_aux_lemma =>
            have BX := hid (show Blk wa XB 45 #[.int .i64 17, .int .i64 a, .int .i64 (b : Nat), .string SX] from BX.out)
            have x0 := (BX.out.cell 0).trans rfl
            have x1 := (BX.out.cell 1).trans rfl
            have x2 := (BX.out.cell 2).trans rfl
            obtain ⟨ha1, ha2⟩ := HJP.out a rfl
            have b1 : decide (a < (e : Int)) = false := decide_eq_false (by omega)
            have b2 : decide ((E : Int) + 1 ≤ a) = false := decide_eq_false (by omega)
            have b1' : ¬ a < (e : Int) := by omega
            have b2' : ¬ (E : Int) + 1 ≤ a := by omega
            have x4 := MYa.out.entry' HF.out.ent
            go_wp2_with fail
            go_quiet (fail)
            go_wp2_with fail
            go_quiet (fail)
            go_wp2_with fail
            go_quiet (fail)
            go_wp2_with fail
            go_roundw
            case rel => exact ⟨q + 1, mm, ts, by have := HQ1.out; omega, by have := HJ2.out; omega, rfl, by go_num, hid (MTa.out.no (by first | exact Fr.refl nob _ | exact (Fr.refl nob _).drewN _ | exact ((Fr.refl nob _).drewN _).drewN _ | exact (((Fr.refl nob _).drewN _).drewN _).drewN _)), hid (MK.out.other HX.out (by show (17 : Nat) ≠ 1; decide))⟩
            case measure => simp [intOf]; have := HJ2.out; omega
          · as_aux_lemma =>
            have BX := hid (show Blk wa XB 45 #[.int .i64 18, .int .i64 a, .int .i64 (b : Nat), .string SX] from BX.out)
            have x0 := (BX.out.cell 0).trans rfl
            have x1 := (BX.out.cell 1).trans rfl
            have x2 := (BX.out.cell 2).trans rfl
            obtain ⟨ha1, ha2⟩ := HJP.out a rfl
            have b1 : decide (a < (e : Int)) = false := decide_eq_false (by omega)
            have b2 : decide ((E : Int) + 1 ≤ a) = false := decide_eq_false (by omega)
            have b1' : ¬ a < (e : Int) := by omega
            have b2' : ¬ (E : Int) + 1 ≤ a := by omega
            have x4 := MYa.out.entry' HF.out.ent
            go_wp2_with fail
            go_quiet (fail)
            go_wp2_with fail
            go_quiet (fail)
            go_wp2_with fail
            go_quiet (fail)
            go_wp2_with fail
            go_roundw
            case rel => exact ⟨q + 1, mm, ts, by have := HQ1.out; omega, by have := HJ2.out; omega, rfl, by go_num, hid (MTa.out.no (by first | exact Fr.refl nob _ | exact (Fr.refl nob _).drewN _ | exact ((Fr.refl nob _).drewN _).drewN _ | exact (((Fr.refl nob _).drewN _).drewN _).drewN _)), hid (MK.out.other HX.out (by show (18 : Nat) ≠ 1; decide))⟩
            case measure => simp [intOf]; have := HJ2.out; omega
          · as_aux_lemma =>
            have BX := hid (show Blk wa XB 45 #[.int .i64 19, .int .i64 a, .int .i64 (b : Nat), .string SX] from BX.out)
            have x0 := (BX.out.cell 0).trans rfl
            have x1 := (BX.out.cell 1).trans rfl
            have x2 := (BX.out.cell 2).trans rfl
            obtain ⟨ha1, ha2⟩ := HJP.out a rfl
            have b1 : decide (a < (e : Int)) = false := decide_eq_false (by omega)
            have b2 : decide ((E : Int) + 1 ≤ a) = false := decide_eq_false (by omega)
            have b1' : ¬ a < (e : Int) := by omega
            have b2' : ¬ (E : Int) + 1 ≤ a := by omega
            have x4 := MYa.out.entry' HF.out.ent
            go_wp2_with fail
            go_quiet (fail)
            go_wp2_with fail
            go_quiet (fail)
            go_wp2_with fail
            go_quiet (fail)
            go_wp2_with fail
            go_roundw
            case rel => exact ⟨q + 1, mm, ts, by have := HQ1.out; omega, by have := HJ2.out; omega, rfl, by go_num, hid (MTa.out.no (by first | exact Fr.refl nob _ | exact (Fr.refl nob _).drewN _ | exact ((Fr.refl nob _).drewN _).drewN _ | exact (((Fr.refl nob _).drewN _).drewN _).drewN _)), hid (MK.out.other HX.out (by show (19 : Nat) ≠ 1; decide))⟩
            case measure => simp [intOf]; have := HJ2.out; omega
          · as_aux_lemma =>
            have BX := hid (show Blk wa XB 45 #[.int .i64 5, .int .i64 a, .int .i64 (b : Nat), .string SX] from BX.out)
            have x0 := (BX.out.cell 0).trans rfl
            have x1 := (BX.out.cell 1).trans rfl
            have x2 := (BX.out.cell 2).trans rfl
            have hz := HSL.out (by decide)
            have b1 : decide ((z : Int) ≤ a) = false := decide_eq_false (by omega)
            have b1' : ¬ (z : Int) ≤ a := by omega
            obtain ⟨zb, hza, x4⟩ := MYa.out.sizeAt HF.out.size
            have hzn : (j : Int) < (g.zn : Int) := by rw [MYa.out.lens.2]; have := (List.getElem?_eq_some_iff.1 HF.out.size).1; omega
            rw [hza] at p5
            clear hza
            go_wp2_with fail
            go_quiet (fail)
            go_wp2_with fail
            go_quiet (fail)
            go_wp2_with fail
            go_quiet (fail)
            go_wp2_with fail
            go_roundw
            case rel => exact ⟨q + 1, mm, ts, by have := HQ1.out; omega, by have := HJ2.out; omega, rfl, by go_num, hid (MTa.out.no (by first | exact Fr.refl nob _ | exact (Fr.refl nob _).drewN _ | exact ((Fr.refl nob _).drewN _).drewN _ | exact (((Fr.refl nob _).drewN _).drewN _).drewN _)), hid (MK.out.other HX.out (by show (5 : Nat) ≠ 1; decide))⟩
            case measure => simp [intOf]; have := HJ2.out; omega
          · as_aux_lemma =>
            have BX := hid (show Blk wa XB 45 #[.int .i64 6, .int .i64 a, .int .i64 (b : Nat), .string SX] from BX.out)
            have x0 := (BX.out.cell 0).trans rfl
            have x1 := (BX.out.cell 1).trans rfl
            have x2 := (BX.out.cell 2).trans rfl
            have hz := HSL.out (by decide)
            have b1 : decide ((z : Int) ≤ a) = false := decide_eq_false (by omega)
            have b1' : ¬ (z : Int) ≤ a := by omega
            obtain ⟨zb, hza, x4⟩ := MYa.out.sizeAt HF.out.size
            have hzn : (j : Int) < (g.zn : Int) := by rw [MYa.out.lens.2]; have := (List.getElem?_eq_some_iff.1 HF.out.size).1; omega
            rw [hza] at p5
            clear hza
            go_wp2_with fail
            go_quiet (fail)
            go_wp2_with fail
            go_quiet (fail)
            go_wp2_with fail
            go_quiet (fail)
            go_wp2_with fail
            go_roundw
            case rel => exact ⟨q + 1, mm, ts, by have := HQ1.out; omega, by have := HJ2.out; omega, rfl, by go_num, hid (MTa.out.no (by first | exact Fr.refl nob _ | exact (Fr.refl nob _).drewN _ | exact ((Fr.refl nob _).drewN _).drewN _ | exact (((Fr.refl nob _).drewN _).drewN _).drewN _)), hid (MK.out.other HX.out (by show (6 : Nat) ≠ 1; decide))⟩
            case measure => simp [intOf]; have := HJ2.out; omega
          · as_aux_lemma =>
            have BX := hid (show Blk wa XB 45 #[.int .i64 11, .int .i64 a, .int .i64 (b : Nat), .string SX] from BX.out)
            have x0 := (BX.out.cell 0).trans rfl
            have x1 := (BX.out.cell 1).trans rfl
            have x2 := (BX.out.cell 2).trans rfl
            have hz := HSL.out (by decide)
            have b1 : decide ((z : Int) ≤ a) = false := decide_eq_false (by omega)
            have b1' : ¬ (z : Int) ≤ a := by omega
            obtain ⟨zb, hza, x4⟩ := MYa.out.sizeAt HF.out.size
            have hzn : (j : Int) < (g.zn : Int) := by rw [MYa.out.lens.2]; have := (List.getElem?_eq_some_iff.1 HF.out.size).1; omega
            rw [hza] at p5
            clear hza
            go_wp2_with fail
            go_quiet (fail)
            go_wp2_with fail
            go_quiet (fail)
            go_wp2_with fail
            go_quiet (fail)
            go_wp2_with fail
            go_roundw
            case rel => exact ⟨q + 1, mm, ts, by have := HQ1.out; omega, by have := HJ2.out; omega, rfl, by go_num, hid (MTa.out.no (by first | exact Fr.refl nob _ | exact (Fr.refl nob _).drewN _ | exact ((Fr.refl nob _).drewN _).drewN _ | exact (((Fr.refl nob _).drewN _).drewN _).drewN _)), hid (MK.out.other HX.out (by show (11 : Nat) ≠ 1; decide))⟩
            case measure => simp [intOf]; have := HJ2.out; omega
          · as_aux_lemma =>
            have BX := hid (show Blk wa XB 45 #[.int .i64 12, .int .i64 a, .int .i64 (b : Nat), .string SX] from BX.out)
            have x0 := (BX.out.cell 0).trans rfl
            have x1 := (BX.out.cell 1).trans rfl
            have x2 := (BX.out.cell 2).trans rfl
            have hz := HSL.out (by decide)
            have b1 : decide ((z : Int) ≤ a) = false := decide_eq_false (by omega)
            have b1' : ¬ (z : Int) ≤ a := by omega
            obtain ⟨zb, hza, x4⟩ := MYa.out.sizeAt HF.out.size
            have hzn : (j : Int) < (g.zn : Int) := by rw [MYa.out.lens.2]; have := (List.getElem?_eq_some_iff.1 HF.out.size).1; omega
            rw [hza] at p5
            clear hza
            go_wp2_with fail
            go_quiet (fail)
            go_wp2_with fail
            go_quiet (fail)
            go_wp2_with fail
            go_quiet (fail)
            go_wp2_with fail
            go_roundw
            case rel => exact ⟨q + 1, mm, ts, by have := HQ1.out; omega, by have := HJ2.out; omega, rfl, by go_num, hid (MTa.out.no (by first | exact Fr.refl nob _ | exact (Fr.refl nob _).drewN _ | exact ((Fr.refl nob _).drewN _).drewN _ | exact (((Fr.refl nob _).drewN _).drewN _).drewN _)), hid (MK.out.other HX.out (by show (12 : Nat) ≠ 1; decide))⟩
            case measure => simp [intOf]; have := HJ2.out; omega
          · as_aux_lemma =>
            obtain ⟨jj, fj, rfl, hfj, rfl⟩ := HCL.out rfl
            obtain ⟨PA2, PC2, r2, -, flt⟩ := MYa.out.func hfj
            have hjj : (jj : Int) < (g.p.fs.length : Int) := by have := (List.getElem?_eq_some_iff.1 hfj).1; omega
            have b1 : decide ((g.p.fs.length : Int) ≤ (jj : Int)) = false := decide_eq_false (by omega)
            have b1' : ¬ g.p.fs.length ≤ jj := by omega
            generalize hpl : fj.params.length = pl at *
            clear hfj hpl
            have BX := hid (show Blk wa XB 45 #[.int .i64 20, .int .i64 (jj : Nat), .int .i64 (pl : Nat), .string SX] from BX.out)
            have x0 := (BX.out.cell 0).trans rfl
            have x1 := (BX.out.cell 1).trans rfl
            have x2 := (BX.out.cell 2).trans rfl
            have b2 : ((pl : Int) != (pl : Int)) = false := by simp
            go_wp2_with fail
            go_quiet (fail)
            go_wp2_with fail
            go_quiet (fail)
            go_wp2_with fail
            go_quiet (fail)
            go_wp2_with fail
            go_roundw
            case rel => exact ⟨q + 1, mm, ts, by have := HQ1.out; omega, by have := HJ2.out; omega, rfl, by go_num, hid (MTa.out.no (by first | exact Fr.refl nob _ | exact (Fr.refl nob _).drewN _ | exact ((Fr.refl nob _).drewN _).drewN _ | exact (((Fr.refl nob _).drewN _).drewN _).drewN _)), hid (MK.out.other HX.out (by show (20 : Nat) ≠ 1; decide))⟩
            case measure => simp [intOf]; have := HJ2.out; omega
          · as_aux_lemma =>
            obtain ⟨y, rfl, hy, hfy⟩ := HMK.out rfl
            obtain ⟨ub, hua, x4⟩ := MYa.out.fnAt hfy
            have hun : (y : Int) < (g.un : Int) := by rw [MYa.out.lens.1]; have := (List.getElem?_eq_some_iff.1 hfy).1; omega
            rw [hua] at p4
            have hyN : (y : Int) < (g.p.ns.length : Int) := by omega
            have b1 : ¬ (g.p.ns.length : Int) ≤ (y : Int) := by omega
            have b2 : ((j : Int) != (j : Int)) = false := by simp
            obtain ⟨tv, htv⟩ : ∃ tv, ts[y]? = some tv := ⟨_, List.getElem?_eq_getElem (by rw [MK.out.len]; exact hy)⟩
            have htl := MK.out.le2 htv
            have htl2 : (tv : Int) ≤ 1000 := by have := HN.out; omega
            obtain ⟨t0, z0, tlt⟩ := MTa.out.at_ htv
            have HTV := hid (show ts.set y (tv + 1) = ts.set y (mksI ((compM g.p).ins.take q) y + 1) from by
             have := MK.out.each y hy
             rw [htv] at this; injection this with this; rw [this])
            have HY := hid hy
            clear hua hfy htv htl hy
            have BX := hid (show Blk wa XB 45 #[.int .i64 1, .int .i64 (y : Nat), .int .i64 (b : Nat), .string SX] from BX.out)
            have x0 := (BX.out.cell 0).trans rfl
            have x1 := (BX.out.cell 1).trans rfl
            have x2 := (BX.out.cell 2).trans rfl
            go_wp2_with fail
            go_quiet (fail)
            go_wp2_with fail
            go_quiet (fail)
            go_wp2_with fail
            go_quiet (fail)
            go_wp2_with fail
            go_roundw
            case rel => exact ⟨q + 1, mm + 1, _, by have := HQ1.out; omega, by have := HJ2.out; omega, by go_num, by go_num, hid ((MTa.out.no (by first | exact Fr.refl nob _ | exact (Fr.refl nob _).drewN _ | exact ((Fr.refl nob _).drewN _).drewN _ | exact (((Fr.refl nob _).drewN _).drewN _).drewN _)).set HN0.out y (tv + 1)), hid (by rw [HTV.out]; exact MK.out.mark HX.out rfl rfl HY.out)⟩
            case measure => simp [intOf]; have := HJ2.out; omega
          · as_aux_lemma =>
            have BX := hid (show Blk wa XB 45 #[.int .i64 (o : Nat), .int .i64 a, .int .i64 (b : Nat), .string SX] from BX.out)
            have x0 := (BX.out.cell 0).trans rfl
            have x1 := (BX.out.cell 1).trans rfl
            have x2 := (BX.out.cell 2).trans rfl
            have q16 : ((o : Int) == 16) = false := beq_eq_false_iff_ne.2 (by omega)
            have q17 : ((o : Int) == 17) = false := beq_eq_false_iff_ne.2 (by omega)
            have q18 : ((o : Int) == 18) = false := beq_eq_false_iff_ne.2 (by omega)
            have q19 : ((o : Int) == 19) = false := beq_eq_false_iff_ne.2 (by omega)
            have q5 : ((o : Int) == 5) = false := beq_eq_false_iff_ne.2 (by omega)
            have q6 : ((o : Int) == 6) = false := beq_eq_false_iff_ne.2 (by omega)
            have q11 : ((o : Int) == 11) = false := beq_eq_false_iff_ne.2 (by omega)
            have q12 : ((o : Int) == 12) = false := beq_eq_false_iff_ne.2 (by omega)
            have q20 : ((o : Int) == 20) = false := beq_eq_false_iff_ne.2 (by omega)
            have q1 : ((o : Int) == 1) = false := beq_eq_false_iff_ne.2 (by omega)
            have HO1 := hid (show o ≠ 1 from hcls.2.2.2.2.2.2.2.2.2)
            clear hcls
            go_wp2_with fail
            go_quiet (fail)
            go_wp2_with fail
            go_quiet (fail)
            go_wp2_with fail
            go_quiet (fail)
            go_wp2_with fail
            go_roundw
            case rel => exact ⟨q + 1, mm, ts, by have := HQ1.out; omega, by have := HJ2.out; omega, rfl, by go_num, hid (MTa.out.no (by first | exact Fr.refl nob _ | exact (Fr.refl nob _).drewN _ | exact ((Fr.refl nob _).drewN _).drewN _ | exact (((Fr.refl nob _).drewN _).drewN _).drewN _)), hid (MK.out.other HX.out (by exact HO1.out))⟩
            case measure => simp [intOf]; have := HJ2.out; omega
        · have hqe : q = E + 1 := by omega
          subst hqe
          have hlt2 : ¬ (E : Int) + 1 < (E : Int) + 1 := by omega
          clear hlt hq1 hq2
          go_wp2_with fail
          go_roundw
          case rel => exact ⟨j + 1, mm, ts, by have := HJ.out; omega, rfl, by go_num, hid (by have := MK.out.le HI.out; omega), MT, hid (by rw [HF.out.then_]; exact MK.out)⟩
          case measure => simp [intOf]; have := HJ.out; omega
   · have hjm : j = m := by omega
     subst hjm
     have hlt2 : ¬ (j : Int) < (j : Int) := by omega
     have HFI := hid (show mm ≤ g.p.ns.length ∧ _ from Mks.fin HI.out (by have := MK.out; rw [HM.out] at this; exact this))
     have hl3 := MY.out.pg.len
     clear hlt hj MK HMM
     have hmN : (mm : Int) ≤ (g.p.ns.length : Int) := by have := HFI.out.1; omega
     go_wp2_with fail
     clear c0 c1 clt p0 p1 p4 p5 plt MY
     go_loopw [18] (fun i wq => ∃ q : Nat, q ≤ g.p.ns.length ∧ i = .int .i64 q ∧ Hid (Mt w5 TB g.p.ns.length wq ts)) (fun i _ => g.p.ns.length - (intOf i).toNat)
     case atStart => exact ⟨0, Nat.zero_le _, rfl, MT⟩
     case round =>
      clear MT
      obtain ⟨q, hq, rfl, MT⟩ := hrel
      have MY := hid (MY5.out.no MT.out.fr)
      obtain ⟨-, p0, p1, p4, p5, plt⟩ := MY.out.boxes
      by_cases hlt : q < g.p.ns.length
      · obtain ⟨nd, hnd⟩ : ∃ nd, g.p.ns[q]? = some nd := ⟨_, List.getElem?_eq_getElem hlt⟩
        obtain ⟨lv, -, n0, -, -, -, -, nlt, -⟩ := MY.out.pg.node hnd
        have hts := HFI.out.2 q nd hnd
        have hlt2 : (q : Int) < (g.p.ns.length : Int) := by omega
        have HJ := hid hlt
        by_cases hs : stmK nd.kind = true
        · rw [if_pos hs] at hts
          obtain ⟨t0, -, tlt⟩ := MT.out.at_ hts
          have h1 : (10 : Int) ≤ (nd.kind : Int) ∧ (nd.kind : Int) ≤ 17 := by simp only [stmK, Bool.and_eq_true, decide_eq_true_eq] at hs; omega
          obtain ⟨h1, h2⟩ := h1
          clear hs hts hlt hq hnd
          go_wp2_with fail
          go_roundw
          case rel => exact ⟨q + 1, by have := HJ.out; omega, by go_num, by first | exact MT | exact hid (MT.out.no ((Fr.refl nob _).drewN _))⟩
          case measure => simp [intOf]; have := HJ.out; omega
        · rw [if_neg hs] at hts
          obtain ⟨t0, -, tlt⟩ := MT.out.at_ hts
          have h1 : ¬ (10 : Int) ≤ (nd.kind : Int) ∨ ((10 : Int) ≤ (nd.kind : Int) ∧ ¬ (nd.kind : Int) ≤ 17) := by simp only [stmK, Bool.and_eq_true, decide_eq_true_eq] at hs; omega
          clear hs hts hlt hq hnd
          rcases h1 with h1 | ⟨h1, h2⟩
          · go_wp2_with fail
            go_roundw
            case rel => exact ⟨q + 1, by have := HJ.out; omega, by go_num, by first | exact MT | exact hid (MT.out.no ((Fr.refl nob _).drewN _))⟩
            case measure => simp [intOf]; have := HJ.out; omega
          · go_wp2_with fail
            go_roundw
            case rel => exact ⟨q + 1, by have := HJ.out; omega, by go_num, by first | exact MT | exact hid (MT.out.no ((Fr.refl nob _).drewN _))⟩
            case measure => simp [intOf]; have := HJ.out; omega
      · have hqe : q = g.p.ns.length := by omega
        subst hqe
        have hlt3 : ¬ (g.p.ns.length : Int) < (g.p.ns.length : Int) := by omega
        clear hlt hq
        go_wp2_with fail
        go_ret
        exact ⟨rfl, F5.out.tr MT.out.fr⟩
end Go.Proofs.YtlbjicjinnnboaaGreatDoor
