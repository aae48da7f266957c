/- Words: Line. Printed by wip/tools/mkline.py. -/
import Derived.Test.YtngnipjfjhackaaDoorWdLm
namespace Go.Proofs.YtngnipjfjhackaaDoor
open Go.RowKit Go.MapKept
set_option linter.unusedVariables false
set_option linter.unusedSimpArgs false
theorem Own.at0L {w : World} {e size n : Nat} {v : Value} {xs : List Value} (h : Own w e size v n xs) (hn : 0 < n) : ∃ (sb c : Nat), v = .slice (some ⟨sb, 0, none⟩) n c ∧ ∀ (i : Nat) (u : Value), xs[i]? = some u → w.cell? ⟨sb, i, none⟩ = some u := h.at0 hn
theorem strs_get (l : List ByteArray) (j : Nat) (x : ByteArray) (h : l[j]? = some x) : (l.map Value.string)[j]? = some (.string x) := by
  rw [List.getElem?_map, h]; rfl
/-- The parts, joined. -/
theorem join_any {w : World} {A : Option Addr} {c : Nat} {l : List ByteArray} (n : Nat) (hn : l.length = n) (ho : Own w 9 1 (.slice A n c) n (l.map Value.string)) (h0 : 0 < n) (hlen : (Lib.join (l.map (·.data.toList)) [32]).length ≤ 140737488355328) (hN : n ≤ 140737488355328) :
    Calls Tryd.prog 13 #[.slice A n c, .string ⟨#[32]⟩] w fun e w' => e = .returned (.string (joinB l)) ∧ Fr nob w w' := by
  subst hn
  obtain ⟨hl, A', c', e, ⟨_, hh⟩ | ⟨g, cur, rfl, hc, hb, hnc, hcm, hsz, ht⟩⟩ := ho
  · omega
  · injection e with e1 _ e3
    subst e1; subst e3
    refine (Tryd.strings_Join g 0 c l ⟨#[32]⟩ w (fun j x hx => ?_) hb.lt hN hnc hlen).mono fun e w' ⟨he, hbl⟩ => ⟨he, (Fr.of_below hbl).mono (fun k h1 h2 => absurd h1 (Nat.not_lt_of_le h2))⟩
    rw [hb.cell, Nat.zero_add]
    have h1 := strs_get l j x hx
    rw [← ht, List.getElem?_take] at h1
    split at h1
    · simpa using h1
    · cases h1
theorem parts_join {c : CmdM} (hc : SmallC c) (ks : List Wk) : (Lib.join ((partsL c ks).map (·.data.toList)) [32]).length ≤ (ks.length + 1) * 1101 := by
  have h := join_len [32] 1100 ((partsL c ks).map (·.data.toList)) (fun x hx => by
    obtain ⟨y, hy, rfl⟩ := List.mem_map.1 hx
    have hl : y.data.toList.length = y.size := by simp
    rw [hl]
    rcases List.mem_cons.1 hy with rfl | hy
    · have := hc.v; omega
    · obtain ⟨k, _, rfl⟩ := List.mem_map.1 hy
      exact putK_size hc k)
  rw [List.length_map] at h
  have e : (partsL c ks).length = ks.length + 1 := by unfold partsL; simp
  rw [e] at h
  exact h
set_option maxHeartbeats 8000000 in
set_option maxRecDepth 100000 in
theorem line_miss (c : CmdM) (hc : SmallC c) (hfit : FitC c) (hk : findS c.verb shapesL = none) (w : World) (hv : VarsM w) :
    Calls Tryd.prog 10 #[cmdV c] w fun e w' => e = .returned (.tuple #[.string (lineR c).1, .int .i64 (lineR c).2]) ∧ Fr nob w w' := by
  obtain ⟨RL, RN, hR⟩ : ∃ RL RN, lineR c = (RL, RN) := ⟨_, _, rfl⟩
  rw [hR]
  dsimp only
  have HR := hid hR
  have HV := hid hv
  have HC := hid hc
  have HF := hid hfit
  have HK := hid hk
  have HSH := hid (fun wx => shapes_any wx)
  obtain ⟨W1, hW1⟩ : ∃ W1, W1 = w.alloc (.cells (cmdC c) 28) := ⟨_, rfl⟩
  have B1 := hid (show CmdAt W1 w.heap.size c from by rw [hW1]; exact Blk.new w _ _)
  have F1 := hid (show Fr nob w W1 from by rw [hW1]; exact (Fr.refl nob w).alloc _)
  unfold cmdV
  unfold cmdC at hW1
  unfold cmdC
  clear hR hv hc hk hfit
  go_enter Tryd.func10, Tryd.ntmps10
  go_wp2_with fail
  rw [← hW1]
  clear hW1
  generalize hB : w.heap.size = B at *
  have HB := hid hB
  clear hB
  have CK := hid (show ∀ wx : World, Fr nob W1 wx → wx.cell? ⟨B, 0, none⟩ = some (.string c.verb) from fun wx f => by simpa [cmdC] using (B1.out.fr f (fun x => x)).cell 0)
  have k0 := CK.out _ (Fr.refl _ _)
  go_region_held3 (fun wx => wx.cell? ⟨B, 0, none⟩ = some (.string c.verb)) (first | exact KN.out | go_keep)
    (first
      | (go_at_call 12; go_loud (refine (HSH.out _).mono ?_); go_loud (rintro e w3 ⟨b1, b2, b3, b4, r, E, rfl, hS⟩); go_loud (have F3 := hid ((Fr.refl nob W1).drew.tr hS.fr)); go_loud (have KN := hid (CK.out _ F3.out)); have LK := (lookup_any hS c.verb).1 HK.out; have EV := hid hS.env; clear hS))
  have B3 := hid (show CmdAt w3 B c from B1.out.fr F3.out (fun x => x))
  have F4 := hid (F1.out.tr F3.out)
  clear k0 CK KN F3 LK HSH B1 F1
  have c0 : w3.cell? ⟨B, 0, none⟩ = some (.string c.verb) := B3.out.cells.1
  have n0 : ¬ B = w3.heap.size := by have := Blk.lt B3.out; omega
  obtain ⟨ao, af, bo, bf⟩ := E
  have e3 : (w3.alloc (.cells #[.string c.verb] 9)).heap.size = w3.heap.size + 1 := by simp
  have S0 := hid (show LS w ((w3.alloc (.cells #[.string c.verb] 9)).alloc (.cells (cmdC (zeroC c.verb)) 28)) B (w3.heap.size + 1) (.slice (some ⟨w3.heap.size, 0, none⟩) 1 1) 1 [.string c.verb] (.slice none 0 0) [] ⟨ao, af, bo, bf⟩ c (zeroC c.verb) from by
    have f4 : Fr nob w3 ((w3.alloc (.cells #[.string c.verb] 9)).alloc (.cells (cmdC (zeroC c.verb)) 28)) := ((Fr.refl nob w3).alloc _).alloc _
    refine ⟨F4.out.tr f4, HV.out.fr (F4.out.tr f4), B3.out.fr f4 (fun x => x), ?_, fun e => by have := Blk.lt B3.out; omega, ?_, fun k hk => ?_, Own.nil _ _ _, EV.out.fr f4 (fun _ _ _ _ _ x => x), by have := F4.out.size; omega⟩
    · have := Blk.new (w3.alloc (.cells #[.string c.verb] 9)) 28 (cmdC (zeroC c.verb))
      rw [e3] at this
      exact this
    · exact ⟨rfl, _, 1, rfl, .inr ⟨w3.heap.size, _, rfl, by decide, (Blk.new w3 _ _).alloc _, Nat.le_refl _, by decide, rfl, rfl⟩⟩
    · have hk2 : k = w3.heap.size := by simp [blk] at hk; omega
      have := F4.out.size; omega)
  unfold cmdC zeroC at S0
  dsimp only at S0
  clear B3 EV F4 e3
  go_wp2_with fail
  clear c0 n0
  generalize hA0 : w3.heap.size = A0 at *
  clear hA0
  generalize (w3.alloc _).alloc _ = w5 at *
  go_loopw [5, 7, 28] (fun okv av i wr => ∃ (j : Nat) (o : CmdM) (ok : Bool) (A' : Option Addr) (c' : Nat), j ≤ 0 ∧ i = .int .i64 j ∧ okv = .bool ok ∧ av = .slice A' (j + 1) c' ∧ Hid (LS w wr B (A0 + 1) (.slice A' (j + 1) c') (j + 1) ((partsL c (([] : List Wk).take j)).map Value.string) (.slice none 0 0) [] ⟨ao, af, bo, bf⟩ c o) ∧ Hid (ok = false)) (fun _ _ i _ => 0 - (intOf i).toNat)
  case atStart => exact ⟨0, zeroC c.verb, false, some ⟨A0, 0, none⟩, 1, Nat.le_refl _, rfl, rfl, rfl, S0, hid rfl⟩
  case round =>
    clear S0
    obtain ⟨j, o, ok, A', c', hj, rfl, rfl, rfl, S, OK⟩ := hrel
    have hj0 : j = 0 := by omega
    subst hj0
    have hok := OK.out
    subst hok
    clear OK hj
    have HJ := hid (join_any (l := [c.verb]) 1 rfl (show Own wr 9 1 (.slice A' 1 c') 1 ([c.verb].map Value.string) from S.out.all) (by decide) (Nat.le_trans (parts_join HC.out []) (by decide)) (by decide))
    obtain ⟨J, hJ⟩ : ∃ J, joinB [c.verb] = J := ⟨_, rfl⟩
    rw [hJ] at HJ
    clear hJ
    go_wp2_with fail
    refine HJ.out.mono ?_
    rintro e w8 ⟨rfl, hf⟩
    have F8 := hid (S.out.fr.tr hf)
    clear hf
    go_wp2_with fail
    go_ret2
    refine ⟨?_, F8.out⟩
    have e := HR.out
    rw [lineR_none (by unfold lineM; rw [HK.out])] at e
    cases e
    rfl
set_option maxHeartbeats 8000000 in
set_option maxRecDepth 100000 in
theorem line_found (c : CmdM) (hc : SmallC c) (hfit : FitC c) (ks : List Wk) (hk : findS c.verb shapesL = some ks) (w : World) (hv : VarsM w) :
    Calls Tryd.prog 10 #[cmdV c] w fun e w' => e = .returned (.tuple #[.string (lineR c).1, .int .i64 (lineR c).2]) ∧ Fr nob w w' := by
  obtain ⟨RL, RN, hR⟩ : ∃ RL RN, lineR c = (RL, RN) := ⟨_, _, rfl⟩
  rw [hR]
  dsimp only
  have HR := hid hR
  have HV := hid hv
  have HC := hid hc
  have HF := hid hfit
  have HK := hid hk
  have HSH := hid (fun wx => shapes_any wx)
  obtain ⟨W1, hW1⟩ : ∃ W1, W1 = w.alloc (.cells (cmdC c) 28) := ⟨_, rfl⟩
  have B1 := hid (show CmdAt W1 w.heap.size c from by rw [hW1]; exact Blk.new w _ _)
  have F1 := hid (show Fr nob w W1 from by rw [hW1]; exact (Fr.refl nob w).alloc _)
  unfold cmdV
  unfold cmdC at hW1
  unfold cmdC
  have hk3 := find_len hk
  generalize hn : ks.length = n at *
  have HN := hid hn
  clear hn
  clear hR hv hc hk hfit
  go_enter Tryd.func10, Tryd.ntmps10
  go_wp2_with fail
  rw [← hW1]
  clear hW1
  generalize hB : w.heap.size = B at *
  have HB := hid hB
  clear hB
  have CK := hid (show ∀ wx : World, Fr nob W1 wx → wx.cell? ⟨B, 0, none⟩ = some (.string c.verb) from fun wx f => by simpa [cmdC] using (B1.out.fr f (fun x => x)).cell 0)
  have k0 := CK.out _ (Fr.refl _ _)
  go_region_held3 (fun wx => wx.cell? ⟨B, 0, none⟩ = some (.string c.verb)) (first | exact KN.out | go_keep)
    (first
      | (go_at_call 12; go_loud (refine (HSH.out _).mono ?_); go_loud (rintro e w3 ⟨b1, b2, b3, b4, r, E, rfl, hS⟩); go_loud (have F3 := hid ((Fr.refl nob W1).drew.tr hS.fr)); go_loud (have KN := hid (CK.out _ F3.out)); obtain ⟨sv, LK, hsv⟩ := (lookup_any hS c.verb).2 ks HK.out; rw [HN.out] at hsv; obtain ⟨SA, sc, rfl, _, _⟩ := hsv.cap; have SV := hid hsv; clear hsv; have EV := hid hS.env; clear hS))
  have B3 := hid (show CmdAt w3 B c from B1.out.fr F3.out (fun x => x))
  have F4 := hid (F1.out.tr F3.out)
  clear k0 CK KN F3 LK HSH B1 F1
  have c0 : w3.cell? ⟨B, 0, none⟩ = some (.string c.verb) := B3.out.cells.1
  have n0 : ¬ B = w3.heap.size := by have := Blk.lt B3.out; omega
  obtain ⟨ao, af, bo, bf⟩ := E
  have e3 : (w3.alloc (.cells #[.string c.verb] 9)).heap.size = w3.heap.size + 1 := by simp
  have S0 := hid (show LS w ((w3.alloc (.cells #[.string c.verb] 9)).alloc (.cells (cmdC (zeroC c.verb)) 28)) B (w3.heap.size + 1) (.slice (some ⟨w3.heap.size, 0, none⟩) 1 1) 1 [.string c.verb] (.slice SA n sc) ks ⟨ao, af, bo, bf⟩ c (zeroC c.verb) from by
    have f4 : Fr nob w3 ((w3.alloc (.cells #[.string c.verb] 9)).alloc (.cells (cmdC (zeroC c.verb)) 28)) := ((Fr.refl nob w3).alloc _).alloc _
    refine ⟨F4.out.tr f4, HV.out.fr (F4.out.tr f4), B3.out.fr f4 (fun x => x), ?_, fun e => by have := Blk.lt B3.out; omega, ?_, fun k hk => ?_, by rw [HN.out]; exact SV.out.fr f4 (fun _ _ x => x), EV.out.fr f4 (fun _ _ _ _ _ x => x), by have := F4.out.size; omega⟩
    · have := Blk.new (w3.alloc (.cells #[.string c.verb] 9)) 28 (cmdC (zeroC c.verb))
      rw [e3] at this
      exact this
    · exact ⟨rfl, _, 1, rfl, .inr ⟨w3.heap.size, _, rfl, by decide, (Blk.new w3 _ _).alloc _, Nat.le_refl _, by decide, rfl, rfl⟩⟩
    · have hk2 : k = w3.heap.size := by simp [blk] at hk; omega
      have := F4.out.size; omega)
  unfold cmdC zeroC at S0
  dsimp only at S0
  clear B3 EV F4 e3 SV
  go_wp2_with fail
  clear c0 n0
  generalize hA0 : w3.heap.size = A0 at *
  clear hA0
  generalize (w3.alloc _).alloc _ = w5 at *
  go_loopw [5, 7, 28] (fun okv av i wr => ∃ (j : Nat) (o : CmdM) (ok : Bool) (A' : Option Addr) (c' : Nat), j ≤ n ∧ i = .int .i64 j ∧ okv = .bool ok ∧ av = .slice A' (j + 1) c' ∧ Hid (LS w wr B (A0 + 1) (.slice A' (j + 1) c') (j + 1) ((partsL c (ks.take j)).map Value.string) (.slice SA n sc) ks ⟨ao, af, bo, bf⟩ c o) ∧ Hid (SpecL c ks ok j o)) (fun _ _ i _ => n - (intOf i).toNat)
  case atStart => exact ⟨0, zeroC c.verb, true, some ⟨A0, 0, none⟩, 1, Nat.zero_le _, rfl, rfl, rfl, S0, hid ⟨fun _ => rfl, fun e => (by cases e)⟩⟩
  case round =>
    clear S0
    obtain ⟨j, o, ok, A', c', hj, rfl, rfl, rfl, S, SP⟩ := hrel
    by_cases hlt : j < n
    · have hlt2 : (j : Int) < (n : Int) := by omega
      have HJ3 := hid (show j + 1 ≤ 3 by omega)
      have hj6 : (j : Int) + 1 ≤ 9223372036854775807 := by omega
      have hlk : j < ks.length := by rw [HN.out]; exact hlt
      obtain ⟨k, hkj⟩ : ∃ k, ks[j]? = some k := ⟨_, List.getElem?_eq_getElem hlk⟩
      have hdk : ks.drop j = k :: ks.drop (j + 1) := by rw [List.drop_eq_getElem_cons hlk]; congr 1; exact Option.some.inj ((List.getElem?_eq_getElem hlk).symm.trans hkj)
      have hps := parts_snoc c hkj
      have hsh := S.out.shape
      rw [HN.out] at hsh
      obtain ⟨sb, sc2, hSA, hcell⟩ := hsh.at0 (by omega)
      injection hSA with hSA e2 e3
      clear e2 e3
      subst hSA
      obtain ⟨g1, g2⟩ := cellsOf_get ⟨ao, af, bo, bf⟩ ks j k hkj
      have x0 := hcell _ _ g1
      have x1 := hcell _ _ g2
      have HSZ := hid (show (putK k c).1.size ≤ 281474976710656 by have := putK_size HC.out k; omega)
      obtain ⟨ps, hp1⟩ : ∃ ps, (putK k c).1 = ps := ⟨_, rfl⟩
      obtain ⟨pf, hp2⟩ : ∃ pf, (putK k c).2 = pf := ⟨_, rfl⟩
      rw [hp1] at hps HSZ
      have HPS := hid (show (partsL c (ks.take (j + 1))).map Value.string = (partsL c (ks.take j)).map Value.string ++ [.string ps] from by rw [hps, List.map_append]; rfl)
      have HP1 := hid hp1
      have HP2 := hid hp2
      have HDK := hid hdk
      clear hcell g1 g2 hkj hps hsh hlk hp1 hp2 hdk
      cases k with
      | a =>
        simp only [Env.put, Env.take, nameP, nameT, numP, numT, valP, valT] at x0 x1
        have XB := hid (Blk.new wr 47 #[.func (.func 28) #[] #[.pointer (some ⟨ao, 0, none⟩), .pointer (some ⟨af, 0, none⟩)], .func (.func 29) #[] #[.pointer (some ⟨ao, 0, none⟩), .pointer (some ⟨af, 0, none⟩)]])
        have S6 := hid (S.out.no (w' := wr.alloc (.cells #[.func (.func 28) #[] #[.pointer (some ⟨ao, 0, none⟩), .pointer (some ⟨af, 0, none⟩)], .func (.func 29) #[] #[.pointer (some ⟨ao, 0, none⟩), .pointer (some ⟨af, 0, none⟩)]] 47)) ((Fr.refl nob wr).alloc _))
        have LP := hid (putAP (E := ⟨ao, af, bo, bf⟩) S6.out.box S6.out.env)
        unfold PutP at LP
        rw [HP1.out, HP2.out] at LP
        clear S
        go_wp2_with fail
        clear x0 x1
        generalize hX : wr.heap.size = X at *
        clear hX
        generalize wr.alloc _ = w6 at *
        refine LP.out.mono ?_
        rintro e w7 ⟨rfl, hf⟩
        have S7 := hid (S6.out.no hf)
        have X7 := hid (XB.out.fr hf (fun x => x))
        clear hf LP S6 XB
        have y1 : w7.cell? ⟨X, 1, none⟩ = some (.func (.func 29) #[] #[.pointer (some ⟨ao, 0, none⟩), .pointer (some ⟨af, 0, none⟩)]) := by rw [X7.out.cell 1]; rfl
        clear X7
        cases ok with
        | false =>
          have SP2 := hid (show SpecL c ks false (j + 1) o from SP.out.no)
          clear SP
          go_wp2_with (at_builtin; go_loud (refine wpList_append (m := 1) (news := [.string ps]) rfl _ _ rfl TyStrs rfl rfl (S7.out.all.alloc _) (Rd.ofBlk (n := 1) (cs := [.string ps]) (Blk.new _ _ _) rfl (by decide)) (by simp [Value.oneCell']) (by have h9 := HJ3.out; omega) (by have h9 := HJ3.out; unfold maxLen; omega) ?_); intro A9 c9 w9 ho9 hf9 hv9; have S9 := hid ((S7.out.no ((Fr.refl nob _).alloc _)).app HV.out hf9 ho9 hv9); clear ho9 hf9 hv9)
          go_roundw
          case rel => exact ⟨j + 1, o, false, A9, c9, by omega, by go_num, rfl, rfl, hid (by have := S9.out; rw [HPS.out]; first | exact this | exact this.no ((Fr.refl nob _).drewN _)), SP2⟩
          case measure => simp [intOf]; omega
        | true =>
          have hst := SP.out.step HDK.out
          rw [HP1.out, HP2.out] at hst
          cases pf with
          | false =>
            have SP2 := hid (show SpecL c ks false (j + 1) o from ⟨fun e => (by cases e), fun _ => by rw [hst]; rfl⟩)
            clear SP hst
            go_wp2_with (at_builtin; go_loud (refine wpList_append (m := 1) (news := [.string ps]) rfl _ _ rfl TyStrs rfl rfl (S7.out.all.alloc _) (Rd.ofBlk (n := 1) (cs := [.string ps]) (Blk.new _ _ _) rfl (by decide)) (by simp [Value.oneCell']) (by have h9 := HJ3.out; omega) (by have h9 := HJ3.out; unfold maxLen; omega) ?_); intro A9 c9 w9 ho9 hf9 hv9; have S9 := hid ((S7.out.no ((Fr.refl nob _).alloc _)).app HV.out hf9 ho9 hv9); clear ho9 hf9 hv9)
            go_roundw
            case rel => exact ⟨j + 1, o, false, A9, c9, by omega, by go_num, rfl, rfl, hid (by have := S9.out; rw [HPS.out]; first | exact this | exact this.no ((Fr.refl nob _).drewN _)), SP2⟩
            case measure => simp [intOf]; omega
          | true =>
            rw [if_pos rfl] at hst
            have HST := hid hst
            have LW := hid (takeAP (E := ⟨ao, af, bo, bf⟩) (s := ps) S7.out.cmd S7.out.env)
            unfold TakeP at LW
            clear hst SP
            cases ho : takeK .a o ps with
            | none =>
              rw [ho] at LW HST
              simp only [Option.isSome_none] at LW
              go_wp2_with fail
              refine LW.out.mono ?_
              rintro e w8 ⟨rfl, ⟨o', ho', hC⟩, hf⟩
              have S8 := hid (S7.out.take HV.out hf hC)
              have SP2 := hid (show SpecL c ks false (j + 1) o' from ⟨fun e => (by cases e), fun _ => HST.out⟩)
              clear ho' hC hf HST S7 LW y1
              go_wp2_with (at_builtin; go_loud (refine wpList_append (m := 1) (news := [.string ps]) rfl _ _ rfl TyStrs rfl rfl (S8.out.all.alloc _) (Rd.ofBlk (n := 1) (cs := [.string ps]) (Blk.new _ _ _) rfl (by decide)) (by simp [Value.oneCell']) (by have h9 := HJ3.out; omega) (by have h9 := HJ3.out; unfold maxLen; omega) ?_); intro A9 c9 w9 ho9 hf9 hv9; have S9 := hid ((S8.out.no ((Fr.refl nob _).alloc _)).app HV.out hf9 ho9 hv9); clear ho9 hf9 hv9)
              go_roundw
              case rel => exact ⟨j + 1, o', false, A9, c9, by omega, by go_num, rfl, rfl, hid (by have := S9.out; rw [HPS.out]; first | exact this | exact this.no ((Fr.refl nob _).drewN _)), SP2⟩
              case measure => simp [intOf]; omega
            | some o1 =>
              rw [ho] at LW HST
              simp only [Option.isSome_some] at LW
              go_wp2_with fail
              refine LW.out.mono ?_
              rintro e w8 ⟨rfl, ⟨o', ho', hC⟩, hf⟩
              have S8 := hid (S7.out.take HV.out hf hC)
              have hoo := ho' o1 rfl
              have SP2 := hid (show SpecL c ks true (j + 1) o' from ⟨fun _ => (by rw [HST.out, hoo]; rfl), fun e => (by cases e)⟩)
              clear ho' hC hf HST S7 LW y1 hoo
              go_wp2_with (at_builtin; go_loud (refine wpList_append (m := 1) (news := [.string ps]) rfl _ _ rfl TyStrs rfl rfl (S8.out.all.alloc _) (Rd.ofBlk (n := 1) (cs := [.string ps]) (Blk.new _ _ _) rfl (by decide)) (by simp [Value.oneCell']) (by have h9 := HJ3.out; omega) (by have h9 := HJ3.out; unfold maxLen; omega) ?_); intro A9 c9 w9 ho9 hf9 hv9; have S9 := hid ((S8.out.no ((Fr.refl nob _).alloc _)).app HV.out hf9 ho9 hv9); clear ho9 hf9 hv9)
              go_roundw
              case rel => exact ⟨j + 1, o', true, A9, c9, by omega, by go_num, rfl, rfl, hid (by have := S9.out; rw [HPS.out]; first | exact this | exact this.no ((Fr.refl nob _).drewN _)), SP2⟩
              case measure => simp [intOf]; omega
      | b =>
        simp only [Env.put, Env.take, nameP, nameT, numP, numT, valP, valT] at x0 x1
        have XB := hid (Blk.new wr 47 #[.func (.func 28) #[] #[.pointer (some ⟨bo, 0, none⟩), .pointer (some ⟨bf, 0, none⟩)], .func (.func 29) #[] #[.pointer (some ⟨bo, 0, none⟩), .pointer (some ⟨bf, 0, none⟩)]])
        have S6 := hid (S.out.no (w' := wr.alloc (.cells #[.func (.func 28) #[] #[.pointer (some ⟨bo, 0, none⟩), .pointer (some ⟨bf, 0, none⟩)], .func (.func 29) #[] #[.pointer (some ⟨bo, 0, none⟩), .pointer (some ⟨bf, 0, none⟩)]] 47)) ((Fr.refl nob wr).alloc _))
        have LP := hid (putBP (E := ⟨ao, af, bo, bf⟩) S6.out.box S6.out.env)
        unfold PutP at LP
        rw [HP1.out, HP2.out] at LP
        clear S
        go_wp2_with fail
        clear x0 x1
        generalize hX : wr.heap.size = X at *
        clear hX
        generalize wr.alloc _ = w6 at *
        refine LP.out.mono ?_
        rintro e w7 ⟨rfl, hf⟩
        have S7 := hid (S6.out.no hf)
        have X7 := hid (XB.out.fr hf (fun x => x))
        clear hf LP S6 XB
        have y1 : w7.cell? ⟨X, 1, none⟩ = some (.func (.func 29) #[] #[.pointer (some ⟨bo, 0, none⟩), .pointer (some ⟨bf, 0, none⟩)]) := by rw [X7.out.cell 1]; rfl
        clear X7
        cases ok with
        | false =>
          have SP2 := hid (show SpecL c ks false (j + 1) o from SP.out.no)
          clear SP
          go_wp2_with (at_builtin; go_loud (refine wpList_append (m := 1) (news := [.string ps]) rfl _ _ rfl TyStrs rfl rfl (S7.out.all.alloc _) (Rd.ofBlk (n := 1) (cs := [.string ps]) (Blk.new _ _ _) rfl (by decide)) (by simp [Value.oneCell']) (by have h9 := HJ3.out; omega) (by have h9 := HJ3.out; unfold maxLen; omega) ?_); intro A9 c9 w9 ho9 hf9 hv9; have S9 := hid ((S7.out.no ((Fr.refl nob _).alloc _)).app HV.out hf9 ho9 hv9); clear ho9 hf9 hv9)
          go_roundw
          case rel => exact ⟨j + 1, o, false, A9, c9, by omega, by go_num, rfl, rfl, hid (by have := S9.out; rw [HPS.out]; first | exact this | exact this.no ((Fr.refl nob _).drewN _)), SP2⟩
          case measure => simp [intOf]; omega
        | true =>
          have hst := SP.out.step HDK.out
          rw [HP1.out, HP2.out] at hst
          cases pf with
          | false =>
            have SP2 := hid (show SpecL c ks false (j + 1) o from ⟨fun e => (by cases e), fun _ => by rw [hst]; rfl⟩)
            clear SP hst
            go_wp2_with (at_builtin; go_loud (refine wpList_append (m := 1) (news := [.string ps]) rfl _ _ rfl TyStrs rfl rfl (S7.out.all.alloc _) (Rd.ofBlk (n := 1) (cs := [.string ps]) (Blk.new _ _ _) rfl (by decide)) (by simp [Value.oneCell']) (by have h9 := HJ3.out; omega) (by have h9 := HJ3.out; unfold maxLen; omega) ?_); intro A9 c9 w9 ho9 hf9 hv9; have S9 := hid ((S7.out.no ((Fr.refl nob _).alloc _)).app HV.out hf9 ho9 hv9); clear ho9 hf9 hv9)
            go_roundw
            case rel => exact ⟨j + 1, o, false, A9, c9, by omega, by go_num, rfl, rfl, hid (by have := S9.out; rw [HPS.out]; first | exact this | exact this.no ((Fr.refl nob _).drewN _)), SP2⟩
            case measure => simp [intOf]; omega
          | true =>
            rw [if_pos rfl] at hst
            have HST := hid hst
            have LW := hid (takeBP (E := ⟨ao, af, bo, bf⟩) (s := ps) S7.out.cmd S7.out.env)
            unfold TakeP at LW
            clear hst SP
            cases ho : takeK .b o ps with
            | none =>
              rw [ho] at LW HST
              simp only [Option.isSome_none] at LW
              go_wp2_with fail
              refine LW.out.mono ?_
              rintro e w8 ⟨rfl, ⟨o', ho', hC⟩, hf⟩
              have S8 := hid (S7.out.take HV.out hf hC)
              have SP2 := hid (show SpecL c ks false (j + 1) o' from ⟨fun e => (by cases e), fun _ => HST.out⟩)
              clear ho' hC hf HST S7 LW y1
              go_wp2_with (at_builtin; go_loud (refine wpList_append (m := 1) (news := [.string ps]) rfl _ _ rfl TyStrs rfl rfl (S8.out.all.alloc _) (Rd.ofBlk (n := 1) (cs := [.string ps]) (Blk.new _ _ _) rfl (by decide)) (by simp [Value.oneCell']) (by have h9 := HJ3.out; omega) (by have h9 := HJ3.out; unfold maxLen; omega) ?_); intro A9 c9 w9 ho9 hf9 hv9; have S9 := hid ((S8.out.no ((Fr.refl nob _).alloc _)).app HV.out hf9 ho9 hv9); clear ho9 hf9 hv9)
              go_roundw
              case rel => exact ⟨j + 1, o', false, A9, c9, by omega, by go_num, rfl, rfl, hid (by have := S9.out; rw [HPS.out]; first | exact this | exact this.no ((Fr.refl nob _).drewN _)), SP2⟩
              case measure => simp [intOf]; omega
            | some o1 =>
              rw [ho] at LW HST
              simp only [Option.isSome_some] at LW
              go_wp2_with fail
              refine LW.out.mono ?_
              rintro e w8 ⟨rfl, ⟨o', ho', hC⟩, hf⟩
              have S8 := hid (S7.out.take HV.out hf hC)
              have hoo := ho' o1 rfl
              have SP2 := hid (show SpecL c ks true (j + 1) o' from ⟨fun _ => (by rw [HST.out, hoo]; rfl), fun e => (by cases e)⟩)
              clear ho' hC hf HST S7 LW y1 hoo
              go_wp2_with (at_builtin; go_loud (refine wpList_append (m := 1) (news := [.string ps]) rfl _ _ rfl TyStrs rfl rfl (S8.out.all.alloc _) (Rd.ofBlk (n := 1) (cs := [.string ps]) (Blk.new _ _ _) rfl (by decide)) (by simp [Value.oneCell']) (by have h9 := HJ3.out; omega) (by have h9 := HJ3.out; unfold maxLen; omega) ?_); intro A9 c9 w9 ho9 hf9 hv9; have S9 := hid ((S8.out.no ((Fr.refl nob _).alloc _)).app HV.out hf9 ho9 hv9); clear ho9 hf9 hv9)
              go_roundw
              case rel => exact ⟨j + 1, o', true, A9, c9, by omega, by go_num, rfl, rfl, hid (by have := S9.out; rw [HPS.out]; first | exact this | exact this.no ((Fr.refl nob _).drewN _)), SP2⟩
              case measure => simp [intOf]; omega
      | n =>
        simp only [Env.put, Env.take, nameP, nameT, numP, numT, valP, valT] at x0 x1
        have XB := hid (Blk.new wr 47 #[.func (.func 30) #[] #[], .func (.func 32) #[] #[]])
        have S6 := hid (S.out.no (w' := wr.alloc (.cells #[.func (.func 30) #[] #[], .func (.func 32) #[] #[]] 47)) ((Fr.refl nob wr).alloc _))
        have LP := hid (putNP S6.out.box HC.out S6.out.vars.v)
        unfold PutP at LP
        rw [HP1.out, HP2.out] at LP
        clear S
        go_wp2_with fail
        clear x0 x1
        generalize hX : wr.heap.size = X at *
        clear hX
        generalize wr.alloc _ = w6 at *
        refine LP.out.mono ?_
        rintro e w7 ⟨rfl, hf⟩
        have S7 := hid (S6.out.no hf)
        have X7 := hid (XB.out.fr hf (fun x => x))
        clear hf LP S6 XB
        have y1 : w7.cell? ⟨X, 1, none⟩ = some (.func (.func 32) #[] #[]) := by rw [X7.out.cell 1]; rfl
        clear X7
        cases ok with
        | false =>
          have SP2 := hid (show SpecL c ks false (j + 1) o from SP.out.no)
          clear SP
          go_wp2_with (at_builtin; go_loud (refine wpList_append (m := 1) (news := [.string ps]) rfl _ _ rfl TyStrs rfl rfl (S7.out.all.alloc _) (Rd.ofBlk (n := 1) (cs := [.string ps]) (Blk.new _ _ _) rfl (by decide)) (by simp [Value.oneCell']) (by have h9 := HJ3.out; omega) (by have h9 := HJ3.out; unfold maxLen; omega) ?_); intro A9 c9 w9 ho9 hf9 hv9; have S9 := hid ((S7.out.no ((Fr.refl nob _).alloc _)).app HV.out hf9 ho9 hv9); clear ho9 hf9 hv9)
          go_roundw
          case rel => exact ⟨j + 1, o, false, A9, c9, by omega, by go_num, rfl, rfl, hid (by have := S9.out; rw [HPS.out]; first | exact this | exact this.no ((Fr.refl nob _).drewN _)), SP2⟩
          case measure => simp [intOf]; omega
        | true =>
          have hst := SP.out.step HDK.out
          rw [HP1.out, HP2.out] at hst
          cases pf with
          | false =>
            have SP2 := hid (show SpecL c ks false (j + 1) o from ⟨fun e => (by cases e), fun _ => by rw [hst]; rfl⟩)
            clear SP hst
            go_wp2_with (at_builtin; go_loud (refine wpList_append (m := 1) (news := [.string ps]) rfl _ _ rfl TyStrs rfl rfl (S7.out.all.alloc _) (Rd.ofBlk (n := 1) (cs := [.string ps]) (Blk.new _ _ _) rfl (by decide)) (by simp [Value.oneCell']) (by have h9 := HJ3.out; omega) (by have h9 := HJ3.out; unfold maxLen; omega) ?_); intro A9 c9 w9 ho9 hf9 hv9; have S9 := hid ((S7.out.no ((Fr.refl nob _).alloc _)).app HV.out hf9 ho9 hv9); clear ho9 hf9 hv9)
            go_roundw
            case rel => exact ⟨j + 1, o, false, A9, c9, by omega, by go_num, rfl, rfl, hid (by have := S9.out; rw [HPS.out]; first | exact this | exact this.no ((Fr.refl nob _).drewN _)), SP2⟩
            case measure => simp [intOf]; omega
          | true =>
            rw [if_pos rfl] at hst
            have HST := hid hst
            have LW := hid (takeNP (s := ps) S7.out.cmd HSZ.out S7.out.vars.v)
            unfold TakeP at LW
            clear hst SP
            cases ho : takeK .n o ps with
            | none =>
              rw [ho] at LW HST
              simp only [Option.isSome_none] at LW
              go_wp2_with fail
              refine LW.out.mono ?_
              rintro e w8 ⟨rfl, ⟨o', ho', hC⟩, hf⟩
              have S8 := hid (S7.out.take HV.out hf hC)
              have SP2 := hid (show SpecL c ks false (j + 1) o' from ⟨fun e => (by cases e), fun _ => HST.out⟩)
              clear ho' hC hf HST S7 LW y1
              go_wp2_with (at_builtin; go_loud (refine wpList_append (m := 1) (news := [.string ps]) rfl _ _ rfl TyStrs rfl rfl (S8.out.all.alloc _) (Rd.ofBlk (n := 1) (cs := [.string ps]) (Blk.new _ _ _) rfl (by decide)) (by simp [Value.oneCell']) (by have h9 := HJ3.out; omega) (by have h9 := HJ3.out; unfold maxLen; omega) ?_); intro A9 c9 w9 ho9 hf9 hv9; have S9 := hid ((S8.out.no ((Fr.refl nob _).alloc _)).app HV.out hf9 ho9 hv9); clear ho9 hf9 hv9)
              go_roundw
              case rel => exact ⟨j + 1, o', false, A9, c9, by omega, by go_num, rfl, rfl, hid (by have := S9.out; rw [HPS.out]; first | exact this | exact this.no ((Fr.refl nob _).drewN _)), SP2⟩
              case measure => simp [intOf]; omega
            | some o1 =>
              rw [ho] at LW HST
              simp only [Option.isSome_some] at LW
              go_wp2_with fail
              refine LW.out.mono ?_
              rintro e w8 ⟨rfl, ⟨o', ho', hC⟩, hf⟩
              have S8 := hid (S7.out.take HV.out hf hC)
              have hoo := ho' o1 rfl
              have SP2 := hid (show SpecL c ks true (j + 1) o' from ⟨fun _ => (by rw [HST.out, hoo]; rfl), fun e => (by cases e)⟩)
              clear ho' hC hf HST S7 LW y1 hoo
              go_wp2_with (at_builtin; go_loud (refine wpList_append (m := 1) (news := [.string ps]) rfl _ _ rfl TyStrs rfl rfl (S8.out.all.alloc _) (Rd.ofBlk (n := 1) (cs := [.string ps]) (Blk.new _ _ _) rfl (by decide)) (by simp [Value.oneCell']) (by have h9 := HJ3.out; omega) (by have h9 := HJ3.out; unfold maxLen; omega) ?_); intro A9 c9 w9 ho9 hf9 hv9; have S9 := hid ((S8.out.no ((Fr.refl nob _).alloc _)).app HV.out hf9 ho9 hv9); clear ho9 hf9 hv9)
              go_roundw
              case rel => exact ⟨j + 1, o', true, A9, c9, by omega, by go_num, rfl, rfl, hid (by have := S9.out; rw [HPS.out]; first | exact this | exact this.no ((Fr.refl nob _).drewN _)), SP2⟩
              case measure => simp [intOf]; omega
      | v =>
        simp only [Env.put, Env.take, nameP, nameT, numP, numT, valP, valT] at x0 x1
        have XB := hid (Blk.new wr 47 #[.func (.func 34) #[] #[], .func (.func 37) #[] #[]])
        have S6 := hid (S.out.no (w' := wr.alloc (.cells #[.func (.func 34) #[] #[], .func (.func 37) #[] #[]] 47)) ((Fr.refl nob wr).alloc _))
        have LP := hid (putVP S6.out.box HC.out S6.out.vars.v)
        unfold PutP at LP
        rw [HP1.out, HP2.out] at LP
        clear S
        go_wp2_with fail
        clear x0 x1
        generalize hX : wr.heap.size = X at *
        clear hX
        generalize wr.alloc _ = w6 at *
        refine LP.out.mono ?_
        rintro e w7 ⟨rfl, hf⟩
        have S7 := hid (S6.out.no hf)
        have X7 := hid (XB.out.fr hf (fun x => x))
        clear hf LP S6 XB
        have y1 : w7.cell? ⟨X, 1, none⟩ = some (.func (.func 37) #[] #[]) := by rw [X7.out.cell 1]; rfl
        clear X7
        cases ok with
        | false =>
          have SP2 := hid (show SpecL c ks false (j + 1) o from SP.out.no)
          clear SP
          go_wp2_with (at_builtin; go_loud (refine wpList_append (m := 1) (news := [.string ps]) rfl _ _ rfl TyStrs rfl rfl (S7.out.all.alloc _) (Rd.ofBlk (n := 1) (cs := [.string ps]) (Blk.new _ _ _) rfl (by decide)) (by simp [Value.oneCell']) (by have h9 := HJ3.out; omega) (by have h9 := HJ3.out; unfold maxLen; omega) ?_); intro A9 c9 w9 ho9 hf9 hv9; have S9 := hid ((S7.out.no ((Fr.refl nob _).alloc _)).app HV.out hf9 ho9 hv9); clear ho9 hf9 hv9)
          go_roundw
          case rel => exact ⟨j + 1, o, false, A9, c9, by omega, by go_num, rfl, rfl, hid (by have := S9.out; rw [HPS.out]; first | exact this | exact this.no ((Fr.refl nob _).drewN _)), SP2⟩
          case measure => simp [intOf]; omega
        | true =>
          have hst := SP.out.step HDK.out
          rw [HP1.out, HP2.out] at hst
          cases pf with
          | false =>
            have SP2 := hid (show SpecL c ks false (j + 1) o from ⟨fun e => (by cases e), fun _ => by rw [hst]; rfl⟩)
            clear SP hst
            go_wp2_with (at_builtin; go_loud (refine wpList_append (m := 1) (news := [.string ps]) rfl _ _ rfl TyStrs rfl rfl (S7.out.all.alloc _) (Rd.ofBlk (n := 1) (cs := [.string ps]) (Blk.new _ _ _) rfl (by decide)) (by simp [Value.oneCell']) (by have h9 := HJ3.out; omega) (by have h9 := HJ3.out; unfold maxLen; omega) ?_); intro A9 c9 w9 ho9 hf9 hv9; have S9 := hid ((S7.out.no ((Fr.refl nob _).alloc _)).app HV.out hf9 ho9 hv9); clear ho9 hf9 hv9)
            go_roundw
            case rel => exact ⟨j + 1, o, false, A9, c9, by omega, by go_num, rfl, rfl, hid (by have := S9.out; rw [HPS.out]; first | exact this | exact this.no ((Fr.refl nob _).drewN _)), SP2⟩
            case measure => simp [intOf]; omega
          | true =>
            rw [if_pos rfl] at hst
            have HST := hid hst
            have LW := hid (takeVP (s := ps) S7.out.cmd HSZ.out S7.out.vars.v)
            unfold TakeP at LW
            clear hst SP
            cases ho : takeK .v o ps with
            | none =>
              rw [ho] at LW HST
              simp only [Option.isSome_none] at LW
              go_wp2_with fail
              refine LW.out.mono ?_
              rintro e w8 ⟨rfl, ⟨o', ho', hC⟩, hf⟩
              have S8 := hid (S7.out.take HV.out hf hC)
              have SP2 := hid (show SpecL c ks false (j + 1) o' from ⟨fun e => (by cases e), fun _ => HST.out⟩)
              clear ho' hC hf HST S7 LW y1
              go_wp2_with (at_builtin; go_loud (refine wpList_append (m := 1) (news := [.string ps]) rfl _ _ rfl TyStrs rfl rfl (S8.out.all.alloc _) (Rd.ofBlk (n := 1) (cs := [.string ps]) (Blk.new _ _ _) rfl (by decide)) (by simp [Value.oneCell']) (by have h9 := HJ3.out; omega) (by have h9 := HJ3.out; unfold maxLen; omega) ?_); intro A9 c9 w9 ho9 hf9 hv9; have S9 := hid ((S8.out.no ((Fr.refl nob _).alloc _)).app HV.out hf9 ho9 hv9); clear ho9 hf9 hv9)
              go_roundw
              case rel => exact ⟨j + 1, o', false, A9, c9, by omega, by go_num, rfl, rfl, hid (by have := S9.out; rw [HPS.out]; first | exact this | exact this.no ((Fr.refl nob _).drewN _)), SP2⟩
              case measure => simp [intOf]; omega
            | some o1 =>
              rw [ho] at LW HST
              simp only [Option.isSome_some] at LW
              go_wp2_with fail
              refine LW.out.mono ?_
              rintro e w8 ⟨rfl, ⟨o', ho', hC⟩, hf⟩
              have S8 := hid (S7.out.take HV.out hf hC)
              have hoo := ho' o1 rfl
              have SP2 := hid (show SpecL c ks true (j + 1) o' from ⟨fun _ => (by rw [HST.out, hoo]; rfl), fun e => (by cases e)⟩)
              clear ho' hC hf HST S7 LW y1 hoo
              go_wp2_with (at_builtin; go_loud (refine wpList_append (m := 1) (news := [.string ps]) rfl _ _ rfl TyStrs rfl rfl (S8.out.all.alloc _) (Rd.ofBlk (n := 1) (cs := [.string ps]) (Blk.new _ _ _) rfl (by decide)) (by simp [Value.oneCell']) (by have h9 := HJ3.out; omega) (by have h9 := HJ3.out; unfold maxLen; omega) ?_); intro A9 c9 w9 ho9 hf9 hv9; have S9 := hid ((S8.out.no ((Fr.refl nob _).alloc _)).app HV.out hf9 ho9 hv9); clear ho9 hf9 hv9)
              go_roundw
              case rel => exact ⟨j + 1, o', true, A9, c9, by omega, by go_num, rfl, rfl, hid (by have := S9.out; rw [HPS.out]; first | exact this | exact this.no ((Fr.refl nob _).drewN _)), SP2⟩
              case measure => simp [intOf]; omega
    · have hle2 : ¬ (j : Int) < (n : Int) := by omega
      have hjn : j = n := by omega
      subst hjn
      have htk : ks.take j = ks := List.take_of_length_le (by rw [HN.out]; exact Nat.le_refl _)
      have hdr : ks.drop j = [] := List.drop_eq_nil_of_le (by rw [HN.out]; exact Nat.le_refl _)
      have hal := S.out.all
      rw [htk] at hal
      have HJ := hid (join_any (l := partsL c ks) (j + 1) (by unfold partsL; simp [HN.out]) hal (by omega) (by have := parts_join HC.out ks; have := HN.out; omega) (by omega))
      obtain ⟨J, hJ⟩ : ∃ J, joinB (partsL c ks) = J := ⟨_, rfl⟩
      rw [hJ] at HJ
      have HJE := hid hJ
      have sp1 := SP.out.1
      rw [hdr] at sp1
      have SP1 := hid sp1
      have SP0 := hid SP.out.2
      clear hJ hal htk hdr hlt hj SP sp1
      cases ok with
      | false =>
        have hno := SP0.out rfl
        have HNO := hid hno
        clear hno
        go_wp2_with fail
        refine HJ.out.mono ?_
        rintro e w8 ⟨rfl, hf⟩
        have F8 := hid (S.out.fr.tr hf)
        clear hf
        go_wp2_with fail
        go_ret2
        refine ⟨?_, F8.out⟩
        have e := HR.out
        rw [lineR_none (by rw [lineM_eq HK.out, HNO.out])] at e
        cases e
        rfl
      | true =>
        have hyes := SP1.out rfl
        have HYES := hid hyes
        have HFO := hid (goes_fit hyes (zero_fit HF.out.v))
        have HNEQ := hid (fun wx => neq_cmd o c HFO.out HF.out wx)
        unfold cmdV cmdC at HNEQ
        clear hyes
        by_cases hoc : o = c
        · rw [decide_eq_true hoc] at HNEQ
          have HOC := hid hoc
          clear hoc
          by_cases h80 : J.size ≤ 80
          · have h80i : ¬ (80 : Int) < (J.size : Int) := by omega
            go_wp2_with fail
            refine HJ.out.mono ?_
            rintro e w8 ⟨rfl, hf⟩
            have F8 := hid (S.out.fr.tr hf)
            have S8 := hid (S.out.no hf)
            clear hf
            obtain ⟨d0, d1, d2, d3, d4, d5, d6⟩ := S8.out.cmd.cells
            obtain ⟨b0, b1, b2, b3, b4, b5, b6⟩ := S8.out.box.cells
            have hneq := HNEQ.out
            go_wp2_with fail
            go_ret2
            refine ⟨?_, F8.out⟩
            have e := HR.out
            rw [lineR_some (l := J) (by rw [lineM_eq HK.out, HYES.out]; show (if o = c ∧ (joinB (partsL c ks)).size ≤ 80 then some (joinB (partsL c ks)) else none) = some J; rw [HJE.out, if_pos ⟨HOC.out, h80⟩])] at e
            cases e
            rfl
          · have h80i : (80 : Int) < (J.size : Int) := by omega
            go_wp2_with fail
            refine HJ.out.mono ?_
            rintro e w8 ⟨rfl, hf⟩
            have F8 := hid (S.out.fr.tr hf)
            have S8 := hid (S.out.no hf)
            clear hf
            obtain ⟨d0, d1, d2, d3, d4, d5, d6⟩ := S8.out.cmd.cells
            obtain ⟨b0, b1, b2, b3, b4, b5, b6⟩ := S8.out.box.cells
            have hneq := HNEQ.out
            go_wp2_with fail
            go_ret2
            refine ⟨?_, F8.out⟩
            have e := HR.out
            rw [lineR_none (by rw [lineM_eq HK.out, HYES.out]; show (if o = c ∧ (joinB (partsL c ks)).size ≤ 80 then some (joinB (partsL c ks)) else none) = none; rw [HJE.out, if_neg (fun h => h80 h.2)])] at e
            cases e
            rfl
        · rw [decide_eq_false hoc] at HNEQ
          have HOC := hid hoc
          clear hoc
          go_wp2_with fail
          refine HJ.out.mono ?_
          rintro e w8 ⟨rfl, hf⟩
          have F8 := hid (S.out.fr.tr hf)
          have S8 := hid (S.out.no hf)
          clear hf
          obtain ⟨d0, d1, d2, d3, d4, d5, d6⟩ := S8.out.cmd.cells
          obtain ⟨b0, b1, b2, b3, b4, b5, b6⟩ := S8.out.box.cells
          have hneq := HNEQ.out
          go_wp2_with fail
          go_ret2
          refine ⟨?_, F8.out⟩
          have e := HR.out
          rw [lineR_none (by rw [lineM_eq HK.out, HYES.out]; show (if o = c ∧ (joinB (partsL c ks)).size ≤ 80 then some (joinB (partsL c ks)) else none) = none; rw [HJE.out, if_neg (fun h => HOC.out h.1)])] at e
          cases e
          rfl
theorem line_any (c : CmdM) (hc : SmallC c) (hfit : FitC c) (w : World) (hv : VarsM w) :
    Calls Tryd.prog 10 #[cmdV c] w fun e w' => e = .returned (.tuple #[.string (lineR c).1, .int .i64 (lineR c).2]) ∧ Fr nob w w' := by
  cases hk : findS c.verb shapesL with
  | none => exact line_miss c hc hfit hk w hv
  | some ks => exact line_found c hc hfit ks hk w hv
end Go.Proofs.YtngnipjfjhackaaDoor
