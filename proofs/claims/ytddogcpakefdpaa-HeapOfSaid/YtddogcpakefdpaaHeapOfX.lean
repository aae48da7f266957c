/- HeapOf: the walk. -/
import Derived.Test.YtddogcpakefdpaaHeapOfW
namespace Go.Proofs.Ytddogcpakefdpaa
open Go.RowKit
set_option linter.unusedVariables false
set_option linter.unusedSimpArgs false

set_option maxHeartbeats 8000000 in
set_option maxRecDepth 100000 in
theorem of_walk (v : Value) (L : List (List Int)) (p q n : Int) (w : World) (hz : RdRows w v L) :
    Calls Try.prog 6 #[v, .agg #[.int .i64 p, .int .i64 q], .int .i64 n] w fun e w' => e = .returned (.bool true) ∧ Fr nob w w' := by
  obtain ⟨A, c, rfl, hc1, hc2⟩ := hz.slice
  have hmx : L.length ≤ 9223372036854775807 := by unfold maxLen at hc2; omega
  have HZ := hid hz
  clear hz
  generalize hm : L.length = m at *
  have HM := hid hm
  clear hm
  go_enter Try.func6, Try.ntmps6
  go_wp2_with (go_at_call 8; refine (shown_any _).mono ?_; rintro e w1 ⟨rfl, hf⟩; have F1 := hid hf; have hs1 := hf.size; clear hf)
  rw [World.size_alloc] at hs1
  go_loopw [8, 9] (fun own i w' => ∃ (k : Nat) (us : List Value), k ≤ m ∧ k ≤ 20 ∧ i = .int .i64 k ∧ OwnRd w.heap.size w' own us (partN L k) ∧ Fr nob w w' ∧ Blk w' w.heap.size 45 #[.int .i64 p, .int .i64 q]) (fun _ i _ => 20 - (intOf i).toNat)
  case atStart =>
    refine ⟨0, [], Nat.zero_le _, by omega, rfl, ⟨Own.empty _ _ _ _, fun g hg => by simp [blk] at hg, fun k l u h => by simp [partN] at h⟩, (((Fr.refl nob w).alloc _).tr F1.out).alloc _, ?_⟩
    exact ((Blk.new w 45 #[.int .i64 p, .int .i64 q]).fr F1.out (fun x => x)).alloc _
  case round =>
    obtain ⟨k, us, hkm, hk20, rfl, ho, hf, hbx⟩ := hrel
    have htk : (partN L k).length = k := partN_len L k (by have := HM.out; omega)
    have hsn : ∀ h : k < L.length, partN L (k + 1) = partN L k ++ [L[k].take 20] := fun h => partN_succ L k h
    have hpe : (k = 20 ∨ k = L.length) → partN L k = part L := fun h => part_eq L k (by have := HM.out; omega) h hk20
    have SN := hid hsn
    have PE := hid hpe
    clear hsn hpe
    generalize partN L k = K at *
    subst htk
    obtain ⟨A8, c8, rfl, hc8, hc8'⟩ := ho.own.cap
    have O := hid ho
    have F := hid hf
    have BX := hid hbx
    have hsz := hf.size
    clear ho hf hbx
    by_cases hk : K.length < m ∧ K.length < 20
    · obtain ⟨hk1, hk2⟩ := hk
      have hkL : K.length < L.length := by have := HM.out; omega
      have hl : L[K.length]? = some L[K.length] := List.getElem?_eq_getElem hkL
      obtain ⟨g1, o1, A1, c1, rfl, k0, r1⟩ := HZ.out.at_ hl
      have k1 := (F.out.cell (World.block_lt_of_cell? _ _ k0) (fun x => x)).trans k0
      have hcap : 20 ≤ L[K.length].length → (20 : Int) ≤ (c1 : Int) := fun h => by
        obtain ⟨_, _, hv, h1, _⟩ := r1.slice; injection hv with _ _ hv; subst hv; omega
      have R1 := hid r1
      have SN2 := hid (SN.out hkL)
      clear hl k0 r1
      generalize L[K.length] = l at *
      by_cases hl20 : 20 < l.length
      · have hc20 := hcap (by omega)
        have rc := R1.out.cut (by omega)
        have hl2 : (l.take 20).length = 20 := by simp; omega
        have RC := hid rc
        have HL2 := hid hl2
        have hlow' : ∀ (A : Addr) (n c : Nat), Value.slice A1 20 c1 = .slice (some A) n c → 0 < n → A.block < w.heap.size := fun A n c e hn => by
          injection e with e e2 e3; subst e; exact RC.out.blk_lt (by omega)
        have hlow := hid hlow'
        clear hlow'
        have hgt : (20 : Int) < (l.length : Int) := by omega
        clear hcap rc hl2
        as_aux_lemma =>
        go_wp2_with (at_builtin; refine wpList_append (v := .slice A8 K.length c8) (m := 1) (news := [.slice A1 20 c1]) rfl _ _ rfl TyRows rfl rfl (O.out.own.alloc _) (Rd.ofBlk (n := 1) (cs := [.slice A1 20 c1]) (Blk.new _ _ _) rfl (by decide)) (by simp [Value.oneCell']) (by omega) (by unfold maxLen; omega) ?_; intro A3 c3 w3 ho3 hf3 hv3; have O3 := hid ho3; have F3 := hid hf3; have V3 := hid hv3; clear ho3 hf3 hv3)
        go_roundw
        case rel =>
          refine ⟨K.length + 1, us ++ [.slice A1 20 c1], by omega, by omega, by go_num, ?_, ?_, ?_⟩
          · rw [SN2.out]
            refine (O.out.no ((Fr.refl nob wr).alloc _)).snoc (by rw [HL2.out]; exact (RC.out.no (by decide) F.out).no (by decide) ((Fr.refl nob wr).alloc _)) hlow.out O3.out F3.out V3.out (by simp; omega)
          · exact (F.out.alloc _).trans F3.out (fun _ _ x => x) (fun b hb h => by have := O.out.new b h; omega)
          · exact (BX.out.alloc _).fr F3.out (fun h => O.out.own.blk_ne BX.out (by decide) h)
        case measure => simp [intOf]; omega
      · have hl2 : l.take 20 = l := List.take_of_length_le (by omega)
        have HL2 := hid hl2
        have hlow' : ∀ (A : Addr) (n c : Nat), Value.slice A1 l.length c1 = .slice (some A) n c → 0 < n → A.block < w.heap.size := fun A n c e hn => by
          injection e with e e2 e3; subst e; subst e2; exact R1.out.blk_lt hn
        have hlow := hid hlow'
        clear hlow'
        have hgt : ¬ (20 : Int) < (l.length : Int) := by omega
        clear hcap hl2
        as_aux_lemma =>
        go_wp2_with (at_builtin; refine wpList_append (v := .slice A8 K.length c8) (m := 1) (news := [.slice A1 l.length c1]) rfl _ _ rfl TyRows rfl rfl (O.out.own.alloc _) (Rd.ofBlk (n := 1) (cs := [.slice A1 l.length c1]) (Blk.new _ _ _) rfl (by decide)) (by simp [Value.oneCell']) (by omega) (by unfold maxLen; omega) ?_; intro A3 c3 w3 ho3 hf3 hv3; have O3 := hid ho3; have F3 := hid hf3; have V3 := hid hv3; clear ho3 hf3 hv3)
        go_roundw
        case rel =>
          refine ⟨K.length + 1, us ++ [.slice A1 l.length c1], by omega, by omega, by go_num, ?_, ?_, ?_⟩
          · rw [SN2.out, HL2.out]
            exact (O.out.no ((Fr.refl nob wr).alloc _)).snoc ((R1.out.no (by decide) F.out).no (by decide) ((Fr.refl nob wr).alloc _)) hlow.out O3.out F3.out V3.out (by simp; omega)
          · exact (F.out.alloc _).trans F3.out (fun _ _ x => x) (fun b hb h => by have := O.out.new b h; omega)
          · exact (BX.out.alloc _).fr F3.out (fun h => O.out.own.blk_ne BX.out (by decide) h)
        case measure => simp [intOf]; omega
    · have hpt : K = part L := PE.out (by have := HM.out; omega)
      have hple := part_le L
      rw [← hpt] at hple
      have PL := hid hple
      clear hpt hple
      rcases (by omega : m ≤ K.length ∨ K.length < m ∧ 20 ≤ K.length) with hk1 | ⟨hk1, hk2⟩
      all_goals
        clear hk
        have henv : Env w wr.heap.size wr (.slice A8 K.length c8) us K p q := ⟨O.out, fun g hg => O.out.own.blk_lt hg, BX.out, BX.out.lt, Nat.le_refl _, F.out⟩
        have E0 := hid henv
        clear henv
        have hB0 : wr.heap.size = wr.heap.size := rfl
        revert hB0
        generalize hB : wr.heap.size = B at *
        intro hB0
        clear hB0
        by_cases hok : okL K
        · as_aux_lemma =>
          go_wp2_with (first
            | (go_at_call 21; go_must (refine (pof_yes _ _ _ E0.out.ow.rd PL.out hok).mono ?_; rintro e w4 ⟨hb, cv, ev, rfl, h4, hft, hfr⟩; have P4 := hid h4; have T4 := hid hft; have E4 := hid (E0.out.no hfr); clear h4 hft hfr))
            | (go_at_call 22; go_must (refine (rof_yes _ _ _ E4.out.ow.rd PL.out hok).mono ?_; rintro e w5 ⟨yb, lv, ys, rfl, h5, hft, hfr⟩; have T5 := hid (Two.mk2 (B := B) P4.out (fun k hk => by (have := T4.out k hk; omega)) E4.out.le hfr h5 hft); have E5 := hid (E4.out.no hfr); clear h5 hft hfr))
            | (go_at_call 11; have tok := P4; go_must (refine (lists_any _ _ _ _ _ T5.out.p).mono ?_; rintro e w6 ⟨v6, us6, rfl, hr, hfr⟩; obtain ⟨A6, c6, rfl, hc6, hc6'⟩ := hr.own.cap; have R6 := hid hr; have T6 := hid (T5.out.no hfr); have E6 := hid (E5.out.no hfr); have LP := hid T5.out.p.foot_lt; have LR := hid T5.out.r.foot_lt; have LE := hid E5.out.le; clear hr hfr tok P4 T4))
            | (go_at_call 20; have tok := R6; go_must (refine (same_any _ _ K K _ R6.out.rd E6.out.ow.rd).mono ?_; rintro e w7 ⟨he, qq, hw7⟩; rw [decide_eq_true rfl] at he; subst he; have R7 := hid (R6.out.fr (M := nob) (w' := w7) (by rw [hw7]; exact (Fr.refl nob _).drewN qq) (fun _ x => x.elim)); have T7 := hid (T6.out.no (w' := w7) (by rw [hw7]; exact (Fr.refl nob _).drewN qq)); have E7 := hid (E6.out.no (w' := w7) (by rw [hw7]; exact (Fr.refl nob _).drewN qq)); clear hw7 tok R6)))
          have hkm63 : K.length ≤ 9223372036854775807 := by unfold maxLen at hc6'; omega
          go_loopw [17, 18] (fun i _ w' => ∃ (k : Nat) (L2 : List (List Int)), k ≤ K.length ∧ i = .int .i64 k ∧ L2.map List.length = K.map List.length ∧ NewRows w5.heap.size w' (.slice A6 K.length c6) us6 L2 ∧ Fr (fun b => w5.heap.size ≤ b) w7 w') (fun i _ _ => K.length - (intOf i).toNat)
          case atStart => exact ⟨0, K, Nat.zero_le _, rfl, rfl, R7.out, Fr.refl _ _⟩
          case round =>
            obtain ⟨k, L2, hkK, rfl, hll, hr2, hf2⟩ := hrel
            have F2 := hid hf2
            have LL := hid hll
            by_cases hkl : k < K.length
            · obtain ⟨l2, hl2, hl2e⟩ := map_len_get hll (List.getElem?_eq_getElem hkl)
              obtain ⟨g6, Ax, cx, rfl, k1, hux, hcx, hcx2, hat0⟩ := hr2.get hl2
              have R2 := hid hr2
              have UX := hid hux
              have EX := hid hl2e
              clear hr2 hl2 hux hl2e hf2 hll hat0 k1
              generalize l2.length = n2 at *
              have hn63 : n2 ≤ 9223372036854775807 := by unfold maxLen at hcx2; omega
              go_wp2
              go_loopw [18] (fun j w' => ∃ (y : Nat) (L3 : List (List Int)), y ≤ n2 ∧ j = .int .i64 y ∧ L3.map List.length = K.map List.length ∧ NewRows w5.heap.size w' (.slice (some ⟨g6, 0, none⟩) K.length c6) us6 L3 ∧ Fr (fun b => w5.heap.size ≤ b) w7 w') (fun j _ => n2 - (intOf j).toNat)
              case atStart => exact ⟨0, L2, Nat.zero_le _, rfl, LL.out, R2.out, F2.out⟩
              case round =>
                obtain ⟨y, L3, hyn, rfl, hll3, hr3, hf3⟩ := hrel
                obtain ⟨l3, hl3, hl3e⟩ := map_len_get hll3 (List.getElem?_eq_getElem hkl)
                rw [← EX.out] at hl3e
                obtain ⟨g7, Ay, cy, hg7, k3, huy, hcy, hcy2, hat⟩ := hr3.get hl3
                injection hg7 with hg7; injection hg7 with hg7 ho7 hs7; subst hg7; clear ho7 hs7
                rw [UX.out] at huy
                injection huy with huy; injection huy with ea eb ec
                subst ea; subst ec
                by_cases hy : y < n2
                · obtain ⟨gx, rfl, k4, f4⟩ := hat y _ (List.getElem?_eq_getElem (by omega))
                  have hgb : blk (.slice (some ⟨gx, 0, none⟩) n2 cx) = some gx := by simp [blk]; omega
                  obtain ⟨L4, hl4, hn4⟩ := hr3.spoil (y := y) hl3 UX.out hgb 77
                  have R4 := hid hn4
                  have LL4 := hid (hl4.trans hll3)
                  have hgn := (hr3.row k _ _ hl3 UX.out).2 gx hgb
                  have F4 := hid (hf3.setCell ⟨gx, y, none⟩ (.int .i64 77) (fun _ => hgn))
                  clear hr3 hf3 hl3 hat hn4 hl4 hll3
                  rw [hl3e] at k3
                  have hki : (k : Int) < (K.length : Int) := by omega
                  have hyi : (y : Int) < (n2 : Int) := by omega
                  generalize l3[y] = z3 at *
                  clear hl3e eb hyn
                  go_wp2
                  go_roundw
                  case rel => exact ⟨y + 1, L4, by omega, by go_num, LL4.out, R4.out, F4.out⟩
                  case measure => simp [intOf]; omega
                · have R4 := hid hr3
                  have F4 := hid hf3
                  have LL4 := hid hll3
                  clear hr3 hf3 hl3 hat hll3
                  rw [hl3e] at k3
                  have hki : (k : Int) < (K.length : Int) := by omega
                  clear hl3e eb
                  have hy2 : ¬ (y : Int) < (n2 : Int) := by omega
                  go_wp2
                  go_roundw
                  case rel => exact ⟨k + 1, L3, by omega, by go_num, LL4.out, R4.out, F4.out⟩
                  case measure => simp [intOf]; omega
            · have T8 := hid (T7.out.fr hf2 (fun k hk => by have := LP.out k hk; omega) (fun k hk => by have := LR.out k hk; omega))
              have E8 := hid (E7.out.step hf2 (fun k hk => by have := LE.out; omega))
              have c0 := E8.out.bx.cell 0
              have c1 := E8.out.bx.cell 1
              clear hr2 hf2 hll
              go_wp2_with (first
                | (go_at_call 12; go_must (refine (put_any _ _ _ _ p q n _ T8.out.p).mono ?_; rintro e wa ⟨rfl, hn⟩; obtain ⟨cva, eva, hta⟩ := T8.out.stepP E8.out.le hn; have TA := hid hta; have EA := hid (E8.out.step hn.fr T8.out.bp); have d0 := EA.out.bx.cell 0; have d1 := EA.out.bx.cell 1; clear hta hn c0 c1))
                | (go_at_call 17; go_must (refine (rput_any _ _ _ _ p q n _ TA.out.r).mono ?_; rintro e wb ⟨rfl, hn⟩; obtain ⟨lvb, usb, htb⟩ := TA.out.stepR EA.out.le hn; have TB := hid htb; have EB := hid (EA.out.step hn.fr TA.out.br); have y0 := htb.r.box.cell 0; obtain ⟨A9, c9, rfl, _, _⟩ := htb.r.rows.own.cap; have RR := hid htb.r.rows.rd; clear htb hn d0 d1)))
              generalize hL9 : (putL K p q n).length = n9 at *
              have HL9 := hid hL9
              clear hL9
              go_region_held3 (fun w' => w'.cell? ⟨yb, 0, none⟩ = some (.slice A9 n9 c9))
                (first | exact (hfr.cell (World.block_lt_of_cell? _ _ (by assumption)) (fun x => x)).trans (by assumption) | go_keep)
                (first
                  | (go_at_call 11; with_reducible refine (lists_any _ _ _ (putL K p q n) _ (TB.out.p.fr ((Fr.refl nob _).drew) (fun _ _ x => x))).mono ?_; rintro e wc ⟨vc, usc, rfl, hr, hfr⟩; have RC := hid hr.rd; have FC := hid hfr; clear hr)
                  | (go_at_call 20; with_reducible refine (same_any _ _ (putL K p q n) (putL K p q n) _ RC.out (RR.out.fr (((Fr.refl nob _).drew).tr FC.out))).mono ?_; rintro e wd ⟨he, q, hq⟩; rw [decide_eq_true rfl] at he; subst he; have hfr : Fr nob wc wd := by rw [hq]; exact (Fr.refl nob wc).drewN q))
              have FA := hid (((Fr.refl nob _).drew).tr FC.out)
              clear hfr
              go_wp2
              go_ret
              exact ⟨rfl, EB.out.fr.tr (FA.out.drewN _)⟩
        · as_aux_lemma =>
          go_wp2_with (first
            | (go_at_call 21; go_must (refine (pof_no _ _ _ E0.out.ow.rd PL.out hok).mono ?_; rintro e w4 ⟨rfl, hfr⟩; have E4 := hid (E0.out.no hfr); clear hfr))
            | (go_at_call 22; go_must (refine (rof_no _ _ _ E4.out.ow.rd PL.out hok).mono ?_; rintro e w5 ⟨⟨yb, rfl⟩, hfr⟩; have E5 := hid (E4.out.no hfr); clear hfr)))
          go_ret
          exact ⟨rfl, E5.out.fr⟩

end Go.Proofs.Ytddogcpakefdpaa
