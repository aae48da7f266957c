/- HeapOwn: the walk. -/
import Derived.Test.YtddogcpakefdpaaHeapOwnW
namespace Go.Proofs.Ytddogcpakefdpaa
open Go.RowKit
set_option linter.unusedVariables false
set_option linter.unusedSimpArgs false

set_option maxHeartbeats 8000000 in
set_option maxRecDepth 100000 in
theorem own_walk (v : Value) (L : List (List Int)) (p q n : Int) (w : World) (hz : RdRows w v L) :
    Calls Try.prog 7 #[v, .agg #[.int .i64 p, .int .i64 q], .int .i64 n] w fun e w' => e = .returned (.bool true) ∧ Fr nob w w' := by
  obtain ⟨A, c, rfl, hc1, hc2⟩ := hz.slice
  have hmx : L.length ≤ 9223372036854775807 := by unfold maxLen at hc2; omega
  have HZ := hid hz
  clear hz
  generalize hm : L.length = m at *
  have HM := hid hm
  clear hm
  go_enter Try.func7, Try.ntmps7
  go_wp2_with (go_at_call 8; refine (shown_any _).mono ?_; rintro e w1 ⟨rfl, hf⟩; have F1 := hid hf; have hs1 := hf.size; clear hf)
  rw [World.size_alloc] at hs1
  go_loopw [8, 9] (fun own i w' => ∃ (k : Nat) (us : List Value), k ≤ m ∧ k ≤ 20 ∧ i = .int .i64 k ∧ OwnRd w.heap.size w' own us (partN L k) ∧ Fr nob w w' ∧ Blk w' w.heap.size 45 #[.int .i64 p, .int .i64 q]) (fun _ i _ => 20 - (intOf i).toNat)
  case atStart =>
    refine ⟨0, [], Nat.zero_le _, by omega, rfl, ⟨Own.empty _ _ _ _, fun g hg => by simp [blk] at hg, fun k l u h => by simp [partN] at h⟩, (((Fr.refl nob w).alloc _).tr F1.out).alloc _, ?_⟩
    exact ((Blk.new w 45 #[.int .i64 p, .int .i64 q]).fr F1.out (fun x => x)).alloc _
  case round =>
    obtain ⟨k, us, hkm, hk20, rfl, ho, hf, hbx⟩ := hrel
    have htk : (partN L k).length = k := partN_len L k (by have := HM.out; omega)
    have hsn : ∀ h : k < L.length, partN L (k + 1) = partN L k ++ [L[k].take 20] := fun h => partN_succ L k h
    have hpe : (k = 20 ∨ k = L.length) → partN L k = part L := fun h => part_eq L k (by have := HM.out; omega) h hk20
    have SN := hid hsn
    have PE := hid hpe
    clear hsn hpe
    generalize partN L k = K at *
    subst htk
    obtain ⟨A8, c8, rfl, hc8, hc8'⟩ := ho.own.cap
    have O := hid ho
    have F := hid hf
    have BX := hid hbx
    have hsz := hf.size
    clear ho hf hbx
    by_cases hk : K.length < m ∧ K.length < 20
    · obtain ⟨hk1, hk2⟩ := hk
      have hkL : K.length < L.length := by have := HM.out; omega
      have hl : L[K.length]? = some L[K.length] := List.getElem?_eq_getElem hkL
      obtain ⟨g1, o1, A1, c1, rfl, k0, r1⟩ := HZ.out.at_ hl
      have k1 := (F.out.cell (World.block_lt_of_cell? _ _ k0) (fun x => x)).trans k0
      have hcap : 20 ≤ L[K.length].length → (20 : Int) ≤ (c1 : Int) := fun h => by
        obtain ⟨_, _, hv, h1, _⟩ := r1.slice; injection hv with _ _ hv; subst hv; omega
      have R1 := hid r1
      have SN2 := hid (SN.out hkL)
      clear hl k0 r1
      generalize L[K.length] = l at *
      by_cases hl20 : 20 < l.length
      · have hc20 := hcap (by omega)
        have rc := R1.out.cut (by omega)
        have hl2 : (l.take 20).length = 20 := by simp; omega
        have RC := hid rc
        have HL2 := hid hl2
        have hlow' : ∀ (A : Addr) (n c : Nat), Value.slice A1 20 c1 = .slice (some A) n c → 0 < n → A.block < w.heap.size := fun A n c e hn => by
          injection e with e e2 e3; subst e; exact RC.out.blk_lt (by omega)
        have hlow := hid hlow'
        clear hlow'
        have hgt : (20 : Int) < (l.length : Int) := by omega
        clear hcap rc hl2
        as_aux_lemma =>
        go_wp2_with (at_builtin; refine wpList_append (v := .slice A8 K.length c8) (m := 1) (news := [.slice A1 20 c1]) rfl _ _ rfl TyRows rfl rfl (O.out.own.alloc _) (Rd.ofBlk (n := 1) (cs := [.slice A1 20 c1]) (Blk.new _ _ _) rfl (by decide)) (by simp [Value.oneCell']) (by omega) (by unfold maxLen; omega) ?_; intro A3 c3 w3 ho3 hf3 hv3; have O3 := hid ho3; have F3 := hid hf3; have V3 := hid hv3; clear ho3 hf3 hv3)
        go_roundw
        case rel =>
          refine ⟨K.length + 1, us ++ [.slice A1 20 c1], by omega, by omega, by go_num, ?_, ?_, ?_⟩
          · rw [SN2.out]
            refine (O.out.no ((Fr.refl nob wr).alloc _)).snoc (by rw [HL2.out]; exact (RC.out.no (by decide) F.out).no (by decide) ((Fr.refl nob wr).alloc _)) hlow.out O3.out F3.out V3.out (by simp; omega)
          · exact (F.out.alloc _).trans F3.out (fun _ _ x => x) (fun b hb h => by have := O.out.new b h; omega)
          · exact (BX.out.alloc _).fr F3.out (fun h => O.out.own.blk_ne BX.out (by decide) h)
        case measure => simp [intOf]; omega
      · have hl2 : l.take 20 = l := List.take_of_length_le (by omega)
        have HL2 := hid hl2
        have hlow' : ∀ (A : Addr) (n c : Nat), Value.slice A1 l.length c1 = .slice (some A) n c → 0 < n → A.block < w.heap.size := fun A n c e hn => by
          injection e with e e2 e3; subst e; subst e2; exact R1.out.blk_lt hn
        have hlow := hid hlow'
        clear hlow'
        have hgt : ¬ (20 : Int) < (l.length : Int) := by omega
        clear hcap hl2
        as_aux_lemma =>
        go_wp2_with (at_builtin; refine wpList_append (v := .slice A8 K.length c8) (m := 1) (news := [.slice A1 l.length c1]) rfl _ _ rfl TyRows rfl rfl (O.out.own.alloc _) (Rd.ofBlk (n := 1) (cs := [.slice A1 l.length c1]) (Blk.new _ _ _) rfl (by decide)) (by simp [Value.oneCell']) (by omega) (by unfold maxLen; omega) ?_; intro A3 c3 w3 ho3 hf3 hv3; have O3 := hid ho3; have F3 := hid hf3; have V3 := hid hv3; clear ho3 hf3 hv3)
        go_roundw
        case rel =>
          refine ⟨K.length + 1, us ++ [.slice A1 l.length c1], by omega, by omega, by go_num, ?_, ?_, ?_⟩
          · rw [SN2.out, HL2.out]
            exact (O.out.no ((Fr.refl nob wr).alloc _)).snoc ((R1.out.no (by decide) F.out).no (by decide) ((Fr.refl nob wr).alloc _)) hlow.out O3.out F3.out V3.out (by simp; omega)
          · exact (F.out.alloc _).trans F3.out (fun _ _ x => x) (fun b hb h => by have := O.out.new b h; omega)
          · exact (BX.out.alloc _).fr F3.out (fun h => O.out.own.blk_ne BX.out (by decide) h)
        case measure => simp [intOf]; omega
    · have hpt : K = part L := PE.out (by have := HM.out; omega)
      have hple := part_le L
      rw [← hpt] at hple
      have PL := hid hple
      clear hpt hple
      rcases (by omega : m ≤ K.length ∨ K.length < m ∧ 20 ≤ K.length) with hk1 | ⟨hk1, hk2⟩
      all_goals
        clear hk
        have henv : Env w wr.heap.size wr (.slice A8 K.length c8) us K p q := ⟨O.out, fun g hg => O.out.own.blk_lt hg, BX.out, BX.out.lt, Nat.le_refl _, F.out⟩
        have E0 := hid henv
        clear henv
        by_cases hok : okL K
        · as_aux_lemma =>
          go_wp2_with (first
            | (go_at_call 21; go_must (refine (pof_yes _ _ _ E0.out.ow.rd PL.out hok).mono ?_; rintro e w4 ⟨hb, cv, ev, rfl, h4, hft, hfr⟩; have P4 := hid h4; have T4 := hid hft; have E4 := hid (E0.out.no hfr); clear h4 hft hfr))
            | (go_at_call 19; go_must (refine (pclone_any _ _ _ _ _ P4.out).mono ?_; rintro e w5 ⟨nb, nv, mv, rfl, h5, hft, hfr⟩; have hpair : Pair wr.heap.size w5 nb nv mv K hb cv ev K := ⟨h5, P4.out.fr hfr (fun _ _ x => x), fun k h1 h2 => by (have := hft k h1; have := P4.out.foot_lt k h2; omega), fun k hk => by (have := hft k hk; have := E4.out.le; omega), T4.out⟩; have D5 := hid hpair; have E5 := hid (E4.out.no hfr); have c0 := E5.out.bx.cell 0; have c1 := E5.out.bx.cell 1; clear h5 hft hfr hpair))
            | (go_at_call 12; have tok := D5; go_must (refine (put_any _ _ _ _ p q n _ D5.out.p).mono ?_; rintro e w6 ⟨rfl, hn⟩; obtain ⟨nv6, mv6, hp6⟩ := D5.out.step E5.out.le hn; have D6 := hid hp6; have E6 := hid (E5.out.step hn.fr D5.out.bp); clear hp6 hn D5 tok c0 c1))
            | (go_at_call 10; have tok := D6; go_must (refine (make_any _ _ _ _ 1 _ D6.out.p).mono ?_; rintro e w7 ⟨rfl, hn⟩; obtain ⟨nv7, mv7, hp7⟩ := D6.out.step E6.out.le hn; have D7 := hid hp7; have E7 := hid (E6.out.step hn.fr D6.out.bp); clear hp7 hn D6 tok))
            | (go_at_call 11; have tok := D7; go_must (refine (lists_any _ _ _ _ _ D7.out.n).mono ?_; rintro e w8 ⟨v8, us8, rfl, hr, hfr⟩; have R8 := hid hr.rd; have D8 := hid (D7.out.no hfr); have E8 := hid (E7.out.no hfr); clear hr hfr D7 tok))
            | (go_at_call 20; have tok := R8; go_must (refine (same_any _ _ K K _ R8.out E8.out.ow.rd).mono ?_; rintro e w9 ⟨he, qq, rfl⟩; rw [decide_eq_true rfl] at he; subst he; have D9 := hid (D8.out.no ((Fr.refl nob _).drewN qq)); have E9 := hid (E8.out.no ((Fr.refl nob _).drewN qq)); clear R8 tok D8))
            | (go_at_call 11; have tok := D9; go_must (refine (lists_any _ _ _ _ _ D9.out.p).mono ?_; rintro e wa ⟨va, usa, rfl, hr, hfr⟩; have RA := hid hr; have DA := hid (D9.out.no hfr); have EA := hid (E9.out.no hfr); have LA := hid D9.out.n.foot_lt; have c0 := EA.out.bx.cell 0; have c1 := EA.out.bx.cell 1; clear hr hfr D9 tok))
            | (go_at_call 12; have tok := DA; go_must (refine (put_any _ _ _ _ p q _ _ DA.out.n).mono ?_; rintro e wb ⟨rfl, hn⟩; obtain ⟨cvb, evb, hpb, hsub⟩ := DA.out.swap.step' EA.out.le hn; have DB := hid hpb; have EB := hid (EA.out.step hn.fr DA.out.bn); have SUB := hid hsub; have FB := hid hn.fr; clear hpb hn tok hsub DA c0 c1))
            | (go_at_call 10; have tok := DB; go_must (refine (make_any _ _ _ _ 2 _ DB.out.p).mono ?_; rintro e wc ⟨rfl, hn⟩; obtain ⟨cvc, evc, hpc⟩ := DB.out.step EB.out.le hn; have DC := hid hpc; have EC := hid (EB.out.step hn.fr DB.out.bp); have FC := FB.out.trans hn.fr (fun _ _ x => x) (fun k hk hm => (SUB.out k hm).resolve_right (by omega)); have RC := hid (RA.out.fr FC (fun k hk => LA.out k hk)); clear hpc hn tok FC SUB DB))
            | (go_at_call 11; have tok := DC; go_must (refine (lists_any _ _ _ _ _ DC.out.n).mono ?_; rintro e wd ⟨vd, usd, rfl, hr, hfr⟩; have RD := hid hr.rd; have RC2 := hid (RC.out.rd.fr hfr); have ED := hid (EC.out.no hfr); clear hr hfr DC tok))
            | (go_at_call 20; have tok := RD; go_must (refine (same_any _ _ _ _ _ RD.out RC2.out).mono ?_; rintro e we ⟨he, qq2, rfl⟩; rw [decide_eq_true rfl] at he; subst he; have EE := hid (ED.out.no ((Fr.refl nob _).drewN qq2)); clear RD tok)))
          go_ret
          exact ⟨rfl, EE.out.fr⟩
        · as_aux_lemma =>
          go_wp2_with (go_at_call 21; go_must (refine (pof_no _ _ _ E0.out.ow.rd PL.out hok).mono ?_; rintro e w4 ⟨rfl, hfr⟩; have E4 := hid (E0.out.no hfr); clear hfr))
          go_ret
          exact ⟨rfl, E4.out.fr⟩

end Go.Proofs.Ytddogcpakefdpaa
