/- HeapKeeps: the walk. -/
import Derived.Test.YtddogcpakefdpaaHeapU
import Derived.Test.YtddogcpakefdpaaArg
namespace Go.Proofs.Ytddogcpakefdpaa
open Go.RowKit
set_option linter.unusedVariables false
set_option linter.unusedSimpArgs false

/-- All numbers are 0. -/
def Zs (L : List (List Int)) : Prop := ∀ l ∈ L, ∀ v ∈ l, v = 0
theorem Zs.mk {L : List (List Int)} (h : Zs L) (n : Int) : Zs (mkL L n) := by
  unfold mkL
  split
  · intro l hl v hv
    rcases List.mem_append.1 hl with h1 | h1
    · exact h l h1 v hv
    · simp at h1; subst h1; exact List.eq_of_mem_replicate hv
  · exact h
theorem mk_room {L : List (List Int)} {n : Int} (h0 : 0 ≤ n) (h1 : n ≤ 16) (h2 : (cellsN L : Int) + n + 1 ≤ 40) : mkA L n = L.length + 1 ∧ mkT L n = 0 ∧ (mkL L n).length = L.length + 1 ∧ (cellsN (mkL L n) : Int) = cellsN L + n + 1 := by
  have e : 0 ≤ n ∧ n ≤ 16 ∧ (cellsN L : Int) + n + 1 ≤ 40 := ⟨h0, h1, h2⟩
  have e0 : ¬ (n < 0 ∨ 16 < n) := by omega
  simp only [mkA, mkT, mkL, if_pos e, if_neg e0, if_pos h2]
  refine ⟨trivial, trivial, by simp, ?_⟩
  unfold cellsN
  rw [List.flatten_append, List.length_append, List.length_append]
  simp; omega
theorem mk_none {L : List (List Int)} {n : Int} (h0 : 0 ≤ n) (h : ¬ (n ≤ 16 ∧ (cellsN L : Int) + n + 1 ≤ 40)) : mkA L n = 0 ∧ (mkT L n == 0) = false ∧ (mkT L n != 0) = true ∧ mkL L n = L := by
  have e : ¬ (0 ≤ n ∧ n ≤ 16 ∧ (cellsN L : Int) + n + 1 ≤ 40) := by omega
  simp only [mkA, mkT, mkL, if_neg e]
  have key : mkT L n = 7 ∨ mkT L n = 4 := by
    unfold mkT
    by_cases h7 : n < 0 ∨ 16 < n
    · rw [if_pos h7]; exact .inl rfl
    · rw [if_neg h7, if_neg (by omega)]; exact .inr rfl
  unfold mkT at key
  rcases key with k | k <;> rw [k] <;> exact ⟨trivial, by decide, by decide, trivial⟩


/-- What a Put leaves, of lists that were all 0. -/
theorem put_facts {L : List (List Int)} {a i n : Int} (hz : Zs L) :
    (putL L a i n).length = L.length ∧ (∀ x, lenN (putL L a i n) x = lenN L x) ∧
    (∀ (x : Nat) (l : List Int), (putL L a i n)[x]? = some l → ∃ l0, L[x]? = some l0 ∧ l.length = l0.length ∧ ∀ (k : Nat) (v : Int), l[k]? = some v → (thereB L a i = true ∧ (x : Int) = a - 1 ∧ (k : Int) = i) ∨ v = 0) := by
  unfold putL
  by_cases ht : thereB L a i = true
  · rw [if_pos ht]
    have ht' := ht
    unfold thereB at ht'
    simp only [decide_eq_true_eq] at ht'
    obtain ⟨h1, h2, h3, h4⟩ := ht'
    have hk : a.toNat - 1 < L.length := by omega
    have e : L.getD (a.toNat - 1) [] = L[a.toNat - 1] := by simp [List.getD, hk]
    rw [e] at h4 ⊢
    refine ⟨by simp, fun x => ?_, fun x l hl => ?_⟩
    · unfold lenN
      rw [List.length_set]
      split
      · simp only [List.getD, List.getElem?_set]
        split
        · rename_i hx
          rw [← hx]; simp [hk]
        · rfl
      · rfl
    · rw [List.getElem?_set] at hl
      split at hl
      · rename_i hx
        subst hx
        try rw [if_pos hk] at hl
        injection hl with hl
        subst hl
        refine ⟨L[a.toNat - 1], List.getElem?_eq_getElem hk, by simp, fun k v hv => ?_⟩
        rw [List.getElem?_set] at hv
        split at hv
        · rename_i hi
          exact .inl ⟨ht, by omega, by omega⟩
        · exact .inr (hz _ (List.getElem_mem hk) v (List.mem_of_getElem? hv))
      · exact ⟨l, hl, rfl, fun k v hv => .inr (hz l (List.mem_of_getElem? hl) v (List.mem_of_getElem? hv))⟩
  · rw [if_neg ht]
    exact ⟨rfl, fun _ => rfl, fun x l hl => ⟨l, hl, rfl, fun k v hv => .inr (hz l (List.mem_of_getElem? hl) v (List.mem_of_getElem? hv))⟩⟩
theorem thereB_put {L : List (List Int)} {a i n : Int} (hz : Zs L) (x y : Int) : thereB (putL L a i n) x y = thereB L x y := by
  rw [Bool.eq_iff_iff, thereB_iff, thereB_iff, (put_facts hz).2.1]
theorem getN_put {L : List (List Int)} {a i n : Int} (hz : Zs L) (ht : thereB L a i = true) : getN (putL L a i n) a i = n := by
  have h2 := thereB_put (n := n) (a := a) (i := i) hz a i
  unfold getN
  rw [h2, if_pos ht]
  unfold putL
  rw [if_pos ht]
  unfold thereB at ht
  simp only [decide_eq_true_eq] at ht
  obtain ⟨h1, h2, h3, h4⟩ := ht
  have hk : a.toNat - 1 < L.length := by omega
  have e : L.getD (a.toNat - 1) [] = L[a.toNat - 1] := by simp [List.getD, hk]
  rw [e] at h4 ⊢
  simp only [List.getD, List.getElem?_set, if_true, if_pos hk, Option.getD_some]
  rw [if_pos (by omega)]; rfl


theorem NewRows.at_ {base : Nat} {w : World} {A : Option Addr} {n c x : Nat} {us : List Value} {L : List (List Int)} {l : List Int} (h : NewRows base w (.slice A n c) us L) (hl : L[x]? = some l) :
    ∃ g Ax cx, A = some ⟨g, 0, none⟩ ∧ w.cell? ⟨g, x, none⟩ = some (.slice Ax l.length cx) ∧ l.length ≤ cx ∧ cx ≤ maxLen ∧ ∀ (k : Nat) (v : Int), l[k]? = some v → ∃ gx, Ax = some ⟨gx, 0, none⟩ ∧ w.cell? ⟨gx, k, none⟩ = some (.int .i64 v) := by
  have hx := (List.getElem?_eq_some_iff.1 hl).1
  have hlen := h.len
  obtain ⟨g, c', hv, _, _, _, _, hc, _⟩ := h.own.one (by omega)
  injection hv with hA _ _
  subst hA
  have hu : us[x]? = some (us[x]'(by omega)) := List.getElem?_eq_getElem (by omega)
  obtain ⟨ho, _⟩ := h.row x l _ hl hu
  obtain ⟨Ax, cx, hux, h1, h2⟩ := ho.cap
  refine ⟨g, Ax, cx, rfl, ?_, h1, h2, fun k v hk => ?_⟩
  · rw [hc x hx, ← hux]; simp [List.getD, hu]
  · have hkl := (List.getElem?_eq_some_iff.1 hk).1
    rw [hux] at ho
    obtain ⟨gx, c2, hv2, _, _, _, _, hc2, _⟩ := ho.one (by omega)
    injection hv2 with hA2 _ _
    refine ⟨gx, hA2, ?_⟩
    rw [hc2 k hkl]; simp [List.getD, ivs_get, hk]

set_option maxHeartbeats 16000000 in
set_option maxRecDepth 100000 in
theorem keeps_walk (A : Option Addr) (m c : Nat) (zs : List Int) (p q n : Int) (w : World) (hz : Rd w 1 (.slice A m c) m (zs.map (Value.int .u8))) (hb : ∀ z ∈ zs, 0 ≤ z ∧ z ≤ 255)
    (hp : 0 ≤ p ∧ p ≤ 255) (hq : 0 ≤ q ∧ q ≤ 255) :
    Calls Try.prog 4 #[.slice A m c, .agg #[.int .u8 p, .int .u8 q], .int .i64 n] w fun e w' => e = .returned (.bool true) ∧ Fr nob w w' := by
  obtain ⟨hp0, hp1⟩ := hp
  obtain ⟨hq0, hq1⟩ := hq
  have hmx : m ≤ 9223372036854775807 := by
    obtain ⟨_, _, _, hv, h1, h2, _⟩ := hz
    injection hv with _ _ hv; subst hv; unfold maxLen at h2; omega
  have HZ := hid hz
  have HB := hid hb
  clear hz hb
  go_enter Try.func4, Try.ntmps4
  go_wp2_with (first | (go_at_call 8; refine (shown_any _).mono ?_; rintro e w1 ⟨rfl, hf⟩; have F1 := hid hf; clear hf) | (go_at_call 9; refine (new_any _).mono ?_; rintro e w2 ⟨rfl, hw⟩; have H2 := hid (HeapP.new w1); rw [← hw] at H2; have W2 := hid hw; clear hw))
  go_loopw [9, 10, 11] (fun many cells i w' => ∃ (k : Nat) (L : List (List Int)), k ≤ m ∧ k ≤ 20 ∧ i = .int .i64 k ∧ many = .int .i64 L.length ∧ cells = .int .i64 (cellsN L) ∧ Zs L ∧ ∃ cv ev, HeapP w' w1.heap.size cv ev L ∧ Fr nob w1 w' ∧ (∀ b, footP w1.heap.size cv ev b → w1.heap.size ≤ b)) (fun _ _ i _ => 20 - (intOf i).toNat)
  case atStart =>
    refine ⟨0, [], by omega, by omega, rfl, rfl, rfl, fun l h => by simp at h, .slice none 0 0, .slice none 0 0, ?_, ?_, ?_⟩
    · exact H2.out
    · rw [W2.out]; exact (Fr.refl _ _).alloc _
    · intro b hb
      rcases hb with h | h | h
      · omega
      · simp [blk] at h
      · simp [blk] at h
  case round =>
    obtain ⟨k, L, hkm, hk20, rfl, rfl, rfl, hzs, cv, ev, hh, hf, hv⟩ := hrel
    have H := hid hh
    have F := hid hf
    have V := hid hv
    have Z := hid hzs
    have hsz := hf.size
    have hcl : (L.length : Int) ≤ (cellsN L : Int) := by unfold cellsN; omega
    have hcm : (cellsN L : Int) ≤ 40 := by have := hh.most; omega
    clear hh hf hv hzs
    by_cases hk : k < m ∧ k < 20
    · obtain ⟨hk1, hk2⟩ := hk
      obtain ⟨hzl, A0, c0, hv0, hc0, hc1, hcell⟩ := HZ.out
      injection hv0 with e1 e2 e3
      subst e1; subst e3
      obtain ⟨ad, rfl, hsp, hcell2⟩ := hcell (by omega)
      obtain ⟨gb, go, gs⟩ := ad
      simp only at hsp hcell2
      subst hsp
      obtain ⟨z, hzk⟩ : ∃ z, zs[k]? = some z := ⟨zs[k]'(by simp at hzl; omega), List.getElem?_eq_getElem (by simp at hzl; omega)⟩
      have hzb := HB.out z (List.mem_of_getElem? hzk)
      have hcw : wr.cell? ⟨gb, go + k, none⟩ = some (.int .u8 z) := by
        have h0 := hcell2 k (.int .u8 z) (by simp [hzk])
        have l1 := World.block_lt_of_cell? _ _ h0
        have l2 : gb < w.heap.size := l1
        have s0 := F1.out.size
        rw [World.size_alloc] at s0
        rw [F.out.cell (by simp; omega) (fun x => x), F1.out.cell (by simp; omega) (fun x => x), World.cell?_alloc_lt _ _ _ l2]
        exact h0
      obtain ⟨hz0, hz1⟩ := hzb
      clear hcell hcell2 hzl hzk
      obtain ⟨x, hx⟩ : ∃ x : Int, x = z % 32 := ⟨_, rfl⟩
      have hx0 : 0 ≤ x ∧ x ≤ 31 := by omega
      obtain ⟨hx0, hx1⟩ := hx0
      by_cases hfit : x ≤ 16 ∧ (cellsN L : Int) + x + 1 ≤ 40
      · as_aux_lemma =>
        have hm := mk_room hx0 hfit.1 hfit.2
        obtain ⟨hf1, hf2⟩ := hfit
        have M := hid hm
        clear hm
        have HX := hid hx
        clear hx
        go_wp2_with (go_at_call 10; rw [← HX.out]; go_must (refine (make_any _ _ _ _ x _ H.out).mono ?_; rintro e w3 ⟨he, hn3⟩; rw [M.out.1, M.out.2.1] at he; subst he; have N3 := hid hn3; clear hn3))
        go_roundw
        case rel =>
          obtain ⟨cv3, ev3, h3, hv3, hf3⟩ := N3.out
          refine ⟨k + 1, mkL L x, by omega, by omega, by go_num, by rw [M.out.2.2.1]; go_num, by rw [M.out.2.2.2], Z.out.mk x, cv3, ev3, h3, ?_, ?_⟩
          · exact F.out.trans hf3 (fun _ _ x => x) (fun b hb h => by have := V.out b h; omega)
          · intro b hb
            rcases hv3 b hb with h | h
            · exact V.out b h
            · omega
        case measure => simp [intOf]; omega
      · have hm := mk_none hx0 hfit
        have M := hid hm
        have M1 := hm.2.1
        have M2 := hm.2.2.1
        clear hm
        have HX := hid hx
        clear hx
        rcases (by omega : 16 < x ∨ x ≤ 16 ∧ 40 < (cellsN L : Int) + x + 1) with h16 | ⟨h16, h40⟩
        all_goals
          as_aux_lemma =>
            clear hfit
            go_wp2_with (go_at_call 10; rw [← HX.out]; go_must (refine (make_any _ _ _ _ x _ H.out).mono ?_; rintro e w3 ⟨he, hn3⟩; rw [M.out.1] at he; subst he; rw [M.out.2.2.2] at hn3; have N3 := hid hn3; clear hn3; generalize mkT L x = t at *))
            go_roundw
            case rel =>
              obtain ⟨cv3, ev3, h3, hv3, hf3⟩ := N3.out
              refine ⟨k + 1, L, by omega, by omega, by go_num, rfl, rfl, Z.out, cv3, ev3, h3, ?_, ?_⟩
              · exact F.out.trans hf3 (fun _ _ x => x) (fun b hb h => by have := V.out b h; omega)
              · intro b hb
                rcases hv3 b hb with h | h
                · exact V.out b h
                · omega
            case measure => simp [intOf]; omega
    · obtain ⟨a, ha⟩ : ∃ a : Int, p % 16 = a := ⟨_, rfl⟩
      obtain ⟨i, hi⟩ : ∃ i : Int, q % 32 = i := ⟨_, rfl⟩
      obtain ⟨ha0, ha1⟩ : 0 ≤ a ∧ a ≤ 15 := by omega
      obtain ⟨hi0, hi1⟩ : 0 ≤ i ∧ i ≤ 31 := by omega
      have pf := put_facts (a := a) (i := i) (n := n) Z.out
      have PF := hid pf
      clear pf
      by_cases ht : thereB L a i = true
      · have ht2 := (thereB_iff L a i).1 ht
        have hta : 1 ≤ a ∧ a ≤ L.length := by
          unfold thereB at ht; simp only [decide_eq_true_eq] at ht; exact ⟨ht.1, ht.2.1⟩
        obtain ⟨hta1, hta2⟩ := hta
        have htl : i < (lenN L a : Int) := ht2.2
        have e1 : trapN L a i = 0 := by unfold trapN; rw [if_pos ht]
        have e2 : trapN (putL L a i n) a i = 0 := by unfold trapN; rw [thereB_put Z.out, if_pos ht]
        have e3 := getN_put (n := n) Z.out ht
        have e4 := PF.out.2.1 a
        have E := hid (⟨e1, e2, e3, e4⟩ : _ ∧ _ ∧ _ ∧ _)
        have HT := hid ht
        clear e1 e2 e3 e4 ht ht2
        rcases (by omega : m ≤ k ∨ k < m ∧ 20 ≤ k) with hk1 | ⟨hk1, hk2⟩
        all_goals
          as_aux_lemma =>
            clear hk
            go_wp2_with (first | (go_at_call 11; have tok := H; go_must (refine (lists_any _ _ _ _ _ H.out).mono ?_; rintro e w4 ⟨v, us, rfl, hr, hfr⟩; obtain ⟨A4, c4, rfl, _, _⟩ := hr.own.cap; have R4 := hid hr; have F4 := hid hfr; have H4 := hid (H.out.fr hfr (fun _ _ x => x)); have L4 := hid H.out.foot_lt; have G4 := hid ((Blk.new w 31 #[.int .u8 p, .int .u8 q]).fr ((F1.out.tr F.out).tr hfr) (fun x => x)); have c0 := G4.out.cell 0; have c1 := G4.out.cell 1; clear hr hfr tok H)) | (go_at_call 12; go_must (refine (put_any _ _ _ _ a i n _ H4.out).mono ?_; rintro e w5 ⟨he, cv5, ev5, h5, hv5, hf5⟩; rw [E.out.1] at he; subst he; have H5 := hid h5; have V5 := hid hv5; have F5 := hid hf5; clear h5 hv5 hf5)) | (go_at_call 13; go_must (refine (get_any _ _ _ _ a i _ H5.out).mono ?_; rintro e w' ⟨he, rfl⟩; rw [E.out.2.1, E.out.2.2.1] at he; subst he)) | (go_at_call 14; go_must (refine (len_any _ _ _ _ a _ H5.out).mono ?_; rintro e w' ⟨he, rfl⟩; rw [E.out.2.2.2] at he; subst he)) | (go_at_call 11; have tok := H5; go_must (refine (lists_any _ _ _ _ _ H5.out).mono ?_; rintro e w6 ⟨v6, us6, rfl, hr, hfr⟩; have ho := hr.own; rw [PF.out.1] at ho; obtain ⟨A6, c6, rfl, _, _⟩ := ho.cap; have R6 := hid hr; have F6 := hid hfr; clear hr hfr tok ho)))
            have r4 : NewRows wr.heap.size w6 (.slice A4 L.length c4) us L := (R4.out.fr F5.out (fun b hb => L4.out b hb)).fr F6.out (fun _ x => x.elim)
            have K4 := hid r4
            have B4 := hid ((G4.out.fr F5.out (fun hb => by have := V.out _ hb; have := F1.out.size; rw [World.size_alloc] at this; omega)).fr F6.out (fun x => x))
            have FW : Hid (Fr nob w w6) := hid (by
              have f0 : Fr nob w wr := (((Fr.refl nob w).alloc _).tr F1.out).tr F.out
              have s0 := ((Fr.refl nob w).alloc (.cells #[.int .u8 p, .int .u8 q] 31)).size
              have s1 := F1.out.size
              exact ((f0.tr F4.out).trans F5.out (fun _ _ x => x) (fun b hb h => by have := V.out b h; omega)).tr F6.out)
            clear r4 c0 c1
            go_loopw [23] (fun x w' => ∃ xn : Nat, xn ≤ L.length ∧ x = .int .i64 xn ∧ Fr nob w6 w') (fun x _ => L.length - (intOf x).toNat)
            case atStart => exact ⟨0, by omega, rfl, Fr.refl _ _⟩
            case round =>
              obtain ⟨xn, hxn, rfl, hfx⟩ := hrel
              have FX := hid hfx
              clear hfx
              by_cases hx : xn < L.length
              · have hx' : xn < (putL L a i n).length := by rw [PF.out.1]; exact hx
                obtain ⟨l, hl⟩ : ∃ l, (putL L a i n)[xn]? = some l := ⟨_, List.getElem?_eq_getElem hx'⟩
                obtain ⟨l0, hl0, hll, hent⟩ := PF.out.2.2 xn l hl
                obtain ⟨g4, B4x, d4, hA4, k4, hd4, hd4', e4⟩ := (K4.out.fr FX.out (fun _ x => x.elim)).at_ hl0
                obtain ⟨g6, B6x, d6, hA6, k6, hd6, hd6', e6⟩ := (R6.out.fr FX.out (fun _ x => x.elim)).at_ hl
                subst hA4; subst hA6
                have hlen1 : lenN (putL L a i n) ((xn : Int) + 1) = l.length := by
                  unfold lenN
                  rw [PF.out.1, if_pos (by omega)]
                  have : ((xn : Int) + 1).toNat - 1 = xn := by omega
                  rw [this]; simp [List.getD, hl]
                rw [← hll] at k4
                have HL1 := hid hlen1
                have HE := hid hent
                have E4 := hid e4
                have E6 := hid e6
                have HL := hid hll
                have hlz : ∀ v ∈ l0, v = 0 := Z.out l0 (List.mem_of_getElem? hl0)
                have HLZ := hid hlz
                have hl40 : l.length ≤ 40 := by
                  have h1 := at0_le L (xn + 1)
                  have h2 := at0_succ L xn hx
                  have h3 : L[xn] = l0 := by rw [List.getElem?_eq_getElem hx] at hl0; injection hl0
                  have h4 := H4.out.most
                  unfold cellsN at h4
                  rw [h3] at h2; omega
                have H5x := hid ((H5.out.fr F6.out (fun _ _ x => x)).fr FX.out (fun _ _ x => x))
                have hxi : (xn : Int) < (L.length : Int) := by omega
                clear hlen1 hent e4 e6 hll hlz hl hl0 hx'
                generalize hN : l.length = N at *
                have HN := hid hN
                clear hN
                have hlq : ∀ k, Calls Try.prog 14 #[.pointer (some ⟨w1.heap.size, 0, none⟩), .int .i64 ((xn : Int) + 1)] (wr.drewN k) fun e w' => e = .returned (.int .i64 N) ∧ w' = wr.drewN k := by
                  intro k
                  refine (len_any _ _ _ _ ((xn : Int) + 1) _ (H5x.out.fr ((Fr.refl nob wr).drewN k) (fun _ _ x => x))).mono ?_
                  rintro e w' ⟨he, hw⟩
                  rw [HL1.out] at he
                  exact ⟨he, hw.symm⟩
                have HLQ := hid hlq
                clear hlq
                go_wp2
                have hw1 : IntKind.i64.wrap ((xn : Int) + 1) = (xn : Int) + 1 := IntWalk.i64_in _ (by omega)
                go_quiet ((go_at_call 14; exact Calls.quiet_of_same (HLQ.out _)))
                clear hw1
                go_wp2
                go_loop [24] (fun y => ∃ yn : Nat, yn ≤ N ∧ y = .int .i64 yn) (fun y => N - (intOf y).toNat)
                case atStart => exact ⟨0, by omega, rfl⟩
                case round =>
                  obtain ⟨yn, hyn, rfl⟩ := hrel
                  by_cases hy : yn < N
                  · obtain ⟨v, hv⟩ : ∃ v, l[yn]? = some v := ⟨_, List.getElem?_eq_getElem (by have := HN.out; omega)⟩
                    obtain ⟨v0, hv0⟩ : ∃ v0, l0[yn]? = some v0 := ⟨_, List.getElem?_eq_getElem (by have := HL.out; omega)⟩
                    obtain rfl := HLZ.out v0 (List.mem_of_getElem? hv0)
                    obtain ⟨y6, hB6, c6y⟩ := E6.out yn v hv
                    obtain ⟨y4, hB4, c4y⟩ := E4.out yn 0 hv0
                    subst hB6; subst hB4
                    have hor := HE.out yn v hv
                    have hyi : (yn : Int) < (N : Int) := by omega
                    clear hv hv0
                    by_cases hth : (xn : Int) = a - 1
                    · by_cases hki : (yn : Int) = i
                      · have t1 : ((xn : Int) == a - 1) = true := by simpa using hth
                        have t2 : ((yn : Int) == i) = true := by simpa using hki
                        clear hth hki hor
                        go_wp2
                        go_round
                        case rel => exact ⟨yn + 1, by omega, by go_num⟩
                        case measure => simp [intOf]; omega
                      · have hv9 : v = 0 := by
                          rcases hor with h | h
                          · exact absurd h.2.2 hki
                          · exact h
                        subst hv9
                        have t1 : ((xn : Int) == a - 1) = true := by simpa using hth
                        have t2 : ((yn : Int) == i) = false := by simpa using hki
                        clear hth hki hor
                        go_wp2
                        go_round
                        case rel => exact ⟨yn + 1, by omega, by go_num⟩
                        case measure => simp [intOf]; omega
                    · have hv9 : v = 0 := by
                        rcases hor with h | h
                        · exact absurd h.2.1 hth
                        · exact h
                      subst hv9
                      have t1 : ((xn : Int) == a - 1) = false := by simpa using hth
                      clear hth hor
                      go_wp2
                      go_round
                      case rel => exact ⟨yn + 1, by omega, by go_num⟩
                      case measure => simp [intOf]; omega
                  · go_wp2
                    go_roundw
                    case rel => exact ⟨xn + 1, by omega, by go_num, FX.out.drewN _⟩
                    case measure => simp [intOf]; omega
              · go_wp2
                go_ret
                exact ⟨rfl, FW.out.tr FX.out⟩
      · have ht2 : ¬ (0 ≤ i ∧ i < (lenN L a : Int)) := fun x => ht ((thereB_iff L a i).2 x)
        have htp : ¬ thereB (putL L a i n) a i = true := by rw [thereB_put Z.out]; exact ht
        have e1 : trapN L a i = 2 := by unfold trapN; rw [if_neg ht]
        have e2 : trapN (putL L a i n) a i = 2 := by unfold trapN; rw [if_neg htp]
        have e3 : getN (putL L a i n) a i = 0 := by unfold getN; rw [if_neg htp]
        have e4 := PF.out.2.1 a
        have E := hid (⟨e1, e2, e3, e4⟩ : _ ∧ _ ∧ _ ∧ _)
        have HT := hid ht
        have htl : (lenN L a : Int) ≤ i := by omega
        clear e1 e2 e3 e4 ht ht2 htp
        rcases (by omega : a < 1 ∨ 1 ≤ a ∧ (L.length : Int) < a ∨ 1 ≤ a ∧ a ≤ (L.length : Int)) with hta1 | ⟨hta1, hta2⟩ | ⟨hta1, hta2⟩
        all_goals
         rcases (by omega : m ≤ k ∨ k < m ∧ 20 ≤ k) with hk1 | ⟨hk1, hk2⟩
         all_goals
          as_aux_lemma =>
            clear hk
            go_wp2_with (first | (go_at_call 11; have tok := H; go_must (refine (lists_any _ _ _ _ _ H.out).mono ?_; rintro e w4 ⟨v, us, rfl, hr, hfr⟩; obtain ⟨A4, c4, rfl, _, _⟩ := hr.own.cap; have R4 := hid hr; have F4 := hid hfr; have H4 := hid (H.out.fr hfr (fun _ _ x => x)); have L4 := hid H.out.foot_lt; have G4 := hid ((Blk.new w 31 #[.int .u8 p, .int .u8 q]).fr ((F1.out.tr F.out).tr hfr) (fun x => x)); have c0 := G4.out.cell 0; have c1 := G4.out.cell 1; clear hr hfr tok H)) | (go_at_call 12; go_must (refine (put_any _ _ _ _ a i n _ H4.out).mono ?_; rintro e w5 ⟨he, cv5, ev5, h5, hv5, hf5⟩; rw [E.out.1] at he; subst he; have H5 := hid h5; have V5 := hid hv5; have F5 := hid hf5; clear h5 hv5 hf5)) | (go_at_call 13; go_must (refine (get_any _ _ _ _ a i _ H5.out).mono ?_; rintro e w' ⟨he, rfl⟩; rw [E.out.2.1, E.out.2.2.1] at he; subst he)) | (go_at_call 14; go_must (refine (len_any _ _ _ _ a _ H5.out).mono ?_; rintro e w' ⟨he, rfl⟩; rw [E.out.2.2.2] at he; subst he)) | (go_at_call 11; have tok := H5; go_must (refine (lists_any _ _ _ _ _ H5.out).mono ?_; rintro e w6 ⟨v6, us6, rfl, hr, hfr⟩; have ho := hr.own; rw [PF.out.1] at ho; obtain ⟨A6, c6, rfl, _, _⟩ := ho.cap; have R6 := hid hr; have F6 := hid hfr; clear hr hfr tok ho)))
            have r4 : NewRows wr.heap.size w6 (.slice A4 L.length c4) us L := (R4.out.fr F5.out (fun b hb => L4.out b hb)).fr F6.out (fun _ x => x.elim)
            have K4 := hid r4
            have B4 := hid ((G4.out.fr F5.out (fun hb => by have := V.out _ hb; have := F1.out.size; rw [World.size_alloc] at this; omega)).fr F6.out (fun x => x))
            have FW : Hid (Fr nob w w6) := hid (by
              have f0 : Fr nob w wr := (((Fr.refl nob w).alloc _).tr F1.out).tr F.out
              have s0 := ((Fr.refl nob w).alloc (.cells #[.int .u8 p, .int .u8 q] 31)).size
              have s1 := F1.out.size
              exact ((f0.tr F4.out).trans F5.out (fun _ _ x => x) (fun b hb h => by have := V.out b h; omega)).tr F6.out)
            clear r4 c0 c1
            go_loopw [23] (fun x w' => ∃ xn : Nat, xn ≤ L.length ∧ x = .int .i64 xn ∧ Fr nob w6 w') (fun x _ => L.length - (intOf x).toNat)
            case atStart => exact ⟨0, by omega, rfl, Fr.refl _ _⟩
            case round =>
              obtain ⟨xn, hxn, rfl, hfx⟩ := hrel
              have FX := hid hfx
              clear hfx
              by_cases hx : xn < L.length
              · have hx' : xn < (putL L a i n).length := by rw [PF.out.1]; exact hx
                obtain ⟨l, hl⟩ : ∃ l, (putL L a i n)[xn]? = some l := ⟨_, List.getElem?_eq_getElem hx'⟩
                obtain ⟨l0, hl0, hll, hent⟩ := PF.out.2.2 xn l hl
                obtain ⟨g4, B4x, d4, hA4, k4, hd4, hd4', e4⟩ := (K4.out.fr FX.out (fun _ x => x.elim)).at_ hl0
                obtain ⟨g6, B6x, d6, hA6, k6, hd6, hd6', e6⟩ := (R6.out.fr FX.out (fun _ x => x.elim)).at_ hl
                subst hA4; subst hA6
                have hlen1 : lenN (putL L a i n) ((xn : Int) + 1) = l.length := by
                  unfold lenN
                  rw [PF.out.1, if_pos (by omega)]
                  have : ((xn : Int) + 1).toNat - 1 = xn := by omega
                  rw [this]; simp [List.getD, hl]
                rw [← hll] at k4
                have HL1 := hid hlen1
                have HE := hid hent
                have E4 := hid e4
                have E6 := hid e6
                have HL := hid hll
                have hlz : ∀ v ∈ l0, v = 0 := Z.out l0 (List.mem_of_getElem? hl0)
                have HLZ := hid hlz
                have hl40 : l.length ≤ 40 := by
                  have h1 := at0_le L (xn + 1)
                  have h2 := at0_succ L xn hx
                  have h3 : L[xn] = l0 := by rw [List.getElem?_eq_getElem hx] at hl0; injection hl0
                  have h4 := H4.out.most
                  unfold cellsN at h4
                  rw [h3] at h2; omega
                have H5x := hid ((H5.out.fr F6.out (fun _ _ x => x)).fr FX.out (fun _ _ x => x))
                have hxi : (xn : Int) < (L.length : Int) := by omega
                clear hlen1 hent e4 e6 hll hlz hl hl0 hx'
                generalize hN : l.length = N at *
                have HN := hid hN
                clear hN
                have hlq : ∀ k, Calls Try.prog 14 #[.pointer (some ⟨w1.heap.size, 0, none⟩), .int .i64 ((xn : Int) + 1)] (wr.drewN k) fun e w' => e = .returned (.int .i64 N) ∧ w' = wr.drewN k := by
                  intro k
                  refine (len_any _ _ _ _ ((xn : Int) + 1) _ (H5x.out.fr ((Fr.refl nob wr).drewN k) (fun _ _ x => x))).mono ?_
                  rintro e w' ⟨he, hw⟩
                  rw [HL1.out] at he
                  exact ⟨he, hw.symm⟩
                have HLQ := hid hlq
                clear hlq
                go_wp2
                have hw1 : IntKind.i64.wrap ((xn : Int) + 1) = (xn : Int) + 1 := IntWalk.i64_in _ (by omega)
                go_quiet ((go_at_call 14; exact Calls.quiet_of_same (HLQ.out _)))
                clear hw1
                go_wp2
                go_loop [24] (fun y => ∃ yn : Nat, yn ≤ N ∧ y = .int .i64 yn) (fun y => N - (intOf y).toNat)
                case atStart => exact ⟨0, by omega, rfl⟩
                case round =>
                  obtain ⟨yn, hyn, rfl⟩ := hrel
                  by_cases hy : yn < N
                  · obtain ⟨v, hv⟩ : ∃ v, l[yn]? = some v := ⟨_, List.getElem?_eq_getElem (by have := HN.out; omega)⟩
                    obtain ⟨v0, hv0⟩ : ∃ v0, l0[yn]? = some v0 := ⟨_, List.getElem?_eq_getElem (by have := HL.out; omega)⟩
                    obtain rfl := HLZ.out v0 (List.mem_of_getElem? hv0)
                    obtain ⟨y6, hB6, c6y⟩ := E6.out yn v hv
                    obtain ⟨y4, hB4, c4y⟩ := E4.out yn 0 hv0
                    subst hB6; subst hB4
                    have hor := HE.out yn v hv
                    have hyi : (yn : Int) < (N : Int) := by omega
                    clear hv hv0
                    have hv9 : v = 0 := by
                      rcases hor with h | h
                      · exact absurd h.1 HT.out
                      · exact h
                    subst hv9
                    clear hor
                    go_wp2
                    go_round
                    case rel => exact ⟨yn + 1, by omega, by go_num⟩
                    case measure => simp [intOf]; omega
                  · go_wp2
                    go_roundw
                    case rel => exact ⟨xn + 1, by omega, by go_num, FX.out.drewN _⟩
                    case measure => simp [intOf]; omega
              · go_wp2
                go_ret
                exact ⟨rfl, FW.out.tr FX.out⟩
end Go.Proofs.Ytddogcpakefdpaa
