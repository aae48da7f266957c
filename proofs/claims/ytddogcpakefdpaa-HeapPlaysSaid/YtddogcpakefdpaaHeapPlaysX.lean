/- HeapPlays: the walk. -/
import Derived.Test.YtddogcpakefdpaaHeapPlaysW
namespace Go.Proofs.Ytddogcpakefdpaa
open Go.RowKit
set_option linter.unusedVariables false
set_option linter.unusedSimpArgs false

/-- What the switch leaves. -/
def Did (w0 : World) (B yb : Nat) (h a b c d : Value) (w' : World) : Prop :=
  ∃ (hb : Nat) (x y : Int) (L : List (List Int)) (cv ev lv : Value) (us : List Value), h = .pointer (some ⟨hb, 0, none⟩) ∧ a = .int .i64 x ∧ c = .int .i64 x ∧ b = .int .i64 y ∧ d = .int .i64 y ∧ Two B w' hb cv ev L yb lv us L ∧ Fr nob w0 w'

set_option maxHeartbeats 2000000 in
set_option maxRecDepth 100000 in
theorem plays_walk (A : Option Addr) (m c : Nat) (ops : List OpM) (w : World) (hz : Rd w 4 (.slice A m c) m (ops.flatMap OpM.cells)) (hb : ∀ o ∈ ops, 0 ≤ o.kind ∧ o.kind ≤ 255) (hml : ops.length = m) :
    Calls Try.prog 5 #[.slice A m c] w fun e w' => e = .returned (.bool true) ∧ Fr nob w w' := by
  have hmx : m ≤ 9223372036854775807 := by
    obtain ⟨_, _, hv, h1, h2⟩ := hz.slice
    injection hv with _ _ hv; subst hv; unfold maxLen at h2; omega
  have HZ := hid hz
  have HB := hid hb
  have HML := hid hml
  clear hz hb hml
  go_enter Try.func5, Try.ntmps5
  go_wp2_with (first | (go_at_call 8; refine (shown_any _).mono ?_; rintro e w1 ⟨rfl, hf⟩; have F1 := hid hf; clear hf) | (go_at_call 9; refine (new_any _).mono ?_; rintro e w2 ⟨rfl, hw⟩; have H2 := hid (HeapP.new w1); rw [← hw] at H2; have W2 := hid hw; (have hs2 : w2.heap.size = w1.heap.size + 1 := by (rw [hw]; simp)); clear hw))
  go_loopw [4, 6] (fun h i w' => ∃ (k : Nat) (hb : Nat) (L : List (List Int)) (cv ev lv : Value) (us : List Value), k ≤ m ∧ k ≤ 60 ∧ i = .int .i64 k ∧ h = .pointer (some ⟨hb, 0, none⟩) ∧ Two w1.heap.size w' hb cv ev L (w1.heap.size + 1) lv us L ∧ Fr nob w1 w') (fun _ i _ => 60 - (intOf i).toNat)
  case atStart =>
    refine ⟨0, w1.heap.size, [], .slice none 0 0, .slice none 0 0, .slice none 0 0, [], by omega, by omega, rfl, rfl, ⟨?_, ?_, ?_, ?_, ?_⟩, ?_⟩
    · exact H2.out.fr ((Fr.refl nob _).alloc _) (fun _ _ x => x)
    · refine ⟨?_, NewRows.nil _ _, fun i j u v _ hu => by simp at hu, by decide⟩
      rw [← hs2]; exact Blk.new _ _ _
    · intro k h1 h2
      rcases h1 with h | h | h
      · rcases h2 with h' | h' | ⟨u, hu, _⟩
        · omega
        · simp [blk] at h'
        · simp at hu
      · simp [blk] at h
      · simp [blk] at h
    · intro k h1
      rcases h1 with h | h | h
      · omega
      · simp [blk] at h
      · simp [blk] at h
    · intro k h2
      rcases h2 with h' | h' | ⟨u, hu, _⟩
      · omega
      · simp [blk] at h'
      · simp at hu
    · rw [W2.out]; exact ((Fr.refl nob w1).alloc _).alloc _
  case round =>
    obtain ⟨k, hb, L, cv, ev, lv, us, hkm, hk60, rfl, rfl, ht, hf⟩ := hrel
    have T := hid ht
    have F := hid hf
    have hsz := hf.size
    clear ht hf
    by_cases hk : k < m ∧ k < 60
    · obtain ⟨hk1, hk2⟩ := hk
      obtain ⟨o, ho⟩ : ∃ o, ops[k]? = some o := ⟨_, List.getElem?_eq_getElem (by have := HML.out; omega)⟩
      have hob := HB.out o (List.mem_of_getElem? ho)
      obtain ⟨ho0, ho1⟩ := hob
      obtain ⟨hzl, A0, c0, hv0, hc0, hc1, hcell⟩ := HZ.out
      injection hv0 with e1 e2 e3
      subst e1; subst e3
      obtain ⟨ad, rfl, hsp, hcell2⟩ := hcell (by omega)
      obtain ⟨gb, go, gs⟩ := ad
      simp only at hsp hcell2
      subst hsp
      have hcw : ∀ j u, o.cells[j]? = some u → wr.cell? ⟨gb, go + (4 * k + j), none⟩ = some u := by
        intro j u hu
        have h0 := hcell2 (4 * k + j) u (cells_at ho j u hu)
        have l1 := World.block_lt_of_cell? _ _ h0
        have s0 := F1.out.size
        rw [F.out.cell (by simp at l1 ⊢; omega) (fun x => x), F1.out.cell l1 (fun x => x)]
        exact h0
      have q0 : wr.cell? ⟨gb, go + k * 4, none⟩ = some (.int .u8 o.kind) := by rw [show go + k * 4 = go + (4 * k + 0) by omega]; exact hcw 0 _ rfl
      have q1 : wr.cell? ⟨gb, go + k * 4 + 1, none⟩ = some (.int .i64 o.a) := by rw [show go + k * 4 + 1 = go + (4 * k + 1) by omega]; exact hcw 1 _ rfl
      have q2 : wr.cell? ⟨gb, go + k * 4 + 2, none⟩ = some (.int .i64 o.b) := by rw [show go + k * 4 + 2 = go + (4 * k + 2) by omega]; exact hcw 2 _ rfl
      have q3 : wr.cell? ⟨gb, go + k * 4 + 3, none⟩ = some (.int .i64 o.c) := by rw [show go + k * 4 + 3 = go + (4 * k + 3) by omega]; exact hcw 3 _ rfl
      obtain ⟨kd, oa, ob, oc⟩ := o
      clear hcell hcell2 hzl ho hcw
      simp only at q0 q1 q2 q3 ho0 ho1
      obtain ⟨x, hx⟩ : ∃ x : Int, kd % 8 = x := ⟨_, rfl⟩
      obtain ⟨hx0, hx1⟩ : 0 ≤ x ∧ x ≤ 7 := by omega
      have hT : Tri w1.heap.size w1 (wr.alloc (.cells #[.int .u8 kd, .int .i64 oa, .int .i64 ob, .int .i64 oc] 42)) wr.heap.size 42 #[.int .u8 kd, .int .i64 oa, .int .i64 ob, .int .i64 oc] hb cv ev L (w1.heap.size + 1) lv us L :=
        ⟨T.out.no ((Fr.refl nob wr).alloc _), Blk.new _ _ _, fun h => by have := T.out.p.foot_lt _ h; omega, fun h => by have := T.out.r.foot_lt _ h; omega, by simp; omega, Nat.le_refl _, F.out.alloc _⟩
      have T0 := hid hT
      clear hT
      go_upto_block 2 with fail
      go_cut [4, 8, 9, 10, 11, 40] (fun h a b c d _ w' => Did w1 w1.heap.size (w1.heap.size + 1) h a b c d w')
      case first =>
        clear q0 q1 q2 q3
        rcases (by omega : x = 0 ∨ x = 1 ∨ x = 2 ∨ x = 3 ∨ x = 4 ∨ 5 ≤ x) with rfl | rfl | rfl | rfl | rfl | hx5
        · go_wp2_with (first | (go_at_call 10; go_must (refine (make_any _ _ _ _ oa _ T0.out.two.p).mono ?_; rintro e w3 ⟨rfl, hn⟩; obtain ⟨cv3, ev3, ht3⟩ := T0.out.stepP hn; have T3 := hid ht3; have k1 := ht3.box.cell 1; clear ht3 hn)) | (go_at_call 15; go_must (refine (rmake_any _ _ _ _ oa _ T3.out.two.r).mono ?_; rintro e w4 ⟨rfl, hn⟩; obtain ⟨lv4, us4, ht4⟩ := T3.out.stepR hn; have T4 := hid ht4; clear ht4 hn)))
          go_meet
          exact ⟨hb, _, _, _, cv3, ev3, lv4, us4, rfl, rfl, rfl, rfl, rfl, T4.out.two, T4.out.fr⟩
        · go_wp2_with (first | (go_at_call 13; go_must (refine (get_any _ _ _ _ oa ob _ T0.out.two.p).mono ?_; rintro e w3 ⟨rfl, rfl⟩)) | (go_at_call 16; go_must (refine (rget_any _ _ _ _ oa ob _ T0.out.two.r).mono ?_; rintro e w4 ⟨rfl, rfl⟩)))
          go_meet
          exact ⟨hb, _, _, _, cv, ev, lv, us, rfl, rfl, rfl, rfl, rfl, T0.out.two, T0.out.fr⟩
        · go_wp2_with (first | (go_at_call 12; go_must (refine (put_any _ _ _ _ oa ob oc _ T0.out.two.p).mono ?_; rintro e w3 ⟨rfl, hn⟩; obtain ⟨cv3, ev3, ht3⟩ := T0.out.stepP hn; have T3 := hid ht3; have k1 := ht3.box.cell 1; have k2 := ht3.box.cell 2; have k3 := ht3.box.cell 3; clear ht3 hn)) | (go_at_call 17; go_must (refine (rput_any _ _ _ _ oa ob oc _ T3.out.two.r).mono ?_; rintro e w4 ⟨rfl, hn⟩; obtain ⟨lv4, us4, ht4⟩ := T3.out.stepR hn; have T4 := hid ht4; clear ht4 hn)))
          go_meet
          exact ⟨hb, _, _, _, cv3, ev3, lv4, us4, rfl, rfl, rfl, rfl, rfl, T4.out.two, T4.out.fr⟩
        · go_wp2_with (first | (go_at_call 14; go_must (refine (len_any _ _ _ _ oa _ T0.out.two.p).mono ?_; rintro e w3 ⟨rfl, rfl⟩)) | (go_at_call 18; go_must (refine (rlen_any _ _ _ _ oa _ T0.out.two.r).mono ?_; rintro e w4 ⟨rfl, rfl⟩)))
          go_meet
          exact ⟨hb, _, _, _, cv, ev, lv, us, rfl, rfl, rfl, rfl, rfl, T0.out.two, T0.out.fr⟩
        · go_wp2_with (first | (go_at_call 19; go_must (refine (pclone_any _ _ _ _ _ T0.out.two.p).mono ?_; rintro e w3 ⟨nb, nv, mv, rfl, hn, hf, hfr⟩; have N3 := hid hn; have P3 := hid hf; have F3 := hid hfr; clear hn hf hfr)) | (go_at_call 10; go_must (refine (make_any _ _ _ _ 1 _ (T0.out.two.p.fr F3.out (fun _ _ x => x))).mono ?_; rintro e w4 ⟨rfl, cv4, ev4, h4, hv4, hf4⟩; have H4 := hid h4; have V4 := hid hv4; have F4 := hid hf4; clear h4 hv4 hf4)) | (go_at_call 12; go_must (refine (put_any _ _ _ _ 1 0 77 _ H4.out).mono ?_; rintro e w5 ⟨rfl, hn5⟩; have N5 := hid hn5; clear hn5)))
          go_meet
          obtain ⟨h1, h2⟩ := T0.out.two.old F3.out N3.out P3.out T0.out.hB V4.out F4.out N5.out
          exact ⟨nb, 0, 0, L, nv, mv, lv, us, rfl, rfl, rfl, rfl, rfl, h1, T0.out.fr.trans h2 (fun _ _ x => x) (fun k hk hB => by omega)⟩
        · have t0 : (x == 0) = false := by simp; omega
          have t1 : (x == 1) = false := by simp; omega
          have t2 : (x == 2) = false := by simp; omega
          have t3 : (x == 3) = false := by simp; omega
          have t4 : (x == 4) = false := by simp; omega
          go_wp2
          go_meet
          exact ⟨hb, _, _, _, cv, ev, lv, us, rfl, rfl, rfl, rfl, rfl, T0.out.two, T0.out.fr⟩
      case rest =>
        obtain ⟨hb', xa, xb, L', cv', ev', lv', us', rfl, rfl, rfl, rfl, rfl, htw, hfw⟩ := hcut
        have TW := hid htw
        have FW := hid hfw
        obtain ⟨A9, c9, rfl, _, _⟩ := htw.r.rows.own.cap
        have y0 := htw.r.box.cell 0
        have hyl := htw.r.box.lt
        have hRR := hid htw.r.rows.rd
        have hsw := hfw.size
        clear htw hfw q0 q1 q2 q3
        generalize hL9 : L'.length = n9 at *
        have HL9 := hid hL9
        clear hL9
        go_wp2_with fail
        go_region_held3 (fun w' => w'.cell? ⟨w1.heap.size + 1, 0, none⟩ = some (.slice A9 n9 c9))
          (first | exact (hfr.cell (World.block_lt_of_cell? _ _ (by assumption)) (fun x => x)).trans (by assumption) | go_keep)
          (first
            | (go_at_call 11; with_reducible refine (lists_any _ _ _ L' _ (TW.out.p.fr ((Fr.refl nob _).drew) (fun _ _ x => x))).mono ?_; rintro e w6 ⟨v6, us6, rfl, hr, hfr⟩; have R6 := hid hr.rd; have F6 := hid hfr; clear hr)
            | (go_at_call 20; with_reducible refine (same_any _ _ L' L' _ R6.out (hRR.out.fr (((Fr.refl nob _).drew).tr F6.out))).mono ?_; rintro e w7 ⟨he, q, hq⟩; rw [decide_eq_true rfl] at he; subst he; have hfr : Fr nob w6 w7 := by rw [hq]; exact (Fr.refl nob w6).drewN q))
        have FA := hid (((Fr.refl nob _).drew).tr F6.out)
        clear hfr
        go_wp2
        go_roundw
        case rel => exact ⟨k + 1, hb', L', cv', ev', _, us', by omega, by omega, by go_num, rfl, TW.out.no (FA.out.drewN _), FW.out.tr (FA.out.drewN _)⟩
        case measure => simp [intOf]; omega
    · rcases (by omega : m ≤ k ∨ k < m ∧ 60 ≤ k) with hk1 | ⟨hk1, hk2⟩
      all_goals
        clear hk
        go_wp2
        go_ret
        exact ⟨rfl, F1.out.tr F.out⟩
end Go.Proofs.Ytddogcpakefdpaa
