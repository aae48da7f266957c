/- The reference's tokens of a source. -/
import Derived.Test.YtcodonidmopodaaDoorLexRefH
namespace Go.Proofs.YtcodonidmopodaaDoor
open Go.RowKit
set_option linter.unusedVariables false
set_option linter.unusedSimpArgs false

theorem skip_zero {l : List UInt8} (h0 : 0 < l.length) (h : skipN l = 0) : blankI (byteAt l 0) = false ∧ remarkB l = false := by
  cases hb : blankI (byteAt l 0) with
  | true => rw [skip_blank h0 hb] at h; omega
  | false =>
    cases hr : remarkB l with
    | true =>
      have := remark_pos hr
      rw [skip_remark h0 hb hr] at h; omega
    | false => exact ⟨rfl, rfl⟩

set_option maxHeartbeats 4000000 in
set_option maxRecDepth 100000 in
theorem rall_any (s : ByteArray) (w : World) (hs : s.size ≤ 281474976710656) :
    Calls Tryd.prog 16 #[.string s] w fun e w' => LexAt w.heap.size w' e (lexM s.data.toList) ∧ Fr nob w w' := by
  have hl : s.data.toList.length = s.size := by simp
  unfold lexM
  rw [hl]
  have HL := hid hl
  clear hl
  by_cases hbig : 600 < s.size
  · rw [if_pos hbig]
    have h2 : (600 : Int) < (s.size : Int) := by omega
    clear hbig
    go_enter Tryd.func16, Tryd.ntmps16
    go_wp2
    go_ret3
    exact ⟨rfl, Fr.refl _ _⟩
  · rw [if_neg hbig]
    have h2 : (s.size : Int) ≤ 600 := by omega
    have h600 : s.size ≤ 600 := by omega
    clear hbig
    obtain ⟨a1, a2, a3⟩ := lex_skip _ s.data.toList 0 (Nat.le_refl _)
    rw [Nat.zero_add] at a3
    rw [HL.out] at a1
    have hS := fun w' => rskip_any s hs 0 (Nat.zero_le _) w'
    rw [List.drop_zero, Nat.zero_add] at hS
    generalize skipN s.data.toList = k0 at *
    have HS := hid hS
    have A2 := hid a2
    have A3 := hid a3
    clear hS a2 a3
    go_enter Tryd.func16, Tryd.ntmps16
    go_wp2_with (go_at_call 28; refine (HS.out _).mono ?_; rintro e w1 ⟨rfl, rfl⟩)
    go_loopw [5, 6] (fun l i w' => ∃ (k : Nat) (K : List Tok), k ≤ s.size ∧ K.length ≤ k ∧ i = .int .i64 k ∧ Hid (Toks w.heap.size w' l K) ∧ Hid (Fr nob w w') ∧ Hid (lexFrom s.data.toList 0 = (lexFrom (s.data.toList.drop k) k).pre K) ∧ Hid (skipN (s.data.toList.drop k) = 0)) (fun _ i _ => s.size - (intOf i).toNat)
    case atStart =>
      exact ⟨k0, [], a1, Nat.zero_le _, rfl, hid ⟨Own.empty _ _ _ _, fun g hg => by simp [blk] at hg⟩, hid (by first | exact Fr.refl _ _ | exact (Fr.refl _ _).alloc _), hid (by rw [pre_nil]; exact A3.out), A2⟩
    case round =>
      obtain ⟨k, K, hks, hKk, rfl, T, F, LX, Z⟩ := hrel
      obtain ⟨A, c, rfl, hc, hcm⟩ := T.out.own.cap
      by_cases hlt : k < s.size
      · have hlt2 : (k : Int) < (s.size : Int) := by omega
        have h0 : 0 < (s.data.toList.drop k).length := by rw [List.length_drop, HL.out]; omega
        obtain ⟨hblf, hrf⟩ := skip_zero h0 Z.out
        have hO := fun w' => rone_any s hs k hlt w'
        unfold OneAt at hO
        cases hone : firstM (s.data.toList.drop k) with
        | err er =>
          have N1 := hid (lex_err (p := k) h0 hblf hrf hone)
          have her := firstM_err hone
          rw [hone] at hO
          have HO := hid hO
          have he2 : ((er : Int) != 0) = true := by simp; omega
          clear hO hone hblf hrf h0 her
          go_wp2_with (go_at_call 29; go_must (refine (HO.out _).mono ?_; rintro e w2 ⟨⟨k5, p5, q5, t5, rfl⟩, hf2⟩; have F2 := hid hf2; clear hf2))
          go_ret3
          rw [LX.out, N1.out]
          exact ⟨rfl, (F.out.tr F2.out).alloc _⟩
        | ok kd o m n =>
          have N1 := hid (lex_ok (p := k) h0 hblf hrf hone)
          obtain ⟨hn1, hn2, hom⟩ := firstM_ok h0 hone
          rw [List.length_drop, HL.out] at hn2
          rw [hone] at hO
          simp only [tokV] at hO
          generalize ((s.data.toList.drop k).drop o).take m = tx at *
          obtain ⟨q, hq⟩ : ∃ q : Nat, k + n = q := ⟨_, rfl⟩
          have hdd : (s.data.toList.drop k).drop n = s.data.toList.drop q := by rw [List.drop_drop, hq]
          rw [hdd, hq] at N1
          rw [hq] at hO
          have HO := hid hO
          have hqs : q ≤ s.size := by omega
          obtain ⟨b1, b2, b3⟩ := lex_skip _ (s.data.toList.drop q) q (Nat.le_refl _)
          rw [List.drop_drop] at b2 b3
          rw [List.length_drop, HL.out] at b1
          have hS2 := fun w' => rskip_any s hs q hqs w'
          obtain ⟨k2, hk2⟩ : ∃ k2 : Nat, q + skipN (s.data.toList.drop q) = k2 := ⟨_, rfl⟩
          rw [hk2] at b2 b3 hS2
          have HS2 := hid hS2
          have B2 := hid b2
          have B3 := hid b3
          have hk2s : k2 ≤ s.size := by omega
          have hk2k : k + 1 ≤ k2 := by omega
          clear hO hone hblf hrf h0 hS2 b2 b3 hdd hom hq hk2 b1 hn2
          go_wp2_with (first | (go_at_call 29; go_must (refine (HO.out _).mono ?_; rintro e w2 ⟨rfl, hf2⟩; have F2 := hid hf2; have S2 := hid hf2.size; clear hf2)) | (go_at_call 28; refine (HS2.out _).mono ?_; rintro e w5 ⟨rfl, rfl⟩) | (at_builtin; refine wpList_append (v := .slice A K.length c) (m := 1) (news := [.int .i64 kd, .string (bs tx), .int .i64 k]) rfl _ _ rfl TyTok rfl rfl (((T.out.no F2.out).own.alloc _).alloc _) (Rd.ofBlk (n := 1) (cs := [.int .i64 kd, .string (bs tx), .int .i64 k]) (Blk.new2 _ _ _ _) rfl (by decide)) (by simp [Value.oneCell']) (by omega) (by unfold maxLen; omega) ?_; intro A3 c3 w3 ho3 hf3 hv3; have O3 := hid ho3; have F3 := hid hf3; have V3 := hid hv3; clear ho3 hf3 hv3))
          go_roundw
          case rel =>
            refine ⟨k2, K ++ [⟨kd, tx, k⟩], hk2s, by simp; omega, rfl, hid ⟨?_, fun g hg => ?_⟩, hid ?_, hid (by rw [LX.out, N1.out, pre_pre, B3.out]), B2⟩
            · have e1 : tokCells (K ++ [⟨kd, tx, k⟩]) = tokCells K ++ [.int .i64 kd, .string (bs tx), .int .i64 k] := by simp [tokCells]
              rw [e1, List.length_append]; exact O3.out
            · have hg' : blk (.slice A3 (K.length + 1) c3) = some g := hg
              rcases V3.out with h | h
              · exact T.out.new g (h ▸ hg')
              · rw [hg'] at h; injection h with h
                simp at h
                have := F.out.size; have := S2.out; omega
            · exact (((F.out.tr F2.out).alloc _).alloc _).trans F3.out (fun _ _ x => x) (fun b hb h => by have := T.out.new b h; omega)
          case measure => simp [intOf]; omega
      · have hk : k = s.size := by omega
        have E1 := hid (show lexFrom (s.data.toList.drop k) k = .good [⟨0, [], k⟩] by rw [List.drop_of_length_le (by rw [HL.out]; omega), lex_nil])
        have hge : (s.size : Int) ≤ (k : Int) := by omega
        clear hlt
        subst hk
        go_wp2_with (at_builtin; refine wpList_append (v := .slice A K.length c) (m := 1) (news := [.int .i64 0, .string ⟨#[]⟩, .int .i64 s.size]) rfl _ _ rfl TyTok rfl rfl (T.out.own.alloc _) (Rd.ofBlk (n := 1) (cs := [.int .i64 0, .string ⟨#[]⟩, .int .i64 s.size]) (Blk.new _ _ _) rfl (by decide)) (by simp [Value.oneCell']) (by omega) (by unfold maxLen; omega) ?_; intro A3 c3 w3 ho3 hf3 hv3; have O3 := hid ho3; have F3 := hid hf3; have V3 := hid hv3; clear ho3 hf3 hv3)
        go_ret3
        rw [LX.out, E1.out]
        refine ⟨⟨_, rfl, ?_, fun g hg => ?_⟩, ?_⟩
        · have e1 : tokCells (K ++ [⟨0, [], s.size⟩]) = tokCells K ++ [.int .i64 0, .string ⟨#[]⟩, .int .i64 s.size] := by simp [tokCells, bs]
          rw [e1, List.length_append]; exact O3.out
        · have hg' : blk (.slice A3 (K.length + 1) c3) = some g := hg
          rcases V3.out with h | h
          · exact T.out.new g (h ▸ hg')
          · rw [hg'] at h; injection h with h
            simp at h
            have := F.out.size; omega
        · exact (F.out.alloc _).trans F3.out (fun _ _ x => x) (fun b hb h => by have := T.out.new b h; omega)
end Go.Proofs.YtcodonidmopodaaDoor
