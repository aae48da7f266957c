/- The tokens of a source: the walk. -/
import Derived.Test.YtcodonidmopodaaDoorLexG
import Derived.WalkMore
namespace Go.Proofs.YtcodonidmopodaaDoor
open Go.RowKit
set_option linter.unusedVariables false
set_option linter.unusedSimpArgs false

theorem TyTok : SlTy Tryd.prog 24 29 3 32 (.agg #[.int .i64 0, .string ⟨#[]⟩, .int .i64 0]) := SlTy.mk' (by kernel_rfl) (by kernel_rfl) rfl (by decide)
/-- Rows of tokens in new memory. -/
structure Toks (base : Nat) (w : World) (v : Value) (K : List Tok) : Prop where
  own : Own w 29 3 v K.length (tokCells K)
  new : ∀ g, blk v = some g → base ≤ g
theorem Toks.fr {M : Nat → Prop} {base : Nat} {w w' : World} {v : Value} {K : List Tok} (h : Toks base w v K) (f : Fr M w w') (hM : ∀ k, M k → k < base) : Toks base w' v K :=
  ⟨h.own.fr f (fun g hg hm => by have := h.new g hg; have := hM g hm; omega), h.new⟩
theorem Toks.no {base : Nat} {w w' : World} {v : Value} {K : List Tok} (h : Toks base w v K) (f : Fr nob w w') : Toks base w' v K := h.fr f (fun _ x => x.elim)
/-- How the lexer's answer lies in the world. -/
def LexAt (base : Nat) (w : World) (e : Ending) : LexR → Prop
  | .good ts => ∃ v, e = .returned (.tuple #[v, .int .i64 0, .int .i64 0]) ∧ Toks base w v ts
  | .bad p er => e = .returned (.tuple #[.slice none 0 0, .int .i64 p, .int .i64 er])

theorem Blk.new2 (w : World) (o : Obj) (t : TypeId) (cs : Array Value) : Blk ((w.alloc o).alloc (.cells cs t)) (w.heap.size + 1) t cs := by
  have := Blk.new (w.alloc o) t cs; rwa [World.size_alloc] at this
theorem firstM_err {l : List UInt8} {e : Nat} (h : firstM l = .err e) : 1 ≤ e := by
  unfold firstM numberM nameM textM signM at h
  repeat' split at h
  all_goals first | (cases h; done) | (injection h with h; omega)
theorem idx_blank (c : Int) (w : World) : Calls Tryd.prog 21 #[.string ⟨#[32, 9, 13, 10]⟩, .int .u8 c] w fun e w' =>
    ∃ i : Int, e = .returned (.int .i64 i) ∧ blankI c = decide (0 ≤ i) ∧ w' = w := by
  refine (Tryd.strings_IndexByte _ c w).mono ?_
  rintro e w' ⟨rfl, rfl⟩
  exact ⟨_, rfl, rfl, rfl⟩
theorem has_remark (s : ByteArray) (w : World) : Calls Tryd.prog 22 #[.string s, .string ⟨#[47, 47]⟩] w fun e w' =>
    e = .returned (.bool (remarkB s.data.toList)) ∧ w = w' := by
  refine (Tryd.strings_HasPrefix _ _ w).mono ?_
  rintro e w' ⟨rfl, rfl⟩
  exact ⟨rfl, rfl⟩

set_option maxHeartbeats 4000000 in
set_option maxRecDepth 100000 in
theorem all_any (s : ByteArray) (w : World) (hs : s.size ≤ 281474976710656) (hv : Vars w) :
    Calls Tryd.prog 13 #[.string s] w fun e w' => LexAt w.heap.size w' e (lexM s.data.toList) ∧ Fr nob w w' := by
  have hl : s.data.toList.length = s.size := by simp
  have V := hid hv
  clear hv
  unfold lexM
  rw [hl]
  have HL := hid hl
  clear hl
  by_cases hbig : 600 < s.size
  · rw [if_pos hbig]
    have h2 : (600 : Int) < (s.size : Int) := by omega
    clear hbig
    go_enter Tryd.func13, Tryd.ntmps13
    go_wp2
    go_step3
    go_wp2
    rw [Exit.noGoto_ret]
    go_ret3
    exact ⟨rfl, Fr.refl _ _⟩
  · rw [if_neg hbig]
    have h2 : (s.size : Int) ≤ 600 := by omega
    have h600 : s.size ≤ 600 := by omega
    clear hbig
    go_enter Tryd.func13, Tryd.ntmps13
    go_wp2
    go_step3
    go_wp2
    go_step3
    go_wp2
    go_loopw [5, 6] (fun l i w' => ∃ (k : Nat) (K : List Tok), k ≤ s.size ∧ K.length ≤ k ∧ i = .int .i64 k ∧ Toks w.heap.size w' l K ∧ Fr nob w w' ∧ lexFrom s.data.toList 0 = (lexFrom (s.data.toList.drop k) k).pre K) (fun _ i _ => s.size - (intOf i).toNat)
    case atStart =>
      exact ⟨0, [], Nat.zero_le _, Nat.le_refl _, rfl, ⟨Own.nil _ _ _, fun g hg => by simp [blk] at hg⟩, Fr.refl _ _, by rw [pre_nil]; rfl⟩
    case round =>
      obtain ⟨k, K, hks, hKk, rfl, ht, hf, hlx⟩ := hrel
      have T := hid ht
      have F := hid hf
      have LX := hid hlx
      have V2 := hid (V.out.fr hf)
      obtain ⟨A, c, rfl, hc, hcm⟩ := ht.own.cap
      clear ht hf hlx
      by_cases hlt : k < s.size
      · have hR : (s.extract k s.size).data.toList = s.data.toList.drop k := Lib.extract_to_end s k
        have hRs : (s.extract k s.size).size = s.size - k := by simp
        have h0 : 0 < (s.data.toList.drop k).length := by rw [List.length_drop, HL.out]; omega
        have hb0 := byteAt_eq (s.extract k s.size) 0 (by omega)
        rw [hR] at hb0
        have HRS := hid hRs
        by_cases hbl : blankI (byteAt (s.data.toList.drop k) 0) = true
        · have N1 := hid (lex_blank (p := k) h0 hbl)
          rw [hb0] at hbl
          have HB := hid hbl
          clear hbl hb0 hR h0
          go_wp2_with (go_at_call 21; go_must (refine (idx_blank _ _).mono ?_; rintro e w5 ⟨i, rfl, hob, rfl⟩; have hi : (0 : Int) ≤ i := of_decide_eq_true (hob.symm.trans HB.out); clear hob))
          go_roundw
          case rel => exact ⟨k + 1, K, by omega, by omega, by go_num, T.out, F.out, by rw [LX.out, N1.out, List.drop_drop]⟩
          case measure => simp [intOf]; omega
        · have hblf : blankI (byteAt (s.data.toList.drop k) 0) = false := by simpa using hbl
          clear hbl
          have hP := fun w' => has_remark (s.extract k s.size) w'
          rw [hR] at hP
          by_cases hrm : remarkB (s.data.toList.drop k) = true
          · have N1 := hid (lex_remark (p := k) h0 hblf hrm)
            rw [hrm] at hP
            have HP := hid hP
            have hr := run_line (s.extract k s.size) (by omega)
            rw [hR] at hr
            have hrl := runN_le lineI (s.data.toList.drop k)
            have hr1 : 1 ≤ runN lineI (s.data.toList.drop k) := by
              refine runN_pos lineI _ h0 ?_
              cases hd : s.data.toList.drop k with
              | nil => rw [hd] at h0; simp at h0
              | cons c r =>
                rw [hd] at hrm
                unfold remarkB Lib.hasPrefix at hrm
                simp at hrm
                simp [lineI, byteAt, ← hrm.1]
            rw [List.length_drop, HL.out] at hrl
            generalize runN lineI (s.data.toList.drop k) = n at *
            have HR := hid hr
            rw [hb0] at hblf
            have HB := hid hblf
            clear hblf hb0 hR h0 hP hr hrm
            go_wp2_with (first | (go_at_call 21; go_must (refine (idx_blank _ _).mono ?_; rintro e w5 ⟨i, rfl, hob, rfl⟩; have hi : i < (0 : Int) := Int.not_le.1 (of_decide_eq_false (hob.symm.trans HB.out)); clear hob)) | (go_at_call 22; go_must (refine (HP.out _).mono ?_; rintro e w5 ⟨rfl, rfl⟩)) | (go_at_call 23; refine (HR.out _).mono ?_; rintro e w1 ⟨rfl, rfl⟩))
            go_roundw
            case rel => exact ⟨k + n, K, by omega, by omega, by go_num, T.out, F.out, by rw [LX.out, N1.out, List.drop_drop]⟩
            case measure => simp [intOf]; omega
          · have hrf : remarkB (s.data.toList.drop k) = false := by simpa using hrm
            clear hrm
            rw [hrf] at hP
            have HP := hid hP
            have hF := fun w' hv' => first_any (s.extract k s.size) w' (by omega) (by omega) hv'
            rw [hR] at hF
            cases hone : firstM (s.data.toList.drop k) with
            | err er =>
              have N1 := hid (lex_err (p := k) h0 hblf hrf hone)
              have her := firstM_err hone
              rw [hone] at hF
              simp only [oneV, tokV] at hF
              have HF := hid hF
              rw [hb0] at hblf
              have HB := hid hblf
              have he2 : ((er : Int) != 0) = true := by simp; omega
              clear hblf hb0 hR h0 hP hF hrf hone her
              go_wp2_with (first | (go_at_call 21; go_must (refine (idx_blank _ _).mono ?_; rintro e w5 ⟨i, rfl, hob, rfl⟩; have hi : i < (0 : Int) := Int.not_le.1 (of_decide_eq_false (hob.symm.trans HB.out)); clear hob)) | (go_at_call 22; go_must (refine (HP.out _).mono ?_; rintro e w5 ⟨rfl, rfl⟩)) | (go_at_call 25; go_must (refine (HF.out _ V2.out).mono ?_; rintro e w2 ⟨rfl, hf2⟩; have F2 := hid hf2; clear hf2)))
              rw [Exit.noGoto_ret]
              go_ret3
              rw [LX.out, N1.out]
              exact ⟨rfl, (F.out.tr F2.out).alloc _⟩
            | ok kd o m n =>
              have N1 := hid (lex_ok (p := k) h0 hblf hrf hone)
              obtain ⟨hn1, hn2, hom⟩ := firstM_ok h0 hone
              rw [List.length_drop, HL.out] at hn2
              rw [hone] at hF
              have htx : (s.extract k s.size).extract o (m + o) = bs (((s.data.toList.drop k).drop o).take m) := by
                rw [← hR, ← show m + o - o = m by omega, ← Lib.extract_data, show m + o - o + o = m + o by omega, bs_data]
              simp only [oneV, tokV] at hF
              rw [htx] at hF
              generalize ((s.data.toList.drop k).drop o).take m = tx at *
              have HF := hid hF
              rw [hb0] at hblf
              have HB := hid hblf
              clear hblf hb0 hR h0 hP hF hrf hone hom htx
              go_wp2_with (first | (go_at_call 21; go_must (refine (idx_blank _ _).mono ?_; rintro e w5 ⟨i, rfl, hob, rfl⟩; have hi : i < (0 : Int) := Int.not_le.1 (of_decide_eq_false (hob.symm.trans HB.out)); clear hob)) | (go_at_call 22; go_must (refine (HP.out _).mono ?_; rintro e w5 ⟨rfl, rfl⟩)) | (go_at_call 25; go_must (refine (HF.out _ V2.out).mono ?_; rintro e w2 ⟨rfl, hf2⟩; have F2 := hid hf2; have S2 := hid hf2.size; clear hf2)) | (at_builtin; refine wpList_append (v := .slice A K.length c) (m := 1) (news := [.int .i64 kd, .string (bs tx), .int .i64 k]) rfl _ _ rfl TyTok rfl rfl (((T.out.no F2.out).own.alloc _).alloc _) (Rd.ofBlk (n := 1) (cs := [.int .i64 kd, .string (bs tx), .int .i64 k]) (Blk.new2 _ _ _ _) rfl (by decide)) (by simp [Value.oneCell']) (by omega) (by unfold maxLen; omega) ?_; intro A3 c3 w3 ho3 hf3 hv3; have O3 := hid ho3; have F3 := hid hf3; have V3 := hid hv3; clear ho3 hf3 hv3))
              go_roundw
              case rel =>
                refine ⟨k + n, K ++ [⟨kd, tx, k⟩], by omega, by simp; omega, by go_num, ⟨?_, fun g hg => ?_⟩, ?_, ?_⟩
                · have e1 : tokCells (K ++ [⟨kd, tx, k⟩]) = tokCells K ++ [.int .i64 kd, .string (bs tx), .int .i64 k] := by simp [tokCells]
                  rw [e1, List.length_append]; exact O3.out
                · rcases V3.out with h | h
                  · exact T.out.new g (h ▸ hg)
                  · rw [hg] at h; injection h with h
                    simp at h
                    have := S2.out; have := F.out.size; omega
                · exact ((((F.out.tr F2.out).alloc _).alloc _).trans F3.out (fun _ _ x => x) (fun b hb h => by have := T.out.new b h; omega))
                · rw [LX.out, N1.out, pre_pre, List.drop_drop]
              case measure => simp [intOf]; omega
      · have hk : k = s.size := by omega
        have hend : lexFrom (s.data.toList.drop k) k = .good [⟨0, [], k⟩] := by rw [List.drop_of_length_le (by rw [HL.out]; omega), lex_nil]
        have E1 := hid hend
        clear hend hlt
        have hge : (s.size : Int) ≤ (k : Int) := by omega
        clear hk
        go_wp2_with (at_builtin; refine wpList_append (v := .slice A K.length c) (m := 1) (news := [.int .i64 0, .string ⟨#[]⟩, .int .i64 k]) rfl _ _ rfl TyTok rfl rfl (T.out.own.alloc _) (Rd.ofBlk (n := 1) (cs := [.int .i64 0, .string ⟨#[]⟩, .int .i64 k]) (Blk.new _ _ _) rfl (by decide)) (by simp [Value.oneCell']) (by omega) (by unfold maxLen; omega) ?_; intro A3 c3 w3 ho3 hf3 hv3; have O3 := hid ho3; have F3 := hid hf3; have V3 := hid hv3; clear ho3 hf3 hv3)
        try rw [Exit.noGoto_ret]
        go_ret3
        rw [LX.out, E1.out]
        refine ⟨⟨_, rfl, ?_, fun g hg => ?_⟩, ?_⟩
        · have e1 : tokCells (K ++ [⟨0, [], k⟩]) = tokCells K ++ [.int .i64 0, .string ⟨#[]⟩, .int .i64 k] := by simp [tokCells, bs]
          rw [e1, List.length_append]; exact O3.out
        · have hg' : blk (.slice A3 (K.length + 1) c3) = some g := hg
          rcases V3.out with h | h
          · exact T.out.new g (h ▸ hg')
          · rw [hg'] at h; injection h with h
            simp at h
            have := F.out.size; omega
        · exact (F.out.alloc _).trans F3.out (fun _ _ x => x) (fun b hb h => by have := T.out.new b h; omega)
end Go.Proofs.YtcodonidmopodaaDoor
