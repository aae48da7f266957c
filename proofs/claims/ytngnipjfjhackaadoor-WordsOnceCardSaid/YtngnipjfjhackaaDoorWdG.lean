/- Words: how a value is written. -/
import Derived.Test.YtngnipjfjhackaaDoorWdF
namespace Go.Proofs.YtngnipjfjhackaaDoor
open Go.RowKit
set_option linter.unusedVariables false
set_option linter.unusedSimpArgs false
/-- A value as a word. -/
def wordL (t n : Int) (s : ByteArray) : List UInt8 := if t = 1 then Lib.itoa n else if t = 2 then Lib.formatBool (decide (n = 1)) else if t = 3 then s.data.toList else if t = 4 then [108, 105, 115, 116] else []
def quotedL (t n : Int) (s : ByteArray) : List UInt8 := if t = 3 then 34 :: (s.data.toList ++ [34]) else wordL t n s
theorem str_list (s : ByteArray) : (⟨s.data.toList.toArray⟩ : ByteArray) = s := by cases s; simp
set_option maxHeartbeats 1000000 in
set_option maxRecDepth 100000 in
theorem vword_any (t n : Int) (s : ByteArray) (h0 : -9223372036854775808 ≤ n) (h1 : n ≤ 9223372036854775807) (w : World) (hv : Vars w) : Calls Tryd.prog 49 #[valV t n s] w fun e w' => e = .returned (.string ⟨(wordL t n s).toArray⟩) ∧ Fr nob w w' := by
  have HI := hid (fun (wx : World) (h : Vars wx) => by
    obtain ⟨k, hk, hlt, ht⟩ := h.tab
    exact Tryd.strconv_Itoa n h0 h1 wx ht)
  have F := hid (show Fr nob w (w.alloc (.cells #[.int .i64 t, .int .i64 n, .string s] 26)) from (Fr.refl nob w).alloc _)
  have V := hid (hv.fr F.out)
  unfold valV wordL
  clear hv
  by_cases t1 : t = 1
  · subst t1
    rw [if_pos rfl]
    go_enter Tryd.func49, Tryd.ntmps49
    go_wp2_with fail
    refine (HI.out _ V.out).mono ?_
    rintro e w2 ⟨rfl, k, os, rfl⟩
    have F2 := hid (F.out.tr (Fr.grew _ k os))
    generalize Go.Sort.grow _ _ = w2 at *
    go_wp2_with fail
    go_ret
    exact ⟨rfl, F2.out⟩
  · rw [if_neg t1]
    have b1 : (t == 1) = false := beq_eq_false_iff_ne.2 t1
    by_cases t2 : t = 2
    · subst t2
      rw [if_pos rfl]
      have HF := hid (fun wx => Tryd.strconv_FormatBool (decide (n = 1)) wx)
      have hb : (n == 1) = decide (n = 1) := rfl
      generalize decide (n = 1) = b at *
      go_enter Tryd.func49, Tryd.ntmps49
      go_wp2_with fail
      refine (HF.out _).mono ?_
      rintro e w2 ⟨rfl, rfl⟩
      go_wp2_with fail
      go_ret
      exact ⟨rfl, F.out⟩
    · rw [if_neg t2]
      have b2 : (t == 2) = false := beq_eq_false_iff_ne.2 t2
      by_cases t3 : t = 3
      · subst t3
        rw [if_pos rfl, str_list]
        go_enter Tryd.func49, Tryd.ntmps49
        go_wp2_with fail
        go_ret
        exact ⟨rfl, F.out⟩
      · rw [if_neg t3]
        have b3 : (t == 3) = false := beq_eq_false_iff_ne.2 t3
        by_cases t4 : t = 4
        · subst t4
          rw [if_pos rfl]
          go_enter Tryd.func49, Tryd.ntmps49
          go_wp2_with fail
          go_ret
          exact ⟨rfl, F.out⟩
        · rw [if_neg t4]
          have b4 : (t == 4) = false := beq_eq_false_iff_ne.2 t4
          go_enter Tryd.func49, Tryd.ntmps49
          go_wp2_with fail
          go_ret
          exact ⟨rfl, F.out⟩
set_option maxHeartbeats 1000000 in
set_option maxRecDepth 100000 in
theorem vquoted_any (t n : Int) (s : ByteArray) (hs : s.size ≤ 281474976710656) (h0 : -9223372036854775808 ≤ n) (h1 : n ≤ 9223372036854775807) (w : World) (hv : Vars w) : Calls Tryd.prog 35 #[valV t n s] w fun e w' => e = .returned (.string ⟨(quotedL t n s).toArray⟩) ∧ Fr nob w w' := by
  have F := hid (show Fr nob w (w.alloc (.cells #[.int .i64 t, .int .i64 n, .string s] 26)) from (Fr.refl nob w).alloc _)
  have HW := hid (vword_any t n s h0 h1 _ (hv.fr F.out))
  unfold quotedL
  by_cases t3 : t = 3
  · subst t3
    rw [if_pos rfl]
    unfold valV
    have c1 : ¬ 9223372036854775807 < 1 + s.size := by omega
    have c2 : ¬ 9223372036854775807 < 1 + s.size + 1 := by omega
    clear hv
    go_enter Tryd.func35, Tryd.ntmps35
    go_wp2_with fail
    go_ret
    refine ⟨?_, F.out⟩
    congr 2
  · rw [if_neg t3]
    have b3 : (t == 3) = false := beq_eq_false_iff_ne.2 t3
    unfold valV at *
    clear hv
    go_enter Tryd.func35, Tryd.ntmps35
    go_wp2_with fail
    refine HW.out.mono ?_
    rintro e w2 ⟨rfl, hf⟩
    have F2 := hid (F.out.tr hf)
    clear hf
    go_wp2_with fail
    go_ret
    exact ⟨rfl, F2.out⟩
end Go.Proofs.YtngnipjfjhackaaDoor
