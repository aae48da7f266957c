/- The reference's skip. -/
import Derived.Test.YtcodonidmopodaaDoorLexRefC
import Derived.Test.YtcodonidmopodaaDoorLexBlanksW
namespace Go.Proofs.YtcodonidmopodaaDoor
open Go.RowKit
set_option linter.unusedVariables false
set_option linter.unusedSimpArgs false

def skipN (l : List UInt8) : Nat :=
  match l with
  | [] => 0
  | c :: r =>
    if blankI (byteAt (c :: r) 0) then 1 + skipN r
    else if remarkB (c :: r) then runN lineI (c :: r) + skipN (r.drop (runN lineI (c :: r) - 1))
    else 0
termination_by l.length
decreasing_by
  all_goals simp
  all_goals omega
section
variable {l : List UInt8}
theorem skip_nil : skipN [] = 0 := by rw [skipN]
theorem skip_blank (h0 : 0 < l.length) (h : blankI (byteAt l 0) = true) : skipN l = 1 + skipN (l.drop 1) := by
  cases l with
  | nil => simp at h0
  | cons c r => rw [skipN, if_pos h]; rfl
theorem remark_pos (h2 : remarkB l = true) : 1 ≤ runN lineI l := by
  unfold remarkB Lib.hasPrefix at h2
  cases l with
  | nil => simp at h2
  | cons c r =>
    refine runN_pos lineI _ (by simp) ?_
    simp at h2
    simp [lineI, byteAt, ← h2.1]
theorem skip_remark (h0 : 0 < l.length) (h : blankI (byteAt l 0) = false) (h2 : remarkB l = true) : skipN l = runN lineI l + skipN (l.drop (runN lineI l)) := by
  have hp := remark_pos h2
  cases l with
  | nil => simp at h0
  | cons c r =>
    rw [skipN, if_neg (by rw [h]; simp), if_pos h2]
    conv => rhs; rw [show (c :: r).drop (runN lineI (c :: r)) = r.drop (runN lineI (c :: r) - 1) by conv => lhs; rw [show runN lineI (c :: r) = (runN lineI (c :: r) - 1) + 1 by omega, List.drop_succ_cons]]
theorem skip_stop (h0 : 0 < l.length) (h : blankI (byteAt l 0) = false) (h2 : remarkB l = false) : skipN l = 0 := by
  cases l with
  | nil => simp at h0
  | cons c r => rw [skipN, if_neg (by rw [h]; simp), if_neg (by rw [h2]; simp)]
end
theorem lex_skip : ∀ (n : Nat) (l : List UInt8) (p : Nat), l.length ≤ n → skipN l ≤ l.length ∧ skipN (l.drop (skipN l)) = 0 ∧ lexFrom l p = lexFrom (l.drop (skipN l)) (p + skipN l) := by
  intro n
  induction n with
  | zero =>
    intro l p h
    have : l = [] := List.eq_nil_of_length_eq_zero (by omega)
    subst this
    rw [skip_nil]; exact ⟨Nat.le_refl _, skip_nil, rfl⟩
  | succ n ih =>
    intro l p h
    refine lex_step (Mo := fun l p => l.length ≤ n + 1 → skipN l ≤ l.length ∧ skipN (l.drop (skipN l)) = 0 ∧ lexFrom l p = lexFrom (l.drop (skipN l)) (p + skipN l)) l p ?_ ?_ ?_ ?_ ?_ h
    · intro _ _; rw [skip_nil]; exact ⟨Nat.le_refl _, skip_nil, rfl⟩
    · intro h0 hb h
      obtain ⟨a1, a2, a3⟩ := ih (l.drop 1) (p + 1) (by rw [List.length_drop]; omega)
      rw [List.length_drop] at a1
      rw [List.drop_drop] at a2 a3
      rw [skip_blank h0 hb, lex_blank h0 hb]
      exact ⟨by omega, a2, by rw [a3]; congr 1; omega⟩
    · intro h0 hb hr h1 h
      have hle := runN_le lineI l
      obtain ⟨a1, a2, a3⟩ := ih (l.drop (runN lineI l)) (p + runN lineI l) (by rw [List.length_drop]; omega)
      rw [List.length_drop] at a1
      rw [List.drop_drop] at a2 a3
      rw [skip_remark h0 hb hr, lex_remark h0 hb hr]
      exact ⟨by omega, a2, by rw [a3]; congr 1; omega⟩
    · intro e h0 hb hr hf h
      rw [skip_stop h0 hb hr]
      exact ⟨Nat.zero_le _, by rw [List.drop_zero]; exact skip_stop h0 hb hr, rfl⟩
    · intro k o m n' h0 hb hr hf h
      rw [skip_stop h0 hb hr]
      exact ⟨Nat.zero_le _, by rw [List.drop_zero]; exact skip_stop h0 hb hr, rfl⟩
theorem byteAt_drop' (s : List UInt8) (p k : Nat) : byteAt (s.drop p) k = byteAt s (p + k) := by
  unfold byteAt
  rw [List.getD, List.getD, List.getElem?_drop]
theorem remark_bytes (s : ByteArray) (k : Nat) (h : k < s.size) : remarkB (s.data.toList.drop k) = (decide ((s[k]'h).toNat = 47) && if h2 : k + 1 < s.size then decide ((s[k + 1]'h2).toNat = 47) else false) := by
  have hl : s.data.toList.length = s.size := by simp
  rw [List.drop_eq_getElem_cons (by rw [hl]; exact h)]
  unfold remarkB Lib.hasPrefix
  have e1 : s.data.toList[k]'(by rw [hl]; exact h) = s[k]'h := rfl
  rw [e1]
  by_cases h2 : k + 1 < s.size
  · rw [dif_pos h2, List.drop_eq_getElem_cons (by rw [hl]; exact h2)]
    have e2 : s.data.toList[k + 1]'(by rw [hl]; exact h2) = s[k + 1]'h2 := rfl
    rw [e2]
    simp only [List.isPrefixOf, Bool.and_true]
    have e3 : ∀ c : UInt8, ((47 : UInt8) == c) = decide (c.toNat = 47) := fun c => by
      by_cases e : c = 47
      · subst e; rfl
      · have hx : ¬ c.toNat = 47 := fun x => e (UInt8.toNat_inj.1 (x.trans rfl))
        rw [decide_eq_false hx]
        exact beq_eq_false_iff_ne.2 (fun x => e x.symm)
    rw [e3, e3]
  · rw [dif_neg h2, List.drop_of_length_le (by omega)]
    simp [List.isPrefixOf]

set_option maxRecDepth 100000 in
set_option maxHeartbeats 1600000 in
theorem rskip_any (s : ByteArray) (hs : s.size ≤ 281474976710656) (i : Nat) (hi : i ≤ s.size) (w : World) :
    Calls Tryd.prog 28 #[.string s, .int .i64 i] w fun e w' => e = .returned (.int .i64 ((i + skipN (s.data.toList.drop i) : Nat))) ∧ w = w' := by
  have hl : s.data.toList.length = s.size := by simp
  have HL := hid hl
  clear hl
  obtain ⟨T, hT⟩ : ∃ T, i + skipN (s.data.toList.drop i) = T := ⟨_, rfl⟩
  rw [hT]
  have HT := hid hT.symm
  clear hT
  go_enter Tryd.func28, Tryd.ntmps28
  go_wp2
  go_loopw [1] (fun v w' => ∃ k : Nat, k ≤ s.size ∧ v = .int .i64 k ∧ Hid (T = k + skipN (s.data.toList.drop k)) ∧ w = w') (fun v _ => s.size - (intOf v).toNat)
  case atStart => exact ⟨i, hi, rfl, HT, rfl⟩
  case round =>
    obtain ⟨k, hk, rfl, HE, rfl⟩ := hrel
    by_cases hlt : k < s.size
    · have hlt2 : (k : Int) < (s.size : Int) := by omega
      have h0 : 0 < (s.data.toList.drop k).length := by rw [List.length_drop, HL.out]; omega
      have hb0 : byteAt (s.data.toList.drop k) 0 = ((s[k]'hlt).toNat : Int) := by rw [byteAt_drop', Nat.add_zero, byteAt_eq s k hlt]
      have hrb := remark_bytes s k hlt
      obtain ⟨c, hc⟩ : ∃ c, s[k]'hlt = c := ⟨_, rfl⟩
      rw [hc] at hb0 hrb
      by_cases hbl : blankI (byteAt (s.data.toList.drop k) 0) = true
      · have hsk := skip_blank h0 hbl
        rw [List.drop_drop] at hsk
        have HS := hid hsk
        rw [hb0, blank_eq] at hbl
        have hbl2 := of_decide_eq_true hbl
        clear hsk hbl hrb hb0 h0
        have hcs : (c.toNat : Int) = 32 ∨ (c.toNat : Int) = 9 ∨ (c.toNat : Int) = 13 ∨ (c.toNat : Int) = 10 := by
          simp at hbl2
          rcases hbl2 with rfl | rfl | rfl | rfl <;> simp
        clear hbl2
        rcases hcs with h | h | h | h
        all_goals
          go_wp2
          go_roundw
          case rel => exact ⟨k + 1, by omega, by go_num, hid (by rw [HE.out, HS.out]; omega), trivial⟩
          case measure => simp [intOf]; omega
      · have hbf : blankI (byteAt (s.data.toList.drop k) 0) = false := by simpa using hbl
        clear hbl
        have hnb : ((c.toNat : Int) == 32) = false ∧ ((c.toNat : Int) == 9) = false ∧ ((c.toNat : Int) == 13) = false ∧ ((c.toNat : Int) == 10) = false := by
          have h := hbf
          rw [hb0, blank_eq] at h
          have h := of_decide_eq_false h
          simp at h
          obtain ⟨a1, a2, a3, a4⟩ := h
          have k : ∀ x : UInt8, c ≠ x → ((c.toNat : Int) == (x.toNat : Int)) = false := fun x hx => beq_eq_false_iff_ne.2 (fun e => hx (UInt8.toNat_inj.1 (by omega)))
          exact ⟨k 32 a1, k 9 a2, k 13 a3, k 10 a4⟩
        obtain ⟨n1, n2, n3, n4⟩ := hnb
        by_cases h47 : c.toNat = 47
        · have hcb : ((c.toNat : Int) == 47) = true := by rw [h47]; rfl
          by_cases hk2 : k + 1 < s.size
          · have hk3 : (k : Int) + 1 < (s.size : Int) := by omega
            obtain ⟨c2, hc2⟩ : ∃ c2, s[k + 1]'hk2 = c2 := ⟨_, rfl⟩
            rw [dif_pos hk2, hc2] at hrb
            by_cases h247 : c2.toNat = 47
            · have hcb2 : ((c2.toNat : Int) == 47) = true := by rw [h247]; rfl
              rw [decide_eq_true h47, decide_eq_true h247] at hrb
              have hrm : remarkB (s.data.toList.drop k) = true := hrb
              have hsk := skip_remark h0 hbf hrm
              rw [List.drop_drop] at hsk
              have HS := hid hsk
              have hrl := runN_le lineI (s.data.toList.drop k)
              rw [List.length_drop, HL.out] at hrl
              have hr1 := remark_pos hrm
              clear hsk hrm hrb h247 h47 hbf hb0 h0
              go_wp2
              go_loopw [1] (fun v w' => ∃ m : Nat, k ≤ m ∧ m ≤ s.size ∧ v = .int .i64 m ∧ Hid (runN lineI (s.data.toList.drop k) = (m - k) + runN lineI (s.data.toList.drop m)) ∧ w = w') (fun v _ => s.size - (intOf v).toNat)
              case atStart => exact ⟨k, Nat.le_refl _, by omega, rfl, hid (by omega), rfl⟩
              case round =>
                obtain ⟨m, hkm, hm, rfl, HR, rfl⟩ := hrel
                by_cases hms : m < s.size
                · have hms2 : (m : Int) < (s.size : Int) := by omega
                  obtain ⟨d, hd⟩ : ∃ d, s[m]'hms = d := ⟨_, rfl⟩
                  have hst := runN_step lineI s.data.toList m (by rw [HL.out]; exact hms)
                  rw [byteAt_eq s m hms, hd] at hst
                  have HST := hid hst
                  clear hst
                  by_cases hd10 : (d.toNat : Int) = 10
                  · have hdb : ((d.toNat : Int) != 10) = false := by rw [hd10]; rfl
                    go_wp2
                    go_roundw
                    case rel =>
                      have h1 := HR.out
                      have h2 := HST.out
                      rw [if_neg (by simp [lineI, hd10])] at h2
                      have h3 : k + runN lineI (s.data.toList.drop k) = m := by omega
                      exact ⟨m, by omega, by go_num, hid (by rw [HE.out, HS.out, h3]; omega), trivial⟩
                    case measure =>
                      have h1 := HR.out
                      have h2 := HST.out
                      rw [if_neg (by simp [lineI, hd10])] at h2
                      simp [intOf]; omega
                  · have hdb : ((d.toNat : Int) != 10) = true := bne_iff_ne.2 hd10
                    go_wp2
                    go_roundw
                    case rel =>
                      have h1 := HR.out
                      have h2 := HST.out
                      rw [if_pos (by simp [lineI]; omega)] at h2
                      exact ⟨m + 1, by omega, by omega, by go_num, hid (by omega), trivial⟩
                    case measure => simp [intOf]; omega
                · have hms2 : (s.size : Int) ≤ (m : Int) := by omega
                  have hz : runN lineI (s.data.toList.drop m) = 0 := by rw [List.drop_of_length_le (by rw [HL.out]; omega)]; rfl
                  have HZ := hid hz
                  clear hz
                  go_wp2
                  go_roundw
                  case rel =>
                    have h1 := HR.out
                    rw [HZ.out] at h1
                    have h3 : k + runN lineI (s.data.toList.drop k) = m := by omega
                    exact ⟨m, by omega, by go_num, hid (by rw [HE.out, HS.out, h3]; omega), trivial⟩
                  case measure =>
                    have h1 := HR.out
                    rw [HZ.out] at h1
                    simp [intOf]; omega
            · have hcb2 : ((c2.toNat : Int) == 47) = false := beq_eq_false_iff_ne.2 (by omega)
              rw [decide_eq_false h247, Bool.and_false] at hrb
              have HS := hid (skip_stop h0 hbf hrb)
              clear hrb h247 h47 hbf hb0 h0
              go_wp2
              go_ret
              exact ⟨by rw [HE.out, HS.out]; first | done | rfl, rfl⟩
          · have hk3 : (s.size : Int) ≤ (k : Int) + 1 := by omega
            rw [dif_neg hk2, Bool.and_false] at hrb
            have HS := hid (skip_stop h0 hbf hrb)
            clear hrb h47 hbf hb0 h0 hk2
            go_wp2
            go_ret
            exact ⟨by rw [HE.out, HS.out]; first | done | rfl, rfl⟩
        · have hcb : ((c.toNat : Int) == 47) = false := beq_eq_false_iff_ne.2 (by omega)
          rw [decide_eq_false h47, Bool.false_and] at hrb
          have HS := hid (skip_stop h0 hbf hrb)
          clear hrb h47 hbf hb0 h0
          go_wp2
          go_ret
          exact ⟨by rw [HE.out, HS.out]; first | done | rfl, rfl⟩
    · have hlt2 : (s.size : Int) ≤ (k : Int) := by omega
      have HS := hid (show skipN (s.data.toList.drop k) = 0 by rw [List.drop_of_length_le (by rw [HL.out]; omega), skip_nil])
      clear hlt
      go_wp2
      go_ret
      exact ⟨by rw [HE.out, HS.out]; first | done | rfl, rfl⟩
end Go.Proofs.YtcodonidmopodaaDoor
