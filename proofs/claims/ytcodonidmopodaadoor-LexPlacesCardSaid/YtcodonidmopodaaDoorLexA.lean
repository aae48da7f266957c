/- The lexer's small functions: which byte is what, and how many bytes from the beginning on are so. -/
import Derived.Test.YtcodonidmopodaaDoorMem
import Derived.Test.YtcodonidmopodaaDoorShelf
namespace Go.Proofs.YtcodonidmopodaaDoor
open Go.RowKit
set_option linter.unusedVariables false
set_option linter.unusedSimpArgs false

def digitI (c : Int) : Bool := decide (48 ≤ c) && decide (c ≤ 57)
def letterI (c : Int) : Bool := (decide (97 ≤ c) && decide (c ≤ 122)) || (decide (65 ≤ c) && decide (c ≤ 90))
def withinI (c : Int) : Bool := letterI c || digitI c || (c == 95)
def plainI (c : Int) : Bool := decide (32 ≤ c) && decide (c ≤ 126) && (c != 34)
def lineI (c : Int) : Bool := c != 10
def runN (p : Int → Bool) (l : List UInt8) : Nat := (l.takeWhile fun b => p b.toNat).length
def byteAt (l : List UInt8) (k : Nat) : Int := ((l.getD k 0).toNat : Int)

theorem runN_le (p : Int → Bool) (l : List UInt8) : runN p l ≤ l.length := by
  unfold runN
  induction l with
  | nil => simp
  | cons a l ih => rw [List.takeWhile_cons]; split <;> simp_all
theorem runN_step (p : Int → Bool) (l : List UInt8) (k : Nat) (hk : k < l.length) :
    runN p (l.drop k) = if p (byteAt l k) then 1 + runN p (l.drop (k + 1)) else 0 := by
  rw [List.drop_eq_getElem_cons hk]
  have : byteAt l k = ((l[k]).toNat : Int) := by simp [byteAt, List.getD, hk]
  rw [this]
  unfold runN
  rw [List.takeWhile_cons]
  split <;> simp_all <;> omega

theorem byteAt_eq (s : ByteArray) (k : Nat) (h : k < s.size) : byteAt s.data.toList k = ((s[k]'h).toNat : Int) := by
  have h' : k < s.data.toList.length := by simpa using h
  unfold byteAt
  rw [List.getD, List.getElem?_eq_getElem h']
  rfl

theorem digit_any (c : Int) (w : World) : Calls Tryd.prog 33 #[.int .u8 c] w fun e w' => e = .returned (.bool (digitI c)) ∧ w = w' := by
  unfold digitI
  go_enter Tryd.func33, Tryd.ntmps33
  go_wp2
  all_goals (go_ret; simp_all; try omega)
theorem letter_any (c : Int) (w : World) : Calls Tryd.prog 35 #[.int .u8 c] w fun e w' => e = .returned (.bool (letterI c)) ∧ w = w' := by
  unfold letterI
  go_enter Tryd.func35, Tryd.ntmps35
  go_wp2
  all_goals (go_ret; simp_all; try omega)
theorem within_any (c : Int) (w : World) : Calls Tryd.prog 51 #[.int .u8 c] w fun e w' => e = .returned (.bool (withinI c)) ∧ w = w' := by
  unfold withinI
  go_enter Tryd.func51, Tryd.ntmps51
  go_wp2_with (first | (go_at_call 35; refine (letter_any _ _).mono ?_; rintro e w1 ⟨rfl, rfl⟩) | (go_at_call 33; refine (digit_any _ _).mono ?_; rintro e w1 ⟨rfl, rfl⟩))
  all_goals (go_ret; simp_all; try omega)
theorem line_any (c : Int) (w : World) : Calls Tryd.prog 24 #[.int .u8 c] w fun e w' => e = .returned (.bool (lineI c)) ∧ w = w' := by
  unfold lineI
  go_enter Tryd.func24, Tryd.ntmps24
  go_wp2
  all_goals (go_ret; simp_all; try omega)
theorem plain_any (c : Int) (w : World) : Calls Tryd.prog 52 #[.int .u8 c] w fun e w' => e = .returned (.bool (plainI c)) ∧ w = w' := by
  unfold plainI
  go_enter Tryd.func52, Tryd.ntmps52
  go_wp2
  all_goals (go_ret; simp_all; try omega)

theorem run_digit (s : ByteArray) (hs : s.size ≤ 9223372036854775807) (w : World) :
    Calls Tryd.prog 23 #[.string s, .func (.func 33) #[] #[]] w fun e w' => e = .returned (.int .i64 (runN digitI s.data.toList)) ∧ w = w' := by
  have hl : s.data.toList.length = s.size := by simp
  have HL := hid hl
  clear hl
  go_enter Tryd.func23, Tryd.ntmps23
  go_wp2
  go_loopw [5, 8] (fun _ i w' => ∃ k : Nat, k ≤ s.size ∧ i = .int .i64 k ∧ w = w' ∧ Hid (runN digitI s.data.toList = k + runN digitI (s.data.toList.drop k))) (fun _ i _ => s.size - (intOf i).toNat)
  case atStart => exact ⟨0, Nat.zero_le _, rfl, rfl, hid (by simp)⟩
  case round =>
    obtain ⟨k, hk, rfl, rfl, H⟩ := hrel
    by_cases hlt : k < s.size
    · have hst := hid (runN_step digitI s.data.toList k (by rw [HL.out]; exact hlt))
      rw [byteAt_eq s k hlt] at hst
      by_cases hb : digitI ((s[k]'hlt).toNat : Int) = true
      · have HB := hid hb
        go_wp2_with (go_at_call 33; refine (digit_any _ _).mono ?_; rintro e w1 ⟨rfl, rfl⟩)
        go_roundw
        case rel => exact ⟨k + 1, by omega, by go_num, trivial, hid (by rw [H.out, hst.out, if_pos HB.out]; omega)⟩
        case measure => simp [intOf]; omega
      · have hb' : digitI ((s[k]'hlt).toNat : Int) = false := by simpa using hb
        have HB := hid hb
        clear hb
        go_wp2_with (go_at_call 33; refine (digit_any _ _).mono ?_; rintro e w1 ⟨rfl, rfl⟩)
        go_ret
        exact ⟨by rw [H.out, hst.out, if_neg HB.out]; simp, rfl⟩
    · have h0 : runN digitI (s.data.toList.drop k) = 0 := by rw [List.drop_of_length_le (by rw [HL.out]; omega)]; rfl
      have H0 := hid h0
      clear h0
      go_wp2
      go_ret
      exact ⟨by rw [H.out, H0.out]; have : k = s.size := by omega
                subst this; rfl, rfl⟩

theorem run_within (s : ByteArray) (hs : s.size ≤ 9223372036854775807) (w : World) :
    Calls Tryd.prog 23 #[.string s, .func (.func 51) #[] #[]] w fun e w' => e = .returned (.int .i64 (runN withinI s.data.toList)) ∧ w = w' := by
  have hl : s.data.toList.length = s.size := by simp
  have HL := hid hl
  clear hl
  go_enter Tryd.func23, Tryd.ntmps23
  go_wp2
  go_loopw [5, 8] (fun _ i w' => ∃ k : Nat, k ≤ s.size ∧ i = .int .i64 k ∧ w = w' ∧ Hid (runN withinI s.data.toList = k + runN withinI (s.data.toList.drop k))) (fun _ i _ => s.size - (intOf i).toNat)
  case atStart => exact ⟨0, Nat.zero_le _, rfl, rfl, hid (by simp)⟩
  case round =>
    obtain ⟨k, hk, rfl, rfl, H⟩ := hrel
    by_cases hlt : k < s.size
    · have hst := hid (runN_step withinI s.data.toList k (by rw [HL.out]; exact hlt))
      rw [byteAt_eq s k hlt] at hst
      by_cases hb : withinI ((s[k]'hlt).toNat : Int) = true
      · have HB := hid hb
        go_wp2_with (go_at_call 51; refine (within_any _ _).mono ?_; rintro e w1 ⟨rfl, rfl⟩)
        go_roundw
        case rel => exact ⟨k + 1, by omega, by go_num, trivial, hid (by rw [H.out, hst.out, if_pos HB.out]; omega)⟩
        case measure => simp [intOf]; omega
      · have hb' : withinI ((s[k]'hlt).toNat : Int) = false := by simpa using hb
        have HB := hid hb
        clear hb
        go_wp2_with (go_at_call 51; refine (within_any _ _).mono ?_; rintro e w1 ⟨rfl, rfl⟩)
        go_ret
        exact ⟨by rw [H.out, hst.out, if_neg HB.out]; simp, rfl⟩
    · have h0 : runN withinI (s.data.toList.drop k) = 0 := by rw [List.drop_of_length_le (by rw [HL.out]; omega)]; rfl
      have H0 := hid h0
      clear h0
      go_wp2
      go_ret
      exact ⟨by rw [H.out, H0.out]; have : k = s.size := by omega
                subst this; rfl, rfl⟩

theorem run_line (s : ByteArray) (hs : s.size ≤ 9223372036854775807) (w : World) :
    Calls Tryd.prog 23 #[.string s, .func (.func 24) #[] #[]] w fun e w' => e = .returned (.int .i64 (runN lineI s.data.toList)) ∧ w = w' := by
  have hl : s.data.toList.length = s.size := by simp
  have HL := hid hl
  clear hl
  go_enter Tryd.func23, Tryd.ntmps23
  go_wp2
  go_loopw [5, 8] (fun _ i w' => ∃ k : Nat, k ≤ s.size ∧ i = .int .i64 k ∧ w = w' ∧ Hid (runN lineI s.data.toList = k + runN lineI (s.data.toList.drop k))) (fun _ i _ => s.size - (intOf i).toNat)
  case atStart => exact ⟨0, Nat.zero_le _, rfl, rfl, hid (by simp)⟩
  case round =>
    obtain ⟨k, hk, rfl, rfl, H⟩ := hrel
    by_cases hlt : k < s.size
    · have hst := hid (runN_step lineI s.data.toList k (by rw [HL.out]; exact hlt))
      rw [byteAt_eq s k hlt] at hst
      by_cases hb : lineI ((s[k]'hlt).toNat : Int) = true
      · have HB := hid hb
        go_wp2_with (go_at_call 24; refine (line_any _ _).mono ?_; rintro e w1 ⟨rfl, rfl⟩)
        go_roundw
        case rel => exact ⟨k + 1, by omega, by go_num, trivial, hid (by rw [H.out, hst.out, if_pos HB.out]; omega)⟩
        case measure => simp [intOf]; omega
      · have hb' : lineI ((s[k]'hlt).toNat : Int) = false := by simpa using hb
        have HB := hid hb
        clear hb
        go_wp2_with (go_at_call 24; refine (line_any _ _).mono ?_; rintro e w1 ⟨rfl, rfl⟩)
        go_ret
        exact ⟨by rw [H.out, hst.out, if_neg HB.out]; simp, rfl⟩
    · have h0 : runN lineI (s.data.toList.drop k) = 0 := by rw [List.drop_of_length_le (by rw [HL.out]; omega)]; rfl
      have H0 := hid h0
      clear h0
      go_wp2
      go_ret
      exact ⟨by rw [H.out, H0.out]; have : k = s.size := by omega
                subst this; rfl, rfl⟩

theorem run_plain (s : ByteArray) (hs : s.size ≤ 9223372036854775807) (w : World) :
    Calls Tryd.prog 23 #[.string s, .func (.func 52) #[] #[]] w fun e w' => e = .returned (.int .i64 (runN plainI s.data.toList)) ∧ w = w' := by
  have hl : s.data.toList.length = s.size := by simp
  have HL := hid hl
  clear hl
  go_enter Tryd.func23, Tryd.ntmps23
  go_wp2
  go_loopw [5, 8] (fun _ i w' => ∃ k : Nat, k ≤ s.size ∧ i = .int .i64 k ∧ w = w' ∧ Hid (runN plainI s.data.toList = k + runN plainI (s.data.toList.drop k))) (fun _ i _ => s.size - (intOf i).toNat)
  case atStart => exact ⟨0, Nat.zero_le _, rfl, rfl, hid (by simp)⟩
  case round =>
    obtain ⟨k, hk, rfl, rfl, H⟩ := hrel
    by_cases hlt : k < s.size
    · have hst := hid (runN_step plainI s.data.toList k (by rw [HL.out]; exact hlt))
      rw [byteAt_eq s k hlt] at hst
      by_cases hb : plainI ((s[k]'hlt).toNat : Int) = true
      · have HB := hid hb
        go_wp2_with (go_at_call 52; refine (plain_any _ _).mono ?_; rintro e w1 ⟨rfl, rfl⟩)
        go_roundw
        case rel => exact ⟨k + 1, by omega, by go_num, trivial, hid (by rw [H.out, hst.out, if_pos HB.out]; omega)⟩
        case measure => simp [intOf]; omega
      · have hb' : plainI ((s[k]'hlt).toNat : Int) = false := by simpa using hb
        have HB := hid hb
        clear hb
        go_wp2_with (go_at_call 52; refine (plain_any _ _).mono ?_; rintro e w1 ⟨rfl, rfl⟩)
        go_ret
        exact ⟨by rw [H.out, hst.out, if_neg HB.out]; simp, rfl⟩
    · have h0 : runN plainI (s.data.toList.drop k) = 0 := by rw [List.drop_of_length_le (by rw [HL.out]; omega)]; rfl
      have H0 := hid h0
      clear h0
      go_wp2
      go_ret
      exact ⟨by rw [H.out, H0.out]; have : k = s.size := by omega
                subst this; rfl, rfl⟩
end Go.Proofs.YtcodonidmopodaaDoor
