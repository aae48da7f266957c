/- The reference's number and sign. -/
import Derived.Test.YtcodonidmopodaaDoorLexRefA
namespace Go.Proofs.YtcodonidmopodaaDoor
open Go.RowKit
set_option linter.unusedVariables false
set_option linter.unusedSimpArgs false

theorem digitsVal_add' (l : List UInt8) (a : Nat) : digitsVal a l = a * 10 ^ l.length + digitsVal 0 l := by
  induction l generalizing a with
  | nil => simp [digitsVal]
  | cons c l ih =>
    rw [digitsVal_cons, ih, digitsVal_cons, ih (0 * 10 + (c.toNat - 48)), List.length_cons, Nat.pow_succ]
    simp only [Nat.add_mul, Nat.zero_mul, Nat.zero_add, Nat.mul_assoc, Nat.mul_comm 10, Nat.add_assoc]
theorem digitsVal_lt (l : List UInt8) (h : allDigits l) : digitsVal 0 l < 10 ^ l.length := by
  induction l with
  | nil => simp [digitsVal]
  | cons c l ih =>
    have hc := h c (by simp)
    have := ih (fun x hx => h x (by simp [hx]))
    rw [digitsVal_cons, digitsVal_add', List.length_cons, Nat.pow_succ]
    have h2 := Nat.mul_le_mul_right (10 ^ l.length) (show 0 * 10 + (c.toNat - 48) ≤ 9 by omega)
    omega
theorem less_val : ∀ (a b : List UInt8), allDigits a → allDigits b → a.length = b.length → (Op.bytesLess a b || a == b) = decide (digitsVal 0 a ≤ digitsVal 0 b) := by
  intro a
  induction a with
  | nil =>
    intro b _ _ hl
    cases b with
    | nil => rfl
    | cons y b => simp at hl
  | cons x a ih =>
    intro b ha hb hl
    cases b with
    | nil => simp at hl
    | cons y b =>
      have hl' : a.length = b.length := by simpa using hl
      have ha' : allDigits a := fun c hc => ha c (by simp [hc])
      have hb' : allDigits b := fun c hc => hb c (by simp [hc])
      have hi := ih b ha' hb' hl'
      have hx := ha x (by simp)
      have hy := hb y (by simp)
      have va := digitsVal_lt a ha'
      have vb := digitsVal_lt b hb'
      rw [digitsVal_cons, digitsVal_cons, digitsVal_add' a, digitsVal_add' b, hl']
      rw [hl'] at va
      by_cases hlt : x < y
      · have hn : x.toNat < y.toNat := UInt8.lt_iff_toNat_lt.1 hlt
        have h2 := Nat.mul_le_mul_right (10 ^ b.length) (show 0 * 10 + (x.toNat - 48) + 1 ≤ 0 * 10 + (y.toNat - 48) by omega)
        rw [Nat.add_mul, Nat.one_mul] at h2
        rw [decide_eq_true (by omega)]
        simp [Op.bytesLess, hlt]
      · by_cases he : x = y
        · subst he
          have e1 : (Op.bytesLess (x :: a) (x :: b) || (x :: a) == (x :: b)) = (Op.bytesLess a b || a == b) := by simp [Op.bytesLess]
          rw [e1, hi]
          exact decide_eq_decide.2 (by omega)
        · have hn : y.toNat < x.toNat := by
            have h1 : ¬ x.toNat < y.toNat := fun h => hlt (UInt8.lt_iff_toNat_lt.2 h)
            have h2 : x.toNat ≠ y.toNat := fun h => he (UInt8.toNat_inj.1 h)
            omega
          have h2 := Nat.mul_le_mul_right (10 ^ b.length) (show 0 * 10 + (y.toNat - 48) + 1 ≤ 0 * 10 + (x.toNat - 48) by omega)
          rw [Nat.add_mul, Nat.one_mul] at h2
          rw [decide_eq_false (by omega)]
          have : (x :: a == y :: b) = false := beq_eq_false_iff_ne.2 (fun e => he (by injection e))
          rw [this]
          simp [Op.bytesLess, hlt, he]

set_option maxRecDepth 100000 in
theorem rnumber_any (s : ByteArray) (hd : allDigits s.data.toList) (hs : s.size ≤ 281474976710656) (w : World) :
    Calls Tryd.prog 42 #[.string s] w fun e w' => e = .returned (.bool (numOk s.data.toList)) ∧ w = w' := by
  have hl : s.data.toList.length = s.size := by simp
  have hlt := digitsVal_lt _ hd
  rcases (by omega : s.size < 19 ∨ s.size = 19 ∨ 19 < s.size) with h | h | h
  · have hn : numOk s.data.toList = true := by
      unfold numOk
      rw [hl] at hlt ⊢
      have : 10 ^ s.size ≤ 10 ^ 18 := Nat.pow_le_pow_right (by decide) (by omega)
      rw [decide_eq_true (by omega), decide_eq_true (by omega)]; rfl
    rw [hn]
    have h2 : (s.size : Int) < 19 := by omega
    clear hn hlt hl hd
    go_enter Tryd.func42, Tryd.ntmps42
    go_wp2
    go_ret
    exact ⟨rfl, rfl⟩
  · have hn : (Op.bytesLess s.toList [57, 50, 50, 51, 51, 55, 50, 48, 51, 54, 56, 53, 52, 55, 55, 53, 56, 48, 55] || s.toList == [57, 50, 50, 51, 51, 55, 50, 48, 51, 54, 56, 53, 52, 55, 55, 53, 56, 48, 55]) = numOk s.data.toList := by
      rw [ByteArray.toList_eq, less_val _ _ hd (by unfold allDigits; decide) (by rw [hl, h]; rfl)]
      unfold numOk
      rw [hl, show decide (s.size ≤ 19) = true from decide_eq_true (by omega), Bool.true_and]
      rw [show digitsVal 0 [57, 50, 50, 51, 51, 55, 50, 48, 51, 54, 56, 53, 52, 55, 55, 53, 56, 48, 55] = 9223372036854775807 by kernel_rfl]
    have h2 : (s.size : Int) = 19 := by omega
    generalize numOk s.data.toList = b at *
    have HN := hid hn
    clear hlt hl hd h hn
    go_enter Tryd.func42, Tryd.ntmps42
    go_wp2
    go_ret
    exact ⟨congrArg (fun x => Ending.returned (Value.bool x)) HN.out, rfl⟩
  · have hn : numOk s.data.toList = false := by
      unfold numOk
      rw [hl, decide_eq_false (by omega)]; rfl
    rw [hn]
    have h2 : (19 : Int) < (s.size : Int) := by omega
    have h3 : ((s.size : Int) == 19) = false := beq_eq_false_iff_ne.2 (by omega)
    have H4 := hid (show decide ((s.size : Int) < 19) = false from decide_eq_false (by omega))
    clear hn hlt hl hd
    go_enter Tryd.func42, Tryd.ntmps42
    go_wp2
    go_ret
    exact ⟨by first | rfl | exact congrArg (fun x => Ending.returned (Value.bool x)) H4.out, rfl⟩
end Go.Proofs.YtcodonidmopodaaDoor
