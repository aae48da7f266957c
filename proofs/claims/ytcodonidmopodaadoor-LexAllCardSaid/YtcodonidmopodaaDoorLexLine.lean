/- The line of a place. -/
import Derived.Test.YtcodonidmopodaaDoorLexI
namespace Go.Proofs.YtcodonidmopodaaDoor
open Go.RowKit
set_option linter.unusedVariables false
set_option linter.unusedSimpArgs false

def lineN (l : List UInt8) (a : Int) : Nat := 1 + (l.take a.toNat).count 10
theorem line_low (l : List UInt8) (a : Int) (h : a ≤ 0) : lineN l a = 1 := by
  unfold lineN
  rw [Int.toNat_of_nonpos h]; rfl
theorem line_high (l : List UInt8) (a : Int) (h : (l.length : Int) ≤ a) : lineN l a = 1 + l.count 10 := by
  unfold lineN
  rw [List.take_of_length_le (by omega)]
theorem line_next (l : List UInt8) (k : Nat) (c : UInt8) (h : l[k]? = some c) : lineN l ((k : Int) + 1) = lineN l k + (if c = 10 then 1 else 0) := by
  unfold lineN
  rw [show ((k : Int) + 1).toNat = k + 1 by omega, Int.toNat_natCast, List.take_add_one, h, List.count_append]
  by_cases e : c = 10
  · subst e; rfl
  · rw [if_neg e]
    have : List.count 10 (some c).toList = 0 := by simp [List.count_cons, e]
    omega
theorem line_le (l : List UInt8) (a : Int) : 1 ≤ lineN l a ∧ lineN l a ≤ 1 + l.length := by
  unfold lineN
  have h1 := List.count_le_length (a := (10 : UInt8)) (l := l.take a.toNat)
  have h2 : (l.take a.toNat).length ≤ l.length := by rw [List.length_take]; omega
  omega

theorem take_clamp (l : List UInt8) (a : Int) : l.take (min (max a 0) (l.length : Int)).toNat = l.take a.toNat := by
  by_cases h1 : a ≤ 0
  · rw [show (min (max a 0) (l.length : Int)).toNat = 0 by omega, show a.toNat = 0 by omega]
  · by_cases h2 : a ≤ (l.length : Int)
    · rw [show (min (max a 0) (l.length : Int)).toNat = a.toNat by omega]
    · rw [show (min (max a 0) (l.length : Int)).toNat = l.length by omega, List.take_length, List.take_of_length_le (by omega)]

set_option maxHeartbeats 800000 in
set_option maxRecDepth 100000 in
theorem line_at (s : ByteArray) (hs : s.size ≤ 281474976710656) (a : Int) (w : World) :
    Calls Tryd.prog 18 #[.string s, .int .i64 a] w fun e w' => e = .returned (.int .i64 (lineN s.data.toList a)) ∧ w = w' := by
  have hl : s.data.toList.length = s.size := by simp
  have hle := (line_le s.data.toList a).2
  rw [hl] at hle
  have e : lineN s.data.toList a = 1 + Lib.countByte (s.extract 0 (min (max a 0) (s.size : Int)).toNat).data.toList 10 := by
    unfold lineN Lib.countByte
    rw [ext_take, ← hl, take_clamp]
  have hm1 : (0 : Int) ≤ min (max a 0) (s.size : Int) := by omega
  have hm2 : min (max a 0) (s.size : Int) ≤ (s.size : Int) := by omega
  rw [e] at hle ⊢
  have HC := hid (fun w' => Tryd.strings_Count_one (s.extract 0 (min (max a 0) (s.size : Int)).toNat) 10 w')
  generalize Lib.countByte (s.extract 0 (min (max a 0) (s.size : Int)).toNat).data.toList 10 = n at *
  have hn : (n : Int) ≤ 281474976710656 := by omega
  clear e hl hle
  go_enter Tryd.func18, Tryd.ntmps18
  go_wp2_with (go_at_call 30; go_must (refine (HC.out _).mono ?_; rintro e w5 ⟨rfl, rfl⟩))
  go_ret
  exact ⟨by congr 2, rfl⟩
end Go.Proofs.YtcodonidmopodaaDoor
