/- Words: what a line may have; how a value is written. -/
import Derived.Test.YtngnipjfjhackaaDoorWdC
namespace Go.Proofs.YtngnipjfjhackaaDoor
open Go.RowKit
set_option linter.unusedVariables false
set_option linter.unusedSimpArgs false
def hasQ (l : List UInt8) : Bool := decide (0 ≤ Lib.indexByte l 34)
def mayW (t n : Int) (s : ByteArray) : Bool := decide (t ≠ 4) && mayV t n s && plainB s.data.toList && !hasQ s.data.toList
set_option maxHeartbeats 1000000 in
set_option maxRecDepth 100000 in
theorem wmay_any (t n : Int) (s : ByteArray) (w : World) : Calls Tryd.prog 36 #[valV t n s] w fun e w' => e = .returned (.bool (mayW t n s)) ∧ Fr nob w w' := by
  have hB := Blk.new w 26 #[.int .i64 t, .int .i64 n, .string s]
  have F := hid (show Fr nob w (w.alloc (.cells #[.int .i64 t, .int .i64 n, .string s] 26)) from (Fr.refl nob w).alloc _)
  have HM := hid (fun wx => vmay_any t n s wx)
  have HP := hid (fun wx => plain_any s wx)
  have HQ := hid (fun wx => Tryd.strings_Contains_one s 34 wx)
  have HB := hid hB
  unfold mayW
  clear hB
  unfold valV
  by_cases h4 : t = 4
  · subst h4
    rw [show decide ((4 : Int) ≠ 4) = false from rfl, Bool.false_and, Bool.false_and, Bool.false_and]
    go_enter Tryd.func36, Tryd.ntmps36
    go_wp2_with fail
    go_ret
    exact ⟨rfl, F.out⟩
  · have b4 : (t == 4) = false := beq_eq_false_iff_ne.2 h4
    rw [decide_eq_true (show t ≠ 4 from h4), Bool.true_and]
    obtain ⟨m, hm⟩ : ∃ m, mayV t n s = m := ⟨_, rfl⟩
    rw [hm] at HM ⊢
    obtain ⟨p, hp⟩ : ∃ p, plainB s.data.toList = p := ⟨_, rfl⟩
    rw [hp] at HP ⊢
    obtain ⟨q, hq⟩ : ∃ q, hasQ s.data.toList = q := ⟨_, rfl⟩
    unfold hasQ at hq
    rw [hq] at HQ
    unfold hasQ
    rw [hq]
    clear hm hp hq
    generalize hw1 : w.alloc (.cells #[.int .i64 t, .int .i64 n, .string s] 26) = w1 at *
    generalize hBB : w.heap.size = B at *
    cases m with
    | false =>
      have x0 : w1.cell? ⟨B, 0, none⟩ = some (.int .i64 t) := by simpa using HB.out.cell 0
      have x1 : w1.cell? ⟨B, 1, none⟩ = some (.int .i64 n) := by simpa using HB.out.cell 1
      have x2 : w1.cell? ⟨B, 2, none⟩ = some (.string s) := by simpa using HB.out.cell 2
      go_enter Tryd.func36, Tryd.ntmps36
      go_wp2_with fail
      refine (HM.out _).mono ?_
      rintro e w2 ⟨rfl, hf⟩
      have F2 := hid (F.out.tr hf)
      clear hf
      go_wp2_with fail
      go_ret
      exact ⟨rfl, F2.out⟩
    | true =>
      have x0 : w1.cell? ⟨B, 0, none⟩ = some (.int .i64 t) := by simpa using HB.out.cell 0
      have x1 : w1.cell? ⟨B, 1, none⟩ = some (.int .i64 n) := by simpa using HB.out.cell 1
      have x2 : w1.cell? ⟨B, 2, none⟩ = some (.string s) := by simpa using HB.out.cell 2
      rw [Bool.true_and]
      go_enter Tryd.func36, Tryd.ntmps36
      go_wp2_with fail
      refine (HM.out _).mono ?_
      rintro e w2 ⟨rfl, hf⟩
      have F2 := hid (F.out.tr hf)
      have B2 := hid (HB.out.fr hf (fun x => x))
      clear hf x0 x1 x2
      have x0 : w2.cell? ⟨B, 0, none⟩ = some (.int .i64 t) := by simpa using B2.out.cell 0
      have x1 : w2.cell? ⟨B, 1, none⟩ = some (.int .i64 n) := by simpa using B2.out.cell 1
      have x2 : w2.cell? ⟨B, 2, none⟩ = some (.string s) := by simpa using B2.out.cell 2
      go_wp2_with fail
      refine (HP.out _).mono ?_
      rintro e w3 ⟨rfl, hf⟩
      have F3 := hid (F2.out.tr hf)
      have B3 := hid (B2.out.fr hf (fun x => x))
      clear hf x0 x1 x2
      have x0 : w3.cell? ⟨B, 0, none⟩ = some (.int .i64 t) := by simpa using B3.out.cell 0
      have x1 : w3.cell? ⟨B, 1, none⟩ = some (.int .i64 n) := by simpa using B3.out.cell 1
      have x2 : w3.cell? ⟨B, 2, none⟩ = some (.string s) := by simpa using B3.out.cell 2
      cases p with
      | false =>
        go_wp2_with fail
        go_ret
        exact ⟨rfl, F3.out⟩
      | true =>
        go_wp2_with fail
        refine (HQ.out _).mono ?_
        rintro e w4 ⟨rfl, rfl⟩
        go_wp2_with fail
        go_ret
        exact ⟨by cases q <;> simp [h4], F3.out⟩
end Go.Proofs.YtngnipjfjhackaaDoor
