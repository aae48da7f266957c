/- Words: a value that is so, or not; a value that is read. -/
import Derived.Test.YtngnipjfjhackaaDoorWdE
namespace Go.Proofs.YtngnipjfjhackaaDoor
open Go.RowKit
set_option linter.unusedVariables false
set_option linter.unusedSimpArgs false
def boolN (b : Bool) : Int := if b then 1 else 0
set_option maxHeartbeats 1000000 in
set_option maxRecDepth 100000 in
theorem vbool_any (b : Bool) (w : World) : Calls Tryd.prog 52 #[.bool b] w fun e w' => e = .returned (valV 2 (boolN b) ⟨#[]⟩) ∧ Fr nob w w' := by
  have HZ := hid (fun wx => vzero_any 2 wx)
  obtain ⟨w1, hw1⟩ : ∃ w1, w1 = w.alloc (.cells #[.int .i64 0, .int .i64 0, .string ⟨#[]⟩] 26) := ⟨_, rfl⟩
  have B1 := hid (show Blk w1 w.heap.size 26 #[.int .i64 0, .int .i64 0, .string ⟨#[]⟩] from by rw [hw1]; exact Blk.new w _ _)
  have F1 := hid (show Fr nob w w1 from by rw [hw1]; exact (Fr.refl nob w).alloc _)
  go_enter Tryd.func52, Tryd.ntmps52
  go_wp2_with fail
  rw [← hw1]
  clear hw1
  refine (HZ.out _).mono ?_
  rintro e w2 ⟨rfl, hf⟩
  have F2 := hid (F1.out.tr hf)
  have B2 := hid (B1.out.fr hf (fun x => x))
  clear hf
  unfold valV
  generalize hB : w.heap.size = B at *
  have c0 : w2.cell? ⟨B, 0, none⟩ = some (.int .i64 0) := by simpa using B2.out.cell 0
  have c1 : w2.cell? ⟨B, 1, none⟩ = some (.int .i64 0) := by simpa using B2.out.cell 1
  have c2 : w2.cell? ⟨B, 2, none⟩ = some (.string ⟨#[]⟩) := by simpa using B2.out.cell 2
  have r0 := B2.out.frozen 0
  have r1 := B2.out.frozen 1
  have r2 := B2.out.frozen 2
  have n1 : B < w2.heap.size := B2.out.lt
  have n2 : ¬ B = w2.heap.size := by omega
  have n3 : ¬ w2.heap.size = B := by omega
  have own : ∀ (wx : World), Fr nob w wx → ∀ i u, Fr nob w (wx.setCell ⟨B, i, none⟩ u) := fun wx h i u => h.setCell _ _ (fun hl => absurd hl (by show ¬ B < w.heap.size; omega))
  have OWN := hid own
  clear own
  cases b with
  | false =>
    go_wp2_with fail
    have BF := hid (show Blk ((((w2.setCell ⟨B, 0, none⟩ (.int .i64 2)).setCell ⟨B, 1, none⟩ (.int .i64 0)).setCell ⟨B, 2, none⟩ (.string ⟨#[]⟩)).alloc (.cells #[.int .i64 2, .int .i64 0, .string ⟨#[]⟩] 26)) B 26 _ from (((B2.out.setCell 0 (.int .i64 2)).setCell 1 (.int .i64 0)).setCell 2 (.string ⟨#[]⟩)).alloc _)
    have FF := hid (show Fr nob w ((((w2.setCell ⟨B, 0, none⟩ (.int .i64 2)).setCell ⟨B, 1, none⟩ (.int .i64 0)).setCell ⟨B, 2, none⟩ (.string ⟨#[]⟩)).alloc (.cells #[.int .i64 2, .int .i64 0, .string ⟨#[]⟩] 26)) from (OWN.out _ (OWN.out _ (OWN.out _ F2.out 0 _) 1 _) 2 _).alloc _)
    generalize ((((w2.setCell ⟨B, 0, none⟩ (.int .i64 2)).setCell ⟨B, 1, none⟩ (.int .i64 0)).setCell ⟨B, 2, none⟩ (.string ⟨#[]⟩)).alloc (.cells #[.int .i64 2, .int .i64 0, .string ⟨#[]⟩] 26)) = wf at *
    clear c0 c1 c2 r0 r1 r2 n1 n2 n3
    have c0 : wf.cell? ⟨B, 0, none⟩ = some (.int .i64 2) := by simpa using BF.out.cell 0
    have c1 : wf.cell? ⟨B, 1, none⟩ = some (.int .i64 0) := by simpa using BF.out.cell 1
    have c2 : wf.cell? ⟨B, 2, none⟩ = some (.string ⟨#[]⟩) := by simpa using BF.out.cell 2
    refine bodyPost_ret (v := valV 2 0 ⟨#[]⟩) (by simp [results, Tryd.results52, go_sem, valV, c0, c1, c2]; try rfl) rfl ⟨rfl, FF.out⟩
  | true =>
    go_wp2_with fail
    have BF := hid (show Blk ((((w2.setCell ⟨B, 0, none⟩ (.int .i64 2)).setCell ⟨B, 1, none⟩ (.int .i64 1)).setCell ⟨B, 2, none⟩ (.string ⟨#[]⟩)).alloc (.cells #[.int .i64 2, .int .i64 1, .string ⟨#[]⟩] 26)) B 26 _ from (((B2.out.setCell 0 (.int .i64 2)).setCell 1 (.int .i64 1)).setCell 2 (.string ⟨#[]⟩)).alloc _)
    have FF := hid (show Fr nob w ((((w2.setCell ⟨B, 0, none⟩ (.int .i64 2)).setCell ⟨B, 1, none⟩ (.int .i64 1)).setCell ⟨B, 2, none⟩ (.string ⟨#[]⟩)).alloc (.cells #[.int .i64 2, .int .i64 1, .string ⟨#[]⟩] 26)) from (OWN.out _ (OWN.out _ (OWN.out _ F2.out 0 _) 1 _) 2 _).alloc _)
    generalize ((((w2.setCell ⟨B, 0, none⟩ (.int .i64 2)).setCell ⟨B, 1, none⟩ (.int .i64 1)).setCell ⟨B, 2, none⟩ (.string ⟨#[]⟩)).alloc (.cells #[.int .i64 2, .int .i64 1, .string ⟨#[]⟩] 26)) = wf at *
    clear c0 c1 c2 r0 r1 r2 n1 n2 n3
    have c0 : wf.cell? ⟨B, 0, none⟩ = some (.int .i64 2) := by simpa using BF.out.cell 0
    have c1 : wf.cell? ⟨B, 1, none⟩ = some (.int .i64 1) := by simpa using BF.out.cell 1
    have c2 : wf.cell? ⟨B, 2, none⟩ = some (.string ⟨#[]⟩) := by simpa using BF.out.cell 2
    refine bodyPost_ret (v := valV 2 1 ⟨#[]⟩) (by simp [results, Tryd.results52, go_sem, valV, c0, c1, c2]; try rfl) rfl ⟨rfl, FF.out⟩
end Go.Proofs.YtngnipjfjhackaaDoor
