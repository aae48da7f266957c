/- Words: read, of what is so, or not. -/
import Derived.Test.YtngnipjfjhackaaDoorWdH
namespace Go.Proofs.YtngnipjfjhackaaDoor
open Go.RowKit
set_option linter.unusedVariables false
set_option linter.unusedSimpArgs false
set_option maxHeartbeats 1000000 in
set_option maxRecDepth 100000 in
theorem read_true (s : ByteArray) (h1 : (s.toList == [116, 114, 117, 101]) = true) (w : World) :
    Calls Tryd.prog 38 #[.string s] w fun e w' => e = .returned (.tuple #[valV 2 1 ⟨#[]⟩, .bool true]) ∧ Fr nob w w' := by
  obtain ⟨w1, hw1⟩ : ∃ w1, w1 = w.alloc (.cells #[.int .i64 0, .int .i64 0, .string ⟨#[]⟩] 26) := ⟨_, rfl⟩
  have B1 := hid (show Blk w1 w.heap.size 26 #[.int .i64 0, .int .i64 0, .string ⟨#[]⟩] from by rw [hw1]; exact Blk.new w _ _)
  have F1 := hid (show Fr nob w w1 from by rw [hw1]; exact (Fr.refl nob w).alloc _)
  go_enter Tryd.func38, Tryd.ntmps38
  go_wp2_with fail
  rw [← hw1]
  clear hw1
  refine (vbool_any true w1).mono ?_
  rintro e w3 ⟨rfl, hf⟩
  have F3 := hid (F1.out.tr hf)
  have B3 := hid (B1.out.fr hf (fun x => x))
  clear hf
  unfold valV boolN
  generalize hB : w.heap.size = B at *
  have OWN := hid (show ∀ (wx : World), Fr nob w wx → ∀ i u, Fr nob w (wx.setCell ⟨B, i, none⟩ u) from fun wx h i u => h.setCell _ _ (fun hl => absurd hl (by show ¬ B < w.heap.size; omega)))
  have c0 : w3.cell? ⟨B, 0, none⟩ = some (.int .i64 0) := by simpa using B3.out.cell 0
  have c1 : w3.cell? ⟨B, 1, none⟩ = some (.int .i64 0) := by simpa using B3.out.cell 1
  have c2 : w3.cell? ⟨B, 2, none⟩ = some (.string ⟨#[]⟩) := by simpa using B3.out.cell 2
  have r0 := B3.out.frozen 0
  have r1 := B3.out.frozen 1
  have r2 := B3.out.frozen 2
  go_wp2_with fail
  have BF := hid (show Blk ((((w3.setCell ⟨B, 0, none⟩ (.int .i64 2)).setCell ⟨B, 1, none⟩ (.int .i64 1)).setCell ⟨B, 2, none⟩ (.string ⟨#[]⟩))) B 26 _ from ((B3.out.setCell 0 (.int .i64 2)).setCell 1 (.int .i64 1)).setCell 2 (.string ⟨#[]⟩))
  have FF := hid (show Fr nob w ((((w3.setCell ⟨B, 0, none⟩ (.int .i64 2)).setCell ⟨B, 1, none⟩ (.int .i64 1)).setCell ⟨B, 2, none⟩ (.string ⟨#[]⟩))) from OWN.out _ (OWN.out _ (OWN.out _ F3.out 0 _) 1 _) 2 _)
  generalize ((((w3.setCell ⟨B, 0, none⟩ (.int .i64 2)).setCell ⟨B, 1, none⟩ (.int .i64 1)).setCell ⟨B, 2, none⟩ (.string ⟨#[]⟩))) = wf at *
  clear c0 c1 c2 r0 r1 r2
  have c0 : wf.cell? ⟨B, 0, none⟩ = some (.int .i64 2) := by simpa using BF.out.cell 0
  have c1 : wf.cell? ⟨B, 1, none⟩ = some (.int .i64 1) := by simpa using BF.out.cell 1
  have c2 : wf.cell? ⟨B, 2, none⟩ = some (.string ⟨#[]⟩) := by simpa using BF.out.cell 2
  refine bodyPost_ret (v := .tuple #[valV 2 1 ⟨#[]⟩, .bool true]) (by simp [results, Tryd.results38, go_sem, valV, c0, c1, c2]; try rfl) rfl ⟨rfl, FF.out⟩
set_option maxHeartbeats 1000000 in
set_option maxRecDepth 100000 in
theorem read_false (s : ByteArray) (h1 : (s.toList == [116, 114, 117, 101]) = false) (h2 : (s.toList == [102, 97, 108, 115, 101]) = true) (w : World) :
    Calls Tryd.prog 38 #[.string s] w fun e w' => e = .returned (.tuple #[valV 2 0 ⟨#[]⟩, .bool true]) ∧ Fr nob w w' := by
  obtain ⟨w1, hw1⟩ : ∃ w1, w1 = w.alloc (.cells #[.int .i64 0, .int .i64 0, .string ⟨#[]⟩] 26) := ⟨_, rfl⟩
  have B1 := hid (show Blk w1 w.heap.size 26 #[.int .i64 0, .int .i64 0, .string ⟨#[]⟩] from by rw [hw1]; exact Blk.new w _ _)
  have F1 := hid (show Fr nob w w1 from by rw [hw1]; exact (Fr.refl nob w).alloc _)
  go_enter Tryd.func38, Tryd.ntmps38
  go_wp2_with fail
  rw [← hw1]
  clear hw1
  refine (vbool_any false w1).mono ?_
  rintro e w3 ⟨rfl, hf⟩
  have F3 := hid (F1.out.tr hf)
  have B3 := hid (B1.out.fr hf (fun x => x))
  clear hf
  unfold valV boolN
  generalize hB : w.heap.size = B at *
  have OWN := hid (show ∀ (wx : World), Fr nob w wx → ∀ i u, Fr nob w (wx.setCell ⟨B, i, none⟩ u) from fun wx h i u => h.setCell _ _ (fun hl => absurd hl (by show ¬ B < w.heap.size; omega)))
  have c0 : w3.cell? ⟨B, 0, none⟩ = some (.int .i64 0) := by simpa using B3.out.cell 0
  have c1 : w3.cell? ⟨B, 1, none⟩ = some (.int .i64 0) := by simpa using B3.out.cell 1
  have c2 : w3.cell? ⟨B, 2, none⟩ = some (.string ⟨#[]⟩) := by simpa using B3.out.cell 2
  have r0 := B3.out.frozen 0
  have r1 := B3.out.frozen 1
  have r2 := B3.out.frozen 2
  go_wp2_with fail
  have BF := hid (show Blk ((((w3.setCell ⟨B, 0, none⟩ (.int .i64 2)).setCell ⟨B, 1, none⟩ (.int .i64 0)).setCell ⟨B, 2, none⟩ (.string ⟨#[]⟩))) B 26 _ from ((B3.out.setCell 0 (.int .i64 2)).setCell 1 (.int .i64 0)).setCell 2 (.string ⟨#[]⟩))
  have FF := hid (show Fr nob w ((((w3.setCell ⟨B, 0, none⟩ (.int .i64 2)).setCell ⟨B, 1, none⟩ (.int .i64 0)).setCell ⟨B, 2, none⟩ (.string ⟨#[]⟩))) from OWN.out _ (OWN.out _ (OWN.out _ F3.out 0 _) 1 _) 2 _)
  generalize ((((w3.setCell ⟨B, 0, none⟩ (.int .i64 2)).setCell ⟨B, 1, none⟩ (.int .i64 0)).setCell ⟨B, 2, none⟩ (.string ⟨#[]⟩))) = wf at *
  clear c0 c1 c2 r0 r1 r2
  have c0 : wf.cell? ⟨B, 0, none⟩ = some (.int .i64 2) := by simpa using BF.out.cell 0
  have c1 : wf.cell? ⟨B, 1, none⟩ = some (.int .i64 0) := by simpa using BF.out.cell 1
  have c2 : wf.cell? ⟨B, 2, none⟩ = some (.string ⟨#[]⟩) := by simpa using BF.out.cell 2
  refine bodyPost_ret (v := .tuple #[valV 2 0 ⟨#[]⟩, .bool true]) (by simp [results, Tryd.results38, go_sem, valV, c0, c1, c2]; try rfl) rfl ⟨rfl, FF.out⟩
end Go.Proofs.YtngnipjfjhackaaDoor
