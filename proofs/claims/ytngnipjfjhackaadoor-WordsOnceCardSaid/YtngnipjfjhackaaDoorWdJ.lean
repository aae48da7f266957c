/- Words: read, of a text. -/
import Derived.Test.YtngnipjfjhackaaDoorWdI
namespace Go.Proofs.YtngnipjfjhackaaDoor
open Go.RowKit
set_option linter.unusedVariables false
set_option linter.unusedSimpArgs false
set_option maxHeartbeats 1000000 in
set_option maxRecDepth 100000 in
theorem read_text (s : ByteArray) (hs : s.size ≤ 281474976710656) (h1 : (s.toList == [116, 114, 117, 101]) = false) (h2 : (s.toList == [102, 97, 108, 115, 101]) = false)
    (hs2 : 2 ≤ s.size) (hp : Lib.hasPrefix s.data.toList [34] = true) (hq : Lib.hasSuffix s.data.toList [34] = true) (w : World) :
    Calls Tryd.prog 38 #[.string s] w fun e w' => e = .returned (.tuple #[valV 3 0 (s.extract 1 (s.size - 1)), .bool (mayW 3 0 (s.extract 1 (s.size - 1)))]) ∧ Fr nob w w' := by
  obtain ⟨w1, hw1⟩ : ∃ w1, w1 = w.alloc (.cells #[.int .i64 0, .int .i64 0, .string ⟨#[]⟩] 26) := ⟨_, rfl⟩
  have B1 := hid (show Blk w1 w.heap.size 26 #[.int .i64 0, .int .i64 0, .string ⟨#[]⟩] from by rw [hw1]; exact Blk.new w _ _)
  have F1 := hid (show Fr nob w w1 from by rw [hw1]; exact (Fr.refl nob w).alloc _)
  have HP := hid (fun wx => Tryd.strings_HasPrefix s ⟨#[34]⟩ wx)
  have HS := hid (fun wx => Tryd.strings_HasSuffix s ⟨#[34]⟩ wx (by omega))
  rw [show Lib.hasPrefix s.data.toList (⟨#[34]⟩ : ByteArray).data.toList = true from hp] at HP
  rw [show Lib.hasSuffix s.data.toList (⟨#[34]⟩ : ByteArray).data.toList = true from hq] at HS
  have k1 : (2 : Int) ≤ (s.size : Int) := by omega
  have k2 : ¬ (s.size : Int) < 2 := by omega
  obtain ⟨z, hz⟩ : ∃ z, s.size = z + 2 := ⟨s.size - 2, by omega⟩
  rw [show s.size - 1 = z + 1 by omega]
  have k3 : (s.size : Int) - 1 = ((z + 1 : Nat) : Int) := by omega
  obtain ⟨x, hx⟩ : ∃ x, s.extract 1 (z + 1) = x := ⟨_, rfl⟩
  rw [hx]
  have HX := hid hx
  clear hp hq hx
  go_enter Tryd.func38, Tryd.ntmps38
  go_wp2_with fail
  refine (HP.out _).mono ?_
  rintro e wq ⟨rfl, rfl⟩
  go_wp2_with fail
  refine (HS.out _).mono ?_
  rintro e wq ⟨rfl, rfl⟩
  go_wp2_with fail
  rw [← hw1]
  clear hw1
  rw [HX.out]
  with_reducible refine (vtext_any x w1).mono ?_
  rintro e w2 ⟨rfl, hf⟩
  have F2 := hid (F1.out.tr hf)
  have B2 := hid (B1.out.fr hf (fun x => x))
  clear hf
  unfold valV
  generalize hB : w.heap.size = B at *
  have OWN := hid (show ∀ (wx : World), Fr nob w wx → ∀ i u, Fr nob w (wx.setCell ⟨B, i, none⟩ u) from fun wx h i u => h.setCell _ _ (fun hl => absurd hl (by show ¬ B < w.heap.size; omega)))
  have X3 := hid (Blk.new w2 26 #[.int .i64 3, .int .i64 0, .string x])
  have B3 := hid (B2.out.alloc (.cells #[.int .i64 3, .int .i64 0, .string x] 26))
  have F3 := hid (F2.out.alloc (.cells #[.int .i64 3, .int .i64 0, .string x] 26))
  clear h1 h2 hs2 k1 k2 k3 hz
  go_wp2_with fail
  have NBX := hid (show w2.heap.size ≠ B from fun e => by have := B2.out.lt; omega)
  generalize hX : w2.heap.size = X at *
  generalize hw3 : w2.alloc (.cells #[.int .i64 3, .int .i64 0, .string x] 26) = w3 at *
  clear hX hw3
  have HM := hid (fun wx => wmay_any 3 0 x wx)
  unfold valV at HM
  have x0 : w3.cell? ⟨X, 0, none⟩ = some (.int .i64 3) := by simpa using X3.out.cell 0
  have x1 : w3.cell? ⟨X, 1, none⟩ = some (.int .i64 0) := by simpa using X3.out.cell 1
  have x2 : w3.cell? ⟨X, 2, none⟩ = some (.string x) := by simpa using X3.out.cell 2
  have CK := hid (show ∀ wx : World, Blk wx X 26 #[.int .i64 3, .int .i64 0, .string x] → wx.cell? ⟨X, 0, none⟩ = some (.int .i64 3) ∧ wx.cell? ⟨X, 1, none⟩ = some (.int .i64 0) ∧ wx.cell? ⟨X, 2, none⟩ = some (.string x) from fun wx h => ⟨by simpa using h.cell 0, by simpa using h.cell 1, by simpa using h.cell 2⟩)
  go_region_held3 (fun wx => wx.cell? ⟨X, 0, none⟩ = some (.int .i64 3) ∧ wx.cell? ⟨X, 1, none⟩ = some (.int .i64 0) ∧ wx.cell? ⟨X, 2, none⟩ = some (.string x)) (first | exact CK.out _ (((X4.out.far (p := ⟨B, 0, none⟩) NBX.out _).far (p := ⟨B, 1, none⟩) NBX.out _).far (p := ⟨B, 2, none⟩) NBX.out _) | exact K4.out | go_keep)
    (first
      | (go_at_call 36; go_must (refine (HM.out _).mono ?_); go_loud (rintro e w4 ⟨rfl, hf⟩); go_loud (have X4 := hid (X3.out.fr ((Fr.refl nob w3).drew.tr hf) (fun x => x))); go_loud (have K4 := hid (CK.out _ X4.out)); have B4 := hid (B3.out.fr ((Fr.refl nob w3).drew.tr hf) (fun x => x)); have F4 := hid (F3.out.tr ((Fr.refl nob w3).drew.tr hf)); clear hf; have c0 : w4.cell? ⟨B, 0, none⟩ = some (.int .i64 0) := (by simpa using B4.out.cell 0); have c1 : w4.cell? ⟨B, 1, none⟩ = some (.int .i64 0) := (by simpa using B4.out.cell 1); have c2 : w4.cell? ⟨B, 2, none⟩ = some (.string ⟨#[]⟩) := (by simpa using B4.out.cell 2); have r0 := B4.out.frozen 0; have r1 := B4.out.frozen 1; have r2 := B4.out.frozen 2))
  have BF := hid (show Blk (((w4.setCell ⟨B, 0, none⟩ (.int .i64 3)).setCell ⟨B, 1, none⟩ (.int .i64 0)).setCell ⟨B, 2, none⟩ (.string x)) B 26 _ from ((B4.out.setCell 0 (.int .i64 3)).setCell 1 (.int .i64 0)).setCell 2 (.string x))
  have FF := hid (show Fr nob w (((w4.setCell ⟨B, 0, none⟩ (.int .i64 3)).setCell ⟨B, 1, none⟩ (.int .i64 0)).setCell ⟨B, 2, none⟩ (.string x)) from OWN.out _ (OWN.out _ (OWN.out _ F4.out 0 _) 1 _) 2 _)
  generalize (((w4.setCell ⟨B, 0, none⟩ (.int .i64 3)).setCell ⟨B, 1, none⟩ (.int .i64 0)).setCell ⟨B, 2, none⟩ (.string x)) = wf at *
  clear c0 c1 c2 r0 r1 r2 x0 x1 x2
  have c0 : wf.cell? ⟨B, 0, none⟩ = some (.int .i64 3) := by simpa using BF.out.cell 0
  have c1 : wf.cell? ⟨B, 1, none⟩ = some (.int .i64 0) := by simpa using BF.out.cell 1
  have c2 : wf.cell? ⟨B, 2, none⟩ = some (.string x) := by simpa using BF.out.cell 2
  go_wp2_with fail
  refine bodyPost_ret (v := .tuple #[valV 3 0 x, .bool (mayW 3 0 x)]) (by simp [results, Tryd.results38, go_sem, valV, c0, c1, c2]; try rfl) rfl ⟨rfl, FF.out⟩
end Go.Proofs.YtngnipjfjhackaaDoor
