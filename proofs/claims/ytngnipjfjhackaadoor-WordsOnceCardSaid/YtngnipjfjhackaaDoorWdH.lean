/- Words: a value that is read. -/
import Derived.Test.YtngnipjfjhackaaDoorWdG
namespace Go.Proofs.YtngnipjfjhackaaDoor
open Go.RowKit
set_option linter.unusedVariables false
set_option linter.unusedSimpArgs false
def trueS : ByteArray := ⟨#[116, 114, 117, 101]⟩
def falseS : ByteArray := ⟨#[102, 97, 108, 115, 101]⟩
set_option maxHeartbeats 1000000 in
set_option maxRecDepth 100000 in
theorem read_num (s : ByteArray) (hs : s.size ≤ 281474976710656) (h1 : (s.toList == [116, 114, 117, 101]) = false) (h2 : (s.toList == [102, 97, 108, 115, 101]) = false)
    (hq : s.size < 2 ∨ Lib.hasPrefix s.data.toList [34] = false ∨ Lib.hasSuffix s.data.toList [34] = false) (w : World) (hv : Vars w) :
    Calls Tryd.prog 38 #[.string s] w fun e w' => (∃ n, e = .returned (.tuple #[valV 1 n ⟨#[]⟩, .bool (numM s.data.toList).isSome]) ∧ numV s.data.toList n) ∧ Fr nob w w' := by
  obtain ⟨w1, hw1⟩ : ∃ w1, w1 = w.alloc (.cells #[.int .i64 0, .int .i64 0, .string ⟨#[]⟩] 26) := ⟨_, rfl⟩
  have B1 := hid (show Blk w1 w.heap.size 26 #[.int .i64 0, .int .i64 0, .string ⟨#[]⟩] from by rw [hw1]; exact Blk.new w _ _)
  have F1 := hid (show Fr nob w w1 from by rw [hw1]; exact (Fr.refl nob w).alloc _)
  have HD := hid (digits_any s hs w1 (hv.fr F1.out))
  have HP := hid (fun wx => Tryd.strings_HasPrefix s ⟨#[34]⟩ wx)
  have HS := hid (fun wx => Tryd.strings_HasSuffix s ⟨#[34]⟩ wx (by omega))
  by_cases hs2 : s.size < 2
  · have k1 : ¬ (2 : Int) ≤ (s.size : Int) := by omega
    clear hq hv
    rw [hw1] at HD
    go_enter Tryd.func38, Tryd.ntmps38
    go_wp2_with fail
    rw [← hw1] at HD ⊢
    clear hw1
    refine HD.out.mono ?_
    rintro e w2 ⟨⟨n, rfl, hn⟩, hf⟩
    have HN := hid hn
    have F2 := hid (F1.out.tr hf)
    have B2 := hid (B1.out.fr hf (fun x => x))
    clear hf hn
    obtain ⟨ok, hok⟩ : ∃ ok, (numM s.data.toList).isSome = ok := ⟨_, rfl⟩
    rw [hok]
    have HOK := hid hok
    clear hok
    go_wp2_with fail
    refine (vint_any n _).mono ?_
    rintro e w3 ⟨rfl, hf⟩
    have F3 := hid (F2.out.tr hf)
    have B3 := hid (B2.out.fr hf (fun x => x))
    clear hf
    unfold valV
    generalize hB : w.heap.size = B at *
    have OWN := hid (show ∀ (wx : World), Fr nob w wx → ∀ i u, Fr nob w (wx.setCell ⟨B, i, none⟩ u) from fun wx h i u => h.setCell _ _ (fun hl => absurd hl (by show ¬ B < w.heap.size; omega)))
    have c0 : w3.cell? ⟨B, 0, none⟩ = some (.int .i64 0) := by simpa using B3.out.cell 0
    have c1 : w3.cell? ⟨B, 1, none⟩ = some (.int .i64 0) := by simpa using B3.out.cell 1
    have c2 : w3.cell? ⟨B, 2, none⟩ = some (.string ⟨#[]⟩) := by simpa using B3.out.cell 2
    have r0 := B3.out.frozen 0
    have r1 := B3.out.frozen 1
    have r2 := B3.out.frozen 2
    go_wp2_with fail
    have BF := hid (show Blk ((((w3.setCell ⟨B, 0, none⟩ (.int .i64 1)).setCell ⟨B, 1, none⟩ (.int .i64 n)).setCell ⟨B, 2, none⟩ (.string ⟨#[]⟩))) B 26 _ from ((B3.out.setCell 0 (.int .i64 1)).setCell 1 (.int .i64 n)).setCell 2 (.string ⟨#[]⟩))
    have FF := hid (show Fr nob w ((((w3.setCell ⟨B, 0, none⟩ (.int .i64 1)).setCell ⟨B, 1, none⟩ (.int .i64 n)).setCell ⟨B, 2, none⟩ (.string ⟨#[]⟩))) from OWN.out _ (OWN.out _ (OWN.out _ F3.out 0 _) 1 _) 2 _)
    generalize ((((w3.setCell ⟨B, 0, none⟩ (.int .i64 1)).setCell ⟨B, 1, none⟩ (.int .i64 n)).setCell ⟨B, 2, none⟩ (.string ⟨#[]⟩))) = wf at *
    clear c0 c1 c2 r0 r1 r2
    have c0 : wf.cell? ⟨B, 0, none⟩ = some (.int .i64 1) := by simpa using BF.out.cell 0
    have c1 : wf.cell? ⟨B, 1, none⟩ = some (.int .i64 n) := by simpa using BF.out.cell 1
    have c2 : wf.cell? ⟨B, 2, none⟩ = some (.string ⟨#[]⟩) := by simpa using BF.out.cell 2
    refine bodyPost_ret (v := .tuple #[valV 1 n ⟨#[]⟩, .bool ok]) (by simp [results, Tryd.results38, go_sem, valV, c0, c1, c2]; try rfl) rfl ⟨⟨n, by rw [HOK.out], HN.out⟩, FF.out⟩
  · have k1 : (2 : Int) ≤ (s.size : Int) := by omega
    obtain ⟨b, hb⟩ : ∃ b, Lib.hasPrefix s.data.toList [34] = b := ⟨_, rfl⟩
    have hb2 : Lib.hasPrefix s.data.toList (⟨#[34]⟩ : ByteArray).data.toList = b := hb
    rw [hb2] at HP
    cases b with
    | false =>
      clear hq hv hb hb2
      go_enter Tryd.func38, Tryd.ntmps38
      go_wp2_with fail
      refine (HP.out _).mono ?_
      rintro e wq ⟨rfl, rfl⟩
      go_wp2_with fail
      rw [← hw1]
      clear hw1
      refine HD.out.mono ?_
      rintro e w2 ⟨⟨n, rfl, hn⟩, hf⟩
      have HN := hid hn
      have F2 := hid (F1.out.tr hf)
      have B2 := hid (B1.out.fr hf (fun x => x))
      clear hf hn
      obtain ⟨ok, hok⟩ : ∃ ok, (numM s.data.toList).isSome = ok := ⟨_, rfl⟩
      rw [hok]
      have HOK := hid hok
      clear hok
      go_wp2_with fail
      refine (vint_any n _).mono ?_
      rintro e w3 ⟨rfl, hf⟩
      have F3 := hid (F2.out.tr hf)
      have B3 := hid (B2.out.fr hf (fun x => x))
      clear hf
      unfold valV
      generalize hB : w.heap.size = B at *
      have OWN := hid (show ∀ (wx : World), Fr nob w wx → ∀ i u, Fr nob w (wx.setCell ⟨B, i, none⟩ u) from fun wx h i u => h.setCell _ _ (fun hl => absurd hl (by show ¬ B < w.heap.size; omega)))
      have c0 : w3.cell? ⟨B, 0, none⟩ = some (.int .i64 0) := by simpa using B3.out.cell 0
      have c1 : w3.cell? ⟨B, 1, none⟩ = some (.int .i64 0) := by simpa using B3.out.cell 1
      have c2 : w3.cell? ⟨B, 2, none⟩ = some (.string ⟨#[]⟩) := by simpa using B3.out.cell 2
      have r0 := B3.out.frozen 0
      have r1 := B3.out.frozen 1
      have r2 := B3.out.frozen 2
      go_wp2_with fail
      have BF := hid (show Blk ((((w3.setCell ⟨B, 0, none⟩ (.int .i64 1)).setCell ⟨B, 1, none⟩ (.int .i64 n)).setCell ⟨B, 2, none⟩ (.string ⟨#[]⟩))) B 26 _ from ((B3.out.setCell 0 (.int .i64 1)).setCell 1 (.int .i64 n)).setCell 2 (.string ⟨#[]⟩))
      have FF := hid (show Fr nob w ((((w3.setCell ⟨B, 0, none⟩ (.int .i64 1)).setCell ⟨B, 1, none⟩ (.int .i64 n)).setCell ⟨B, 2, none⟩ (.string ⟨#[]⟩))) from OWN.out _ (OWN.out _ (OWN.out _ F3.out 0 _) 1 _) 2 _)
      generalize ((((w3.setCell ⟨B, 0, none⟩ (.int .i64 1)).setCell ⟨B, 1, none⟩ (.int .i64 n)).setCell ⟨B, 2, none⟩ (.string ⟨#[]⟩))) = wf at *
      clear c0 c1 c2 r0 r1 r2
      have c0 : wf.cell? ⟨B, 0, none⟩ = some (.int .i64 1) := by simpa using BF.out.cell 0
      have c1 : wf.cell? ⟨B, 1, none⟩ = some (.int .i64 n) := by simpa using BF.out.cell 1
      have c2 : wf.cell? ⟨B, 2, none⟩ = some (.string ⟨#[]⟩) := by simpa using BF.out.cell 2
      refine bodyPost_ret (v := .tuple #[valV 1 n ⟨#[]⟩, .bool ok]) (by simp [results, Tryd.results38, go_sem, valV, c0, c1, c2]; try rfl) rfl ⟨⟨n, by rw [HOK.out], HN.out⟩, FF.out⟩
    | true =>
      have hsf : Lib.hasSuffix s.data.toList (⟨#[34]⟩ : ByteArray).data.toList = false := by
        rcases hq with h | h | h
        · exact absurd h hs2
        · rw [hb] at h; cases h
        · exact h
      rw [hsf] at HS
      clear hq hv hb hb2 hsf
      go_enter Tryd.func38, Tryd.ntmps38
      go_wp2_with fail
      refine (HP.out _).mono ?_
      rintro e wq ⟨rfl, rfl⟩
      go_wp2_with fail
      refine (HS.out _).mono ?_
      rintro e wq ⟨rfl, rfl⟩
      go_wp2_with fail
      rw [← hw1]
      clear hw1
      refine HD.out.mono ?_
      rintro e w2 ⟨⟨n, rfl, hn⟩, hf⟩
      have HN := hid hn
      have F2 := hid (F1.out.tr hf)
      have B2 := hid (B1.out.fr hf (fun x => x))
      clear hf hn
      obtain ⟨ok, hok⟩ : ∃ ok, (numM s.data.toList).isSome = ok := ⟨_, rfl⟩
      rw [hok]
      have HOK := hid hok
      clear hok
      go_wp2_with fail
      refine (vint_any n _).mono ?_
      rintro e w3 ⟨rfl, hf⟩
      have F3 := hid (F2.out.tr hf)
      have B3 := hid (B2.out.fr hf (fun x => x))
      clear hf
      unfold valV
      generalize hB : w.heap.size = B at *
      have OWN := hid (show ∀ (wx : World), Fr nob w wx → ∀ i u, Fr nob w (wx.setCell ⟨B, i, none⟩ u) from fun wx h i u => h.setCell _ _ (fun hl => absurd hl (by show ¬ B < w.heap.size; omega)))
      have c0 : w3.cell? ⟨B, 0, none⟩ = some (.int .i64 0) := by simpa using B3.out.cell 0
      have c1 : w3.cell? ⟨B, 1, none⟩ = some (.int .i64 0) := by simpa using B3.out.cell 1
      have c2 : w3.cell? ⟨B, 2, none⟩ = some (.string ⟨#[]⟩) := by simpa using B3.out.cell 2
      have r0 := B3.out.frozen 0
      have r1 := B3.out.frozen 1
      have r2 := B3.out.frozen 2
      go_wp2_with fail
      have BF := hid (show Blk ((((w3.setCell ⟨B, 0, none⟩ (.int .i64 1)).setCell ⟨B, 1, none⟩ (.int .i64 n)).setCell ⟨B, 2, none⟩ (.string ⟨#[]⟩))) B 26 _ from ((B3.out.setCell 0 (.int .i64 1)).setCell 1 (.int .i64 n)).setCell 2 (.string ⟨#[]⟩))
      have FF := hid (show Fr nob w ((((w3.setCell ⟨B, 0, none⟩ (.int .i64 1)).setCell ⟨B, 1, none⟩ (.int .i64 n)).setCell ⟨B, 2, none⟩ (.string ⟨#[]⟩))) from OWN.out _ (OWN.out _ (OWN.out _ F3.out 0 _) 1 _) 2 _)
      generalize ((((w3.setCell ⟨B, 0, none⟩ (.int .i64 1)).setCell ⟨B, 1, none⟩ (.int .i64 n)).setCell ⟨B, 2, none⟩ (.string ⟨#[]⟩))) = wf at *
      clear c0 c1 c2 r0 r1 r2
      have c0 : wf.cell? ⟨B, 0, none⟩ = some (.int .i64 1) := by simpa using BF.out.cell 0
      have c1 : wf.cell? ⟨B, 1, none⟩ = some (.int .i64 n) := by simpa using BF.out.cell 1
      have c2 : wf.cell? ⟨B, 2, none⟩ = some (.string ⟨#[]⟩) := by simpa using BF.out.cell 2
      refine bodyPost_ret (v := .tuple #[valV 1 n ⟨#[]⟩, .bool ok]) (by simp [results, Tryd.results38, go_sem, valV, c0, c1, c2]; try rfl) rfl ⟨⟨n, by rw [HOK.out], HN.out⟩, FF.out⟩
end Go.Proofs.YtngnipjfjhackaaDoor
