/- Words: names, put and taken. -/
import Derived.Test.YtngnipjfjhackaaDoorWdL
namespace Go.Proofs.YtngnipjfjhackaaDoor
open Go.RowKit
set_option linter.unusedVariables false
set_option linter.unusedSimpArgs false
set_option maxRecDepth 100000 in
theorem putA_any (g bo bf : Nat) (c : CmdM) (w : World) (h : CmdAt w g c) (ho : Blk w bo 54 #[.func (.func 16) #[] #[]]) (hb : Blk w bf 33 #[.func (.func 26) #[] #[]]) :
    Calls Tryd.prog 28 #[.pointer (some ⟨g, 0, none⟩), .pointer (some ⟨bo, 0, none⟩), .pointer (some ⟨bf, 0, none⟩)] w fun e w' => e = .returned (.tuple #[.string c.a, .bool (fineB c.a)]) ∧ Fr nob w w' := by
  have HO := hid (fun wx => ofA_any g wx)
  have HF := hid (fun wx => fine_any c.a wx)
  have CK := hid (show ∀ wx : World, Fr nob w wx → wx.cell? ⟨g, 1, none⟩ = some (.string c.a) ∧ wx.cell? ⟨bo, 0, none⟩ = some (.func (.func 16) #[] #[]) ∧ wx.cell? ⟨bf, 0, none⟩ = some (.func (.func 26) #[] #[]) from fun wx f => ⟨by simpa [cmdC] using (h.fr f (fun x => x)).cell 1, by simpa using (ho.fr f (fun x => x)).cell 0, by simpa using (hb.fr f (fun x => x)).cell 0⟩)
  obtain ⟨c1, c2, c3⟩ := CK.out _ (Fr.refl _ _)
  clear h ho hb
  generalize c.a = s at *
  obtain ⟨b, hb⟩ : ∃ b, fineB s = b := ⟨_, rfl⟩
  rw [hb] at HF ⊢
  clear hb
  go_enter Tryd.func28, Tryd.ntmps28
  go_wp2_with fail
  go_region_held3 (fun wx => wx.cell? ⟨g, 1, none⟩ = some (.string s) ∧ wx.cell? ⟨bo, 0, none⟩ = some (.func (.func 16) #[] #[]) ∧ wx.cell? ⟨bf, 0, none⟩ = some (.func (.func 26) #[] #[])) (first | exact K3.out | go_keep)
    (first
      | (go_at_call 16; go_loud (refine (HO.out _).mono ?_); go_loud (rintro e w2 ⟨rfl, rfl⟩))
      | (go_at_call 26; go_loud (refine (HF.out _).mono ?_); go_loud (rintro e w3 ⟨rfl, hf⟩); go_loud (have F3 := hid ((Fr.refl nob w).drew.tr hf)); go_loud (have K3 := hid (CK.out _ F3.out)); clear hf))
  go_wp2_with fail
  go_ret2
  exact ⟨rfl, F3.out⟩
set_option maxRecDepth 100000 in
theorem takeA_any (g bo bf : Nat) (c : CmdM) (s : ByteArray) (w : World) (h : CmdAt w g c) (ho : Blk w bo 54 #[.func (.func 16) #[] #[]]) (hb : Blk w bf 33 #[.func (.func 26) #[] #[]]) :
    Calls Tryd.prog 29 #[.pointer (some ⟨g, 0, none⟩), .string s, .pointer (some ⟨bo, 0, none⟩), .pointer (some ⟨bf, 0, none⟩)] w fun e w' => e = .returned (.bool (fineB s)) ∧ CmdAt w' g { c with a := s } ∧ Fr (oneb g) w w' := by
  have HO := hid (fun wx => ofA_any g wx)
  have HF := hid (fun wx => fine_any s wx)
  have H := hid h
  have c1 : w.cell? ⟨g, 1, none⟩ = some (.string c.a) := by simpa [cmdC] using h.cell 1
  have c2 : w.cell? ⟨bo, 0, none⟩ = some (.func (.func 16) #[] #[]) := by simpa using ho.cell 0
  have c3 : w.cell? ⟨bf, 0, none⟩ = some (.func (.func 26) #[] #[]) := by simpa using hb.cell 0
  have r1 := h.frozen 1
  have n1 : ¬ bf = g := fun e => hb.ne h (by decide) e
  have c4 := (World.cell?_setCell_other w ⟨g, 1, none⟩ ⟨bf, 0, none⟩ (.string s) (by intro e; injection e with e; exact n1 e.symm)).trans c3
  obtain ⟨b, hb⟩ : ∃ b, fineB s = b := ⟨_, rfl⟩
  rw [hb] at HF ⊢
  clear hb h ho n1
  go_enter Tryd.func29, Tryd.ntmps29
  go_wp2_with fail
  refine (HO.out _).mono ?_
  rintro e w2 ⟨rfl, rfl⟩
  go_wp2_with fail
  have B3 := hid (show CmdAt (w2.setCell ⟨g, 1, none⟩ (.string s)) g { c with a := s } from H.out.setCell 1 (.string s))
  have F3 := hid ((Fr.refl (oneb g) w2).setCell ⟨g, 1, none⟩ (.string s) (fun _ => rfl))
  generalize w2.setCell ⟨g, 1, none⟩ (.string s) = w3 at *
  refine (HF.out _).mono ?_
  rintro e w4 ⟨rfl, hf⟩
  have F4 := hid (F3.out.tr hf.ofNo)
  have B4 := hid (B3.out.fr hf (fun x => x))
  clear hf
  go_wp2_with fail
  go_ret
  exact ⟨rfl, B4.out, F4.out⟩
set_option maxRecDepth 100000 in
theorem putB_any (g bo bf : Nat) (c : CmdM) (w : World) (h : CmdAt w g c) (ho : Blk w bo 54 #[.func (.func 17) #[] #[]]) (hb : Blk w bf 33 #[.func (.func 26) #[] #[]]) :
    Calls Tryd.prog 28 #[.pointer (some ⟨g, 0, none⟩), .pointer (some ⟨bo, 0, none⟩), .pointer (some ⟨bf, 0, none⟩)] w fun e w' => e = .returned (.tuple #[.string c.b, .bool (fineB c.b)]) ∧ Fr nob w w' := by
  have HO := hid (fun wx => ofB_any g wx)
  have HF := hid (fun wx => fine_any c.b wx)
  have CK := hid (show ∀ wx : World, Fr nob w wx → wx.cell? ⟨g, 2, none⟩ = some (.string c.b) ∧ wx.cell? ⟨bo, 0, none⟩ = some (.func (.func 17) #[] #[]) ∧ wx.cell? ⟨bf, 0, none⟩ = some (.func (.func 26) #[] #[]) from fun wx f => ⟨by simpa [cmdC] using (h.fr f (fun x => x)).cell 2, by simpa using (ho.fr f (fun x => x)).cell 0, by simpa using (hb.fr f (fun x => x)).cell 0⟩)
  obtain ⟨c1, c2, c3⟩ := CK.out _ (Fr.refl _ _)
  clear h ho hb
  generalize c.b = s at *
  obtain ⟨b, hb⟩ : ∃ b, fineB s = b := ⟨_, rfl⟩
  rw [hb] at HF ⊢
  clear hb
  go_enter Tryd.func28, Tryd.ntmps28
  go_wp2_with fail
  go_region_held3 (fun wx => wx.cell? ⟨g, 2, none⟩ = some (.string s) ∧ wx.cell? ⟨bo, 0, none⟩ = some (.func (.func 17) #[] #[]) ∧ wx.cell? ⟨bf, 0, none⟩ = some (.func (.func 26) #[] #[])) (first | exact K3.out | go_keep)
    (first
      | (go_at_call 17; go_loud (refine (HO.out _).mono ?_); go_loud (rintro e w2 ⟨rfl, rfl⟩))
      | (go_at_call 26; go_loud (refine (HF.out _).mono ?_); go_loud (rintro e w3 ⟨rfl, hf⟩); go_loud (have F3 := hid ((Fr.refl nob w).drew.tr hf)); go_loud (have K3 := hid (CK.out _ F3.out)); clear hf))
  go_wp2_with fail
  go_ret2
  exact ⟨rfl, F3.out⟩
set_option maxRecDepth 100000 in
theorem takeB_any (g bo bf : Nat) (c : CmdM) (s : ByteArray) (w : World) (h : CmdAt w g c) (ho : Blk w bo 54 #[.func (.func 17) #[] #[]]) (hb : Blk w bf 33 #[.func (.func 26) #[] #[]]) :
    Calls Tryd.prog 29 #[.pointer (some ⟨g, 0, none⟩), .string s, .pointer (some ⟨bo, 0, none⟩), .pointer (some ⟨bf, 0, none⟩)] w fun e w' => e = .returned (.bool (fineB s)) ∧ CmdAt w' g { c with b := s } ∧ Fr (oneb g) w w' := by
  have HO := hid (fun wx => ofB_any g wx)
  have HF := hid (fun wx => fine_any s wx)
  have H := hid h
  have c1 : w.cell? ⟨g, 2, none⟩ = some (.string c.b) := by simpa [cmdC] using h.cell 2
  have c2 : w.cell? ⟨bo, 0, none⟩ = some (.func (.func 17) #[] #[]) := by simpa using ho.cell 0
  have c3 : w.cell? ⟨bf, 0, none⟩ = some (.func (.func 26) #[] #[]) := by simpa using hb.cell 0
  have r1 := h.frozen 2
  have n1 : ¬ bf = g := fun e => hb.ne h (by decide) e
  have c4 := (World.cell?_setCell_other w ⟨g, 2, none⟩ ⟨bf, 0, none⟩ (.string s) (by intro e; injection e with e; exact n1 e.symm)).trans c3
  obtain ⟨b, hb⟩ : ∃ b, fineB s = b := ⟨_, rfl⟩
  rw [hb] at HF ⊢
  clear hb h ho n1
  go_enter Tryd.func29, Tryd.ntmps29
  go_wp2_with fail
  refine (HO.out _).mono ?_
  rintro e w2 ⟨rfl, rfl⟩
  go_wp2_with fail
  have B3 := hid (show CmdAt (w2.setCell ⟨g, 2, none⟩ (.string s)) g { c with b := s } from H.out.setCell 2 (.string s))
  have F3 := hid ((Fr.refl (oneb g) w2).setCell ⟨g, 2, none⟩ (.string s) (fun _ => rfl))
  generalize w2.setCell ⟨g, 2, none⟩ (.string s) = w3 at *
  refine (HF.out _).mono ?_
  rintro e w4 ⟨rfl, hf⟩
  have F4 := hid (F3.out.tr hf.ofNo)
  have B4 := hid (B3.out.fr hf (fun x => x))
  clear hf
  go_wp2_with fail
  go_ret
  exact ⟨rfl, B4.out, F4.out⟩
end Go.Proofs.YtngnipjfjhackaaDoor
