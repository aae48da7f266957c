/- Words: WordsOnce, the walk. -/
import Derived.Test.YtngnipjfjhackaaDoorWdOP
import Derived.Test.YtngnipjfjhackaaDoorWdLW
namespace Go.Proofs.YtngnipjfjhackaaDoor
open Go.RowKit Go.MapKept
set_option linter.unusedVariables false
set_option linter.unusedSimpArgs false
/-- What comes in. -/
structure InC (c : CmdM) : Prop where
  n : (Lit.int .i64 c.n).wf = true
  t : (Lit.int .i64 c.t).wf = true
  vn : (Lit.int .i64 c.vn).wf = true
theorem rng_wf {n : Int} (h : (Lit.int .i64 n).wf = true) : -9223372036854775808 ≤ n ∧ n ≤ 9223372036854775807 := by
  simp [Lit.wf, IntKind.min, IntKind.max, IntKind.signed, IntKind.bits] at h
  omega
theorem InC.small {c : CmdM} (h : InC c) : SmallC (shortC c) := by
  have h1 := rng_wf h.n
  have h2 := rng_wf h.vn
  have a1 := cutN_size 30 c.verb
  have a2 := cutN_size 30 c.a
  have a3 := cutN_size 30 c.b
  have a4 := cutN_size 60 c.vs
  exact ⟨⟨h1.1, h1.2, h2.1, h2.2⟩, by show (cutN 30 c.verb).size ≤ 1000; omega, by show (cutN 30 c.a).size ≤ 1000; omega, by show (cutN 30 c.b).size ≤ 1000; omega, by show (cutN 60 c.vs).size ≤ 1000; omega⟩
theorem InC.fit {c : CmdM} (h : InC c) : FitC (shortC c) := by
  have a1 := cutN_size 30 c.verb
  have a2 := cutN_size 30 c.a
  have a3 := cutN_size 30 c.b
  have a4 := cutN_size 60 c.vs
  exact ⟨by show (cutN 30 c.verb).size ≤ 2000; omega, by show (cutN 30 c.a).size ≤ 2000; omega, by show (cutN 30 c.b).size ≤ 2000; omega, by show (cutN 60 c.vs).size ≤ 2000; omega, h.n, h.t, h.vn⟩
theorem eq_bytes (a b : ByteArray) : (a.toList == b.toList) = decide (a = b) := by
  by_cases h : a = b
  · rw [decide_eq_true h, h]; simp
  · rw [decide_eq_false h]
    rw [ByteArray.toList_eq, ByteArray.toList_eq]
    exact beq_eq_false_iff_ne.2 (fun e => h (by obtain ⟨⟨x⟩⟩ := a; obtain ⟨⟨y⟩⟩ := b; simpa using e))
set_option maxHeartbeats 8000000 in
set_option maxRecDepth 100000 in
theorem once_walk (c d : CmdM) (hc : InC c) (hd : InC d) (w : World) (hv : VarsM w) :
    Calls Tryd.prog 5 #[cmdV c, cmdV d] w fun e w' => e = .returned (.bool true) ∧ Fr nob w w' := by
  have HV := hid hv
  obtain ⟨W1, hW1⟩ : ∃ W1, W1 = (w.alloc (.cells (cmdC c) 28)).alloc (.cells (cmdC d) 28) := ⟨_, rfl⟩
  have e1 : (w.alloc (.cells (cmdC c) 28)).heap.size = w.heap.size + 1 := by simp
  have C1 := hid (show CmdAt W1 w.heap.size c from by rw [hW1]; exact (Blk.new w _ _).alloc _)
  have D1 := hid (show CmdAt W1 (w.heap.size + 1) d from by
    rw [hW1]
    have := Blk.new (w.alloc (.cells (cmdC c) 28)) 28 (cmdC d)
    rw [e1] at this
    exact this)
  have F1 := hid (show Fr nob w W1 from by rw [hW1]; exact ((Fr.refl nob w).alloc _).alloc _)
  have HSH := hid (shown_any W1 (hv.fr F1.out))
  have HC := hid hc
  have HD := hid hd
  have HLAW := hid (once_law (shortC c) (shortC d))
  have HLAW2 := hid (once_law (shortC d) (shortC c))
  have HLC := hid (fun wx hx => line_any (shortC c) HC.out.small HC.out.fit wx hx)
  have HLD := hid (fun wx hx => line_any (shortC d) HD.out.small HD.out.fit wx hx)
  have HEQ := hid (fun wx => eql_cmd (shortC c) (shortC d) HC.out.fit HD.out.fit wx)
  have HSC := hid (fun wx => short_any c wx)
  have HSD := hid (fun wx => short_any d wx)
  have H01 := hid (lineR_01 (shortC c))
  have H02 := hid (lineR_01 (shortC d))
  generalize hcs : shortC c = cs at *
  generalize hds : shortC d = ds at *
  obtain ⟨⟨LC, EC⟩, hlc⟩ : ∃ x, lineR cs = x := ⟨_, rfl⟩
  obtain ⟨⟨LD, ED⟩, hld⟩ : ∃ x, lineR ds = x := ⟨_, rfl⟩
  rw [hlc, hld] at HLAW HLAW2
  rw [hlc] at HLC H01
  rw [hld] at HLD H02
  dsimp only at HLAW HLAW2 HLC HLD H01 H02
  obtain ⟨r, hr⟩ : ∃ r, decide (cs = ds) = r := ⟨_, rfl⟩
  rw [hr] at HEQ HLAW
  obtain ⟨x0, x1, x2, x3, x4, x5, x6⟩ := cs
  obtain ⟨y0, y1, y2, y3, y4, y5, y6⟩ := ds
  clear hcs hds hlc hld hr hc hd hv e1
  unfold cmdV cmdC at *
  dsimp only at *
  go_enter Tryd.func5, Tryd.ntmps5
  go_wp2_with fail
  rw [← hW1]
  clear hW1
  refine HSH.out.mono ?_
  rintro e w2 ⟨rfl, hf⟩
  have F2 := hid (F1.out.tr hf)
  have C2 := hid (show CmdAt w2 w.heap.size c from C1.out.fr hf (fun x => x))
  have D2 := hid (show CmdAt w2 (w.heap.size + 1) d from D1.out.fr hf (fun x => x))
  clear hf C1 D1 F1
  obtain ⟨c0, c1, c2, c3, c4, c5, c6⟩ := C2.out.cells
  obtain ⟨r0, r1, r2, r3, r4, r5, r6⟩ := C2.out.froz
  go_wp2_with fail
  refine (HSC.out _).mono ?_
  rintro e w3 ⟨rfl, hf⟩
  have F3 := hid (F2.out.tr hf)
  have C3 := hid (show CmdAt w3 w.heap.size c from C2.out.fr hf (fun x => x))
  have D3 := hid (show CmdAt w3 (w.heap.size + 1) d from D2.out.fr hf (fun x => x))
  clear hf C2 D2 F2 c0 c1 c2 c3 c4 c5 c6 r0 r1 r2 r3 r4 r5 r6
  obtain ⟨c0, c1, c2, c3, c4, c5, c6⟩ := C3.out.cells
  obtain ⟨r0, r1, r2, r3, r4, r5, r6⟩ := C3.out.froz
  have C4 := hid (set_cmd C3.out x0 x1 x2 x3 x4 x5 x6)
  have F4 := hid (set_cmd_fr F3.out (Nat.le_refl _) x0 x1 x2 x3 x4 x5 x6)
  have D4 := hid (show CmdAt (((((((w3.setCell ⟨w.heap.size, 0, none⟩ (.string x0)).setCell ⟨w.heap.size, 1, none⟩ (.string x1)).setCell ⟨w.heap.size, 2, none⟩ (.string x2)).setCell ⟨w.heap.size, 3, none⟩ (.int .i64 x3)).setCell ⟨w.heap.size, 4, none⟩ (.int .i64 x4)).setCell ⟨w.heap.size, 5, none⟩ (.int .i64 x5)).setCell ⟨w.heap.size, 6, none⟩ (.string x6)) (w.heap.size + 1) d from by
    have hne : w.heap.size + 1 ≠ w.heap.size := by omega
    exact ((((((D3.out.far (p := ⟨w.heap.size, 0, none⟩) hne _).far (p := ⟨w.heap.size, 1, none⟩) hne _).far (p := ⟨w.heap.size, 2, none⟩) hne _).far (p := ⟨w.heap.size, 3, none⟩) hne _).far (p := ⟨w.heap.size, 4, none⟩) hne _).far (p := ⟨w.heap.size, 5, none⟩) hne _).far (p := ⟨w.heap.size, 6, none⟩) hne _)
  obtain ⟨d0, d1, d2, d3, d4, d5, d6⟩ := D4.out.cells
  go_wp2_with fail
  clear c0 c1 c2 c3 c4 c5 c6 r0 r1 r2 r3 r4 r5 r6 C3 D3 F3 d0 d1 d2 d3 d4 d5 d6
  generalize ((((((w3.setCell _ _).setCell _ _).setCell _ _).setCell _ _).setCell _ _).setCell _ _).setCell _ _ = w4 at *
  refine (HSD.out _).mono ?_
  rintro e w5 ⟨rfl, hf⟩
  have F5 := hid (F4.out.tr hf)
  have C5 := hid (show CmdAt w5 w.heap.size ⟨x0, x1, x2, x3, x4, x5, x6⟩ from C4.out.fr hf (fun x => x))
  have D5 := hid (show CmdAt w5 (w.heap.size + 1) d from D4.out.fr hf (fun x => x))
  clear hf C4 D4 F4
  obtain ⟨c0, c1, c2, c3, c4, c5, c6⟩ := D5.out.cells
  obtain ⟨r0, r1, r2, r3, r4, r5, r6⟩ := D5.out.froz
  have D6 := hid (set_cmd D5.out y0 y1 y2 y3 y4 y5 y6)
  have F6 := hid (set_cmd_fr F5.out (Nat.le_succ _) y0 y1 y2 y3 y4 y5 y6)
  have C6 := hid (show CmdAt (((((((w5.setCell ⟨w.heap.size + 1, 0, none⟩ (.string y0)).setCell ⟨w.heap.size + 1, 1, none⟩ (.string y1)).setCell ⟨w.heap.size + 1, 2, none⟩ (.string y2)).setCell ⟨w.heap.size + 1, 3, none⟩ (.int .i64 y3)).setCell ⟨w.heap.size + 1, 4, none⟩ (.int .i64 y4)).setCell ⟨w.heap.size + 1, 5, none⟩ (.int .i64 y5)).setCell ⟨w.heap.size + 1, 6, none⟩ (.string y6)) w.heap.size ⟨x0, x1, x2, x3, x4, x5, x6⟩ from by
    have hne : w.heap.size ≠ w.heap.size + 1 := by omega
    exact ((((((C5.out.far (p := ⟨w.heap.size + 1, 0, none⟩) hne _).far (p := ⟨w.heap.size + 1, 1, none⟩) hne _).far (p := ⟨w.heap.size + 1, 2, none⟩) hne _).far (p := ⟨w.heap.size + 1, 3, none⟩) hne _).far (p := ⟨w.heap.size + 1, 4, none⟩) hne _).far (p := ⟨w.heap.size + 1, 5, none⟩) hne _).far (p := ⟨w.heap.size + 1, 6, none⟩) hne _)
  obtain ⟨d0, d1, d2, d3, d4, d5, d6⟩ := C6.out.cells
  dsimp only at d0 d1 d2 d3 d4 d5 d6
  go_wp2_with fail
  clear c0 c1 c2 c3 c4 c5 c6 r0 r1 r2 r3 r4 r5 r6 C5 D5 F5 d0 d1 d2 d3 d4 d5 d6
  generalize ((((((w5.setCell _ _).setCell _ _).setCell _ _).setCell _ _).setCell _ _).setCell _ _).setCell _ _ = w6 at *
  refine (HLC.out _ (HV.out.fr F6.out)).mono ?_
  rintro e w7 ⟨rfl, hf⟩
  have F7 := hid (F6.out.tr hf)
  have C7 := hid (show CmdAt w7 w.heap.size ⟨x0, x1, x2, x3, x4, x5, x6⟩ from C6.out.fr hf (fun x => x))
  have D7 := hid (show CmdAt w7 (w.heap.size + 1) ⟨y0, y1, y2, y3, y4, y5, y6⟩ from D6.out.fr hf (fun x => x))
  clear hf C6 D6 F6
  obtain ⟨d0, d1, d2, d3, d4, d5, d6⟩ := D7.out.cells
  dsimp only at d0 d1 d2 d3 d4 d5 d6
  go_wp2_with fail
  clear d0 d1 d2 d3 d4 d5 d6
  refine (HLD.out _ (HV.out.fr F7.out)).mono ?_
  rintro e w8 ⟨rfl, hf⟩
  have F8 := hid (F7.out.tr hf)
  have C8 := hid (show CmdAt w8 w.heap.size ⟨x0, x1, x2, x3, x4, x5, x6⟩ from C7.out.fr hf (fun x => x))
  have D8 := hid (show CmdAt w8 (w.heap.size + 1) ⟨y0, y1, y2, y3, y4, y5, y6⟩ from D7.out.fr hf (fun x => x))
  clear hf C7 D7 F7
  obtain ⟨c0, c1, c2, c3, c4, c5, c6⟩ := C8.out.cells
  obtain ⟨d0, d1, d2, d3, d4, d5, d6⟩ := D8.out.cells
  dsimp only at c0 c1 c2 c3 c4 c5 c6 d0 d1 d2 d3 d4 d5 d6
  rcases H01.out with h1 | h1 <;> rcases H02.out with h2 | h2
  · subst h1
    subst h2
    have hab := HLAW.out.1 rfl rfl
    have hab2 : (LC.toList == LD.toList) = r := by rw [eq_bytes]; exact hab
    have heq := HEQ.out
    clear hab
    cases r with
    | false =>
      go_wp2_with fail
      go_ret
      exact ⟨rfl, F8.out⟩
    | true =>
      go_wp2_with fail
      go_ret
      exact ⟨rfl, F8.out⟩
  · subst h1
    subst h2
    have e2 := HLAW2.out.2 (by decide)
    injection e2 with e2 _
    subst e2
    go_wp2_with fail
    go_ret
    exact ⟨rfl, F8.out⟩
  · subst h1
    subst h2
    have e1 := HLAW.out.2 (by decide)
    injection e1 with e1 _
    subst e1
    go_wp2_with fail
    go_ret
    exact ⟨rfl, F8.out⟩
  · subst h1
    subst h2
    have e1 := HLAW.out.2 (by decide)
    injection e1 with e1 _
    subst e1
    have e2 := HLAW2.out.2 (by decide)
    injection e2 with e2 _
    subst e2
    go_wp2_with fail
    go_ret
    exact ⟨rfl, F8.out⟩
end Go.Proofs.YtngnipjfjhackaaDoor
