/- Words: the map of shapes, made. -/
import Derived.Test.YtngnipjfjhackaaDoorWdO
namespace Go.Proofs.YtngnipjfjhackaaDoor
open Go.RowKit Go.MapKept
set_option linter.unusedVariables false
set_option linter.unusedSimpArgs false
set_option maxHeartbeats 4000000 in
set_option maxRecDepth 100000 in
theorem shapes_any (w : World) : Calls Tryd.prog 12 #[] w fun e w' => ∃ b1 b2 b3 b4 r E, e = .returned (.map (some r)) ∧ SW w w' b1 b2 b3 b4 r E shapesL := by
  have HNA := hid (fun wx => name_any 16 wx)
  have HNB := hid (fun wx => name_any 17 wx)
  have HNN := hid (fun wx => number_any wx)
  have HNV := hid (fun wx => quotedW_any wx)
  unfold fnV at HNA HNB
  go_enter Tryd.func12, Tryd.ntmps12
  go_wp2_with fail
  refine (HNA.out _).mono ?_
  rintro e w1 ⟨P1, T1, rfl, ⟨ao, af, rfl, rfl, hao, haf⟩, hf⟩
  have F1 := hid hf
  have NA := hid (And.intro hao haf)
  clear hf hao haf
  unfold ptrV
  go_wp2_with fail
  have K1 := hid (Blk.new w1 47 #[nameP ao af, nameT ao af])
  unfold nameP nameT at K1
  have G1 := hid (F1.out.alloc (.cells #[nameP ao af, nameT ao af] 47))
  unfold nameP nameT at G1
  have HAO := hid (And.intro (NA.out.1.alloc (.cells #[nameP ao af, nameT ao af] 47)) (NA.out.2.alloc (.cells #[nameP ao af, nameT ao af] 47)))
  unfold nameP nameT at HAO
  clear NA
  generalize hb1 : w1.heap.size = b1 at *
  clear hb1
  generalize hw2 : w1.alloc _ = w2 at *
  clear hw2
  refine (HNB.out _).mono ?_
  rintro e w3 ⟨P1, T1, rfl, ⟨bo, bf, rfl, rfl, hbo, hbf⟩, hf⟩
  have K13 := hid (K1.out.fr hf (fun x => x))
  have G3 := hid (G1.out.tr hf)
  have HAO3 := hid (And.intro (HAO.out.1.fr hf (fun x => x)) (HAO.out.2.fr hf (fun x => x)))
  have NB := hid (And.intro hbo hbf)
  clear hf hbo hbf
  unfold ptrV
  go_wp2_with fail
  have K2 := hid (Blk.new w3 47 #[nameP bo bf, nameT bo bf])
  unfold nameP nameT at K2
  have A4 := hid (show Fr nob w3 (w3.alloc (.cells #[nameP bo bf, nameT bo bf] 47)) from (Fr.refl nob w3).alloc _)
  unfold nameP nameT at A4
  generalize hb2 : w3.heap.size = b2 at *
  clear hb2
  generalize hw4 : w3.alloc _ = w4 at *
  clear hw4
  refine (HNN.out _).mono ?_
  rintro e w5 ⟨rfl, hf5⟩
  have F5 := hid hf5
  clear hf5
  go_wp2_with fail
  refine (HNV.out _).mono ?_
  rintro e w6 ⟨rfl, hf6⟩
  have F6 := hid (A4.out.tr (F5.out.tr hf6))
  have F46 := hid (F5.out.tr hf6)
  clear hf6
  unfold numP numT valP valT
  go_wp2_with fail
  have K3 := hid (Blk.new w6 47 #[numP, numT])
  have K4 := hid (Blk.new (w6.alloc (.cells #[numP, numT] 47)) 47 #[valP, valT])
  have e6 : (w6.alloc (.cells #[numP, numT] 47)).heap.size = w6.heap.size + 1 := by simp
  rw [e6] at K4
  clear e6
  obtain ⟨r, Wm, hmm, S0⟩ := SW.start (w0 := w) (b1 := b1) (b2 := b2) (b3 := w6.heap.size) (b4 := w6.heap.size + 1) (E := ⟨ao, af, bo, bf⟩) (((G3.out.tr F6.out).alloc (.cells #[numP, numT] 47)).alloc (.cells #[valP, valT] 47))
    (((K13.out.fr F6.out (fun x => x)).alloc _).alloc _) (((K2.out.fr F46.out (fun x => x)).alloc _).alloc _) (K3.out.alloc _) K4.out
    ⟨((HAO3.out.1.fr F6.out (fun x => x)).alloc _).alloc _, ((HAO3.out.2.fr F6.out (fun x => x)).alloc _).alloc _, ((NB.out.1.fr F6.out (fun x => x)).alloc _).alloc _, ((NB.out.2.fr F6.out (fun x => x)).alloc _).alloc _⟩
  clear K1 K2 K3 K4 K13 A4 F1 F5 F6 F46 G1 G3 HAO HAO3 NB
  unfold numP numT valP valT at hmm
  generalize hb3 : w6.heap.size = b3 at *
  generalize hb4 : b3 + 1 = b4 at *
  clear hb3 hb4
  generalize (w6.alloc _).alloc _ = W1 at *
  obtain ⟨w7, i7, S7, -, -⟩ := S0.ins ⟨#[116, 97, 107, 101]⟩ [.a, .n] rfl (by decide) (by decide)
  obtain ⟨w8, i8, S8, -, -⟩ := S7.ins ⟨#[115, 101, 116]⟩ [.a, .v] rfl (by decide) (by decide)
  obtain ⟨w9, i9, S9, -, -⟩ := S8.ins ⟨#[102, 111, 114, 107]⟩ [.a, .b, .v] rfl (by decide) (by decide)
  have j7 : (Instr.mapUpdate 42 (.map (some r)) (.string ⟨#[116, 97, 107, 101]⟩) (.slice (some ⟨Wm.heap.size, 0, none⟩) 2 2)).run Tryd.prog (Wm.alloc (.cells #[nameP ao af, nameT ao af, numP, numT] 47)) = .ok () w7 := i7
  have j8 : (Instr.mapUpdate 42 (.map (some r)) (.string ⟨#[115, 101, 116]⟩) (.slice (some ⟨w7.heap.size, 0, none⟩) 2 2)).run Tryd.prog (w7.alloc (.cells #[nameP ao af, nameT ao af, valP, valT] 47)) = .ok () w8 := i8
  have j9 : (Instr.mapUpdate 42 (.map (some r)) (.string ⟨#[102, 111, 114, 107]⟩) (.slice (some ⟨w8.heap.size, 0, none⟩) 3 3)).run Tryd.prog (w8.alloc (.cells #[nameP ao af, nameT ao af, nameP bo bf, nameT bo bf, valP, valT] 47)) = .ok () w9 := i9
  clear i7 i8 i9
  obtain ⟨p1, p2, _, _, p5, p6, _, _⟩ := S0.cells
  obtain ⟨q1, q2, _, _, _, _, q7, q8⟩ := S7.cells
  obtain ⟨r1, r2, r3, r4, _, _, r7, r8⟩ := S8.cells
  unfold nameP nameT numP numT valP valT at *
  dsimp only at *
  have S := hid S9
  clear S0 S7 S8 S9
  rw [hmm]
  go_wp2_with fail
  have Q0 := hid (Blk.new w9 9 #[.string ⟨#[115, 116, 101, 112]⟩, .string ⟨#[98, 97, 99, 107]⟩, .string ⟨#[115, 104, 111, 119]⟩, .string ⟨#[108, 105, 115, 116]⟩])
  have S0 := hid (S.out.alloc (.cells #[.string ⟨#[115, 116, 101, 112]⟩, .string ⟨#[98, 97, 99, 107]⟩, .string ⟨#[115, 104, 111, 119]⟩, .string ⟨#[108, 105, 115, 116]⟩] 9))
  clear S
  generalize hK : w9.heap.size = K0 at *
  clear hK
  generalize w9.alloc _ = wl at *
  go_loopw [32] (fun i wr => ∃ j : Nat, j ≤ 4 ∧ i = .int .i64 j ∧ Hid (SW w wr b1 b2 b3 b4 r ⟨ao, af, bo, bf⟩ ([(⟨#[116, 97, 107, 101]⟩, [.a, .n]), (⟨#[115, 101, 116]⟩, [.a, .v]), (⟨#[102, 111, 114, 107]⟩, [.a, .b, .v])] ++ (([⟨#[115, 116, 101, 112]⟩, ⟨#[98, 97, 99, 107]⟩, ⟨#[115, 104, 111, 119]⟩, ⟨#[108, 105, 115, 116]⟩] : List ByteArray).take j).map fun k => (k, []))) ∧ Hid (Blk wr K0 9 #[.string ⟨#[115, 116, 101, 112]⟩, .string ⟨#[98, 97, 99, 107]⟩, .string ⟨#[115, 104, 111, 119]⟩, .string ⟨#[108, 105, 115, 116]⟩])) (fun i _ => 4 - (intOf i).toNat)
  case atStart => exact ⟨0, by decide, rfl, S0, Q0⟩
  case round =>
    clear S0 Q0
    obtain ⟨j, hj, rfl, S, Q⟩ := hrel
    rcases (show j = 0 ∨ j = 1 ∨ j = 2 ∨ j = 3 ∨ j = 4 by omega) with rfl | rfl | rfl | rfl | rfl
    · obtain ⟨wn, j1, S1, fb, -⟩ := S.out.ins0 ⟨#[115, 116, 101, 112]⟩ rfl
      have q1 : wr.cell? ⟨K0, 0, none⟩ = some (.string ⟨#[115, 116, 101, 112]⟩) := by simpa using Q.out.cell 0
      have Q1 := hid (fb _ _ _ Q.out)
      have S2 := hid S1
      clear fb S S1 Q
      go_wp2_with fail
      go_roundw
      case rel => exact ⟨1, by decide, rfl, S2, Q1⟩
      case measure => simp [intOf]
    · obtain ⟨wn, j1, S1, fb, -⟩ := S.out.ins0 ⟨#[98, 97, 99, 107]⟩ rfl
      have q1 : wr.cell? ⟨K0, 1, none⟩ = some (.string ⟨#[98, 97, 99, 107]⟩) := by simpa using Q.out.cell 1
      have Q1 := hid (fb _ _ _ Q.out)
      have S2 := hid S1
      clear fb S S1 Q
      go_wp2_with fail
      go_roundw
      case rel => exact ⟨2, by decide, rfl, S2, Q1⟩
      case measure => simp [intOf]
    · obtain ⟨wn, j1, S1, fb, -⟩ := S.out.ins0 ⟨#[115, 104, 111, 119]⟩ rfl
      have q1 : wr.cell? ⟨K0, 2, none⟩ = some (.string ⟨#[115, 104, 111, 119]⟩) := by simpa using Q.out.cell 2
      have Q1 := hid (fb _ _ _ Q.out)
      have S2 := hid S1
      clear fb S S1 Q
      go_wp2_with fail
      go_roundw
      case rel => exact ⟨3, by decide, rfl, S2, Q1⟩
      case measure => simp [intOf]
    · obtain ⟨wn, j1, S1, fb, -⟩ := S.out.ins0 ⟨#[108, 105, 115, 116]⟩ rfl
      have q1 : wr.cell? ⟨K0, 3, none⟩ = some (.string ⟨#[108, 105, 115, 116]⟩) := by simpa using Q.out.cell 3
      have Q1 := hid (fb _ _ _ Q.out)
      have S2 := hid S1
      clear fb S S1 Q
      go_wp2_with fail
      go_roundw
      case rel => exact ⟨4, by decide, rfl, S2, Q1⟩
      case measure => simp [intOf]
    · replace S := hid (show SW w wr b1 b2 b3 b4 r ⟨ao, af, bo, bf⟩ [(⟨#[116, 97, 107, 101]⟩, [.a, .n]), (⟨#[115, 101, 116]⟩, [.a, .v]), (⟨#[102, 111, 114, 107]⟩, [.a, .b, .v]), (⟨#[115, 116, 101, 112]⟩, []), (⟨#[98, 97, 99, 107]⟩, []), (⟨#[115, 104, 111, 119]⟩, []), (⟨#[108, 105, 115, 116]⟩, [])] from S.out)
      clear Q
      go_wp2_with fail
      have Q0 := hid (Blk.new wr 9 #[.string ⟨#[103, 111]⟩, .string ⟨#[105, 110, 112, 117, 116]⟩, .string ⟨#[108, 105, 110, 101]⟩])
      have S0 := hid (S.out.alloc (.cells #[.string ⟨#[103, 111]⟩, .string ⟨#[105, 110, 112, 117, 116]⟩, .string ⟨#[108, 105, 110, 101]⟩] 9))
      clear S
      generalize hK : wr.heap.size = K1 at *
      clear hK
      generalize wr.alloc _ = wl at *
      go_loopw [41] (fun i wr => ∃ j : Nat, j ≤ 3 ∧ i = .int .i64 j ∧ Hid (SW w wr b1 b2 b3 b4 r ⟨ao, af, bo, bf⟩ ([(⟨#[116, 97, 107, 101]⟩, [.a, .n]), (⟨#[115, 101, 116]⟩, [.a, .v]), (⟨#[102, 111, 114, 107]⟩, [.a, .b, .v]), (⟨#[115, 116, 101, 112]⟩, []), (⟨#[98, 97, 99, 107]⟩, []), (⟨#[115, 104, 111, 119]⟩, []), (⟨#[108, 105, 115, 116]⟩, [])] ++ (([⟨#[103, 111]⟩, ⟨#[105, 110, 112, 117, 116]⟩, ⟨#[108, 105, 110, 101]⟩] : List ByteArray).take j).map fun k => (k, [.n]))) ∧ Hid (Blk wr K1 9 #[.string ⟨#[103, 111]⟩, .string ⟨#[105, 110, 112, 117, 116]⟩, .string ⟨#[108, 105, 110, 101]⟩])) (fun i _ => 3 - (intOf i).toNat)
      case atStart => exact ⟨0, by decide, rfl, S0, Q0⟩
      case round =>
        clear S0 Q0
        obtain ⟨j, hj, rfl, S, Q⟩ := hrel
        rcases (show j = 0 ∨ j = 1 ∨ j = 2 ∨ j = 3 by omega) with rfl | rfl | rfl | rfl
        · obtain ⟨wn, i1, S1, fb, -⟩ := S.out.ins ⟨#[103, 111]⟩ [.n] rfl (by decide) (by decide)
          have j1 : (Instr.mapUpdate 42 (.map (some r)) (.string ⟨#[103, 111]⟩) (.slice (some ⟨wr.heap.size, 0, none⟩) 1 1)).run Tryd.prog (wr.alloc (.cells #[.func (.func 30) #[] #[], .func (.func 32) #[] #[]] 47)) = .ok () wn := i1
          obtain ⟨-, -, -, -, c5, c6, -, -⟩ := S.out.cells
          simp only [nameP, nameT, numP, numT] at c5 c6
          clear i1
          have q1 : wr.cell? ⟨K1, 0, none⟩ = some (.string ⟨#[103, 111]⟩) := by simpa using Q.out.cell 0
          have Q1 := hid (fb _ _ _ Q.out)
          have S2 := hid S1
          clear fb S S1 Q
          go_wp2_with fail
          go_roundw
          case rel => exact ⟨1, by decide, rfl, S2, Q1⟩
          case measure => simp [intOf]
        · obtain ⟨wn, i1, S1, fb, -⟩ := S.out.ins ⟨#[105, 110, 112, 117, 116]⟩ [.n] rfl (by decide) (by decide)
          have j1 : (Instr.mapUpdate 42 (.map (some r)) (.string ⟨#[105, 110, 112, 117, 116]⟩) (.slice (some ⟨wr.heap.size, 0, none⟩) 1 1)).run Tryd.prog (wr.alloc (.cells #[.func (.func 30) #[] #[], .func (.func 32) #[] #[]] 47)) = .ok () wn := i1
          obtain ⟨-, -, -, -, c5, c6, -, -⟩ := S.out.cells
          simp only [nameP, nameT, numP, numT] at c5 c6
          clear i1
          have q1 : wr.cell? ⟨K1, 1, none⟩ = some (.string ⟨#[105, 110, 112, 117, 116]⟩) := by simpa using Q.out.cell 1
          have Q1 := hid (fb _ _ _ Q.out)
          have S2 := hid S1
          clear fb S S1 Q
          go_wp2_with fail
          go_roundw
          case rel => exact ⟨2, by decide, rfl, S2, Q1⟩
          case measure => simp [intOf]
        · obtain ⟨wn, i1, S1, fb, -⟩ := S.out.ins ⟨#[108, 105, 110, 101]⟩ [.n] rfl (by decide) (by decide)
          have j1 : (Instr.mapUpdate 42 (.map (some r)) (.string ⟨#[108, 105, 110, 101]⟩) (.slice (some ⟨wr.heap.size, 0, none⟩) 1 1)).run Tryd.prog (wr.alloc (.cells #[.func (.func 30) #[] #[], .func (.func 32) #[] #[]] 47)) = .ok () wn := i1
          obtain ⟨-, -, -, -, c5, c6, -, -⟩ := S.out.cells
          simp only [nameP, nameT, numP, numT] at c5 c6
          clear i1
          have q1 : wr.cell? ⟨K1, 2, none⟩ = some (.string ⟨#[108, 105, 110, 101]⟩) := by simpa using Q.out.cell 2
          have Q1 := hid (fb _ _ _ Q.out)
          have S2 := hid S1
          clear fb S S1 Q
          go_wp2_with fail
          go_roundw
          case rel => exact ⟨3, by decide, rfl, S2, Q1⟩
          case measure => simp [intOf]
        · replace S := hid (show SW w wr b1 b2 b3 b4 r ⟨ao, af, bo, bf⟩ [(⟨#[116, 97, 107, 101]⟩, [.a, .n]), (⟨#[115, 101, 116]⟩, [.a, .v]), (⟨#[102, 111, 114, 107]⟩, [.a, .b, .v]), (⟨#[115, 116, 101, 112]⟩, []), (⟨#[98, 97, 99, 107]⟩, []), (⟨#[115, 104, 111, 119]⟩, []), (⟨#[108, 105, 115, 116]⟩, []), (⟨#[103, 111]⟩, [.n]), (⟨#[105, 110, 112, 117, 116]⟩, [.n]), (⟨#[108, 105, 110, 101]⟩, [.n])] from S.out)
          clear Q
          go_wp2_with fail
          have Q0 := hid (Blk.new wr 9 #[.string ⟨#[115, 119, 105, 116, 99, 104]⟩, .string ⟨#[100, 105, 102, 102]⟩, .string ⟨#[102, 105, 114, 115, 116]⟩, .string ⟨#[112, 114, 117, 110, 101]⟩, .string ⟨#[119, 97, 116, 99, 104]⟩])
          have S0 := hid (S.out.alloc (.cells #[.string ⟨#[115, 119, 105, 116, 99, 104]⟩, .string ⟨#[100, 105, 102, 102]⟩, .string ⟨#[102, 105, 114, 115, 116]⟩, .string ⟨#[112, 114, 117, 110, 101]⟩, .string ⟨#[119, 97, 116, 99, 104]⟩] 9))
          clear S
          generalize hK : wr.heap.size = K2 at *
          clear hK
          generalize wr.alloc _ = wl at *
          go_loopw [52] (fun i wr => ∃ j : Nat, j ≤ 5 ∧ i = .int .i64 j ∧ Hid (SW w wr b1 b2 b3 b4 r ⟨ao, af, bo, bf⟩ ([(⟨#[116, 97, 107, 101]⟩, [.a, .n]), (⟨#[115, 101, 116]⟩, [.a, .v]), (⟨#[102, 111, 114, 107]⟩, [.a, .b, .v]), (⟨#[115, 116, 101, 112]⟩, []), (⟨#[98, 97, 99, 107]⟩, []), (⟨#[115, 104, 111, 119]⟩, []), (⟨#[108, 105, 115, 116]⟩, []), (⟨#[103, 111]⟩, [.n]), (⟨#[105, 110, 112, 117, 116]⟩, [.n]), (⟨#[108, 105, 110, 101]⟩, [.n])] ++ (([⟨#[115, 119, 105, 116, 99, 104]⟩, ⟨#[100, 105, 102, 102]⟩, ⟨#[102, 105, 114, 115, 116]⟩, ⟨#[112, 114, 117, 110, 101]⟩, ⟨#[119, 97, 116, 99, 104]⟩] : List ByteArray).take j).map fun k => (k, [.a]))) ∧ Hid (Blk wr K2 9 #[.string ⟨#[115, 119, 105, 116, 99, 104]⟩, .string ⟨#[100, 105, 102, 102]⟩, .string ⟨#[102, 105, 114, 115, 116]⟩, .string ⟨#[112, 114, 117, 110, 101]⟩, .string ⟨#[119, 97, 116, 99, 104]⟩])) (fun i _ => 5 - (intOf i).toNat)
          case atStart => exact ⟨0, by decide, rfl, S0, Q0⟩
          case round =>
            clear S0 Q0
            obtain ⟨j, hj, rfl, S, Q⟩ := hrel
            rcases (show j = 0 ∨ j = 1 ∨ j = 2 ∨ j = 3 ∨ j = 4 ∨ j = 5 by omega) with rfl | rfl | rfl | rfl | rfl | rfl
            · obtain ⟨wn, i1, S1, fb, -⟩ := S.out.ins ⟨#[115, 119, 105, 116, 99, 104]⟩ [.a] rfl (by decide) (by decide)
              have j1 : (Instr.mapUpdate 42 (.map (some r)) (.string ⟨#[115, 119, 105, 116, 99, 104]⟩) (.slice (some ⟨wr.heap.size, 0, none⟩) 1 1)).run Tryd.prog (wr.alloc (.cells #[.func (.func 28) #[] #[.pointer (some ⟨ao, 0, none⟩), .pointer (some ⟨af, 0, none⟩)], .func (.func 29) #[] #[.pointer (some ⟨ao, 0, none⟩), .pointer (some ⟨af, 0, none⟩)]] 47)) = .ok () wn := i1
              obtain ⟨c1, c2, -, -, -, -, -, -⟩ := S.out.cells
              simp only [nameP, nameT, numP, numT] at c1 c2
              clear i1
              have q1 : wr.cell? ⟨K2, 0, none⟩ = some (.string ⟨#[115, 119, 105, 116, 99, 104]⟩) := by simpa using Q.out.cell 0
              have Q1 := hid (fb _ _ _ Q.out)
              have S2 := hid S1
              clear fb S S1 Q
              go_wp2_with fail
              go_roundw
              case rel => exact ⟨1, by decide, rfl, S2, Q1⟩
              case measure => simp [intOf]
            · obtain ⟨wn, i1, S1, fb, -⟩ := S.out.ins ⟨#[100, 105, 102, 102]⟩ [.a] rfl (by decide) (by decide)
              have j1 : (Instr.mapUpdate 42 (.map (some r)) (.string ⟨#[100, 105, 102, 102]⟩) (.slice (some ⟨wr.heap.size, 0, none⟩) 1 1)).run Tryd.prog (wr.alloc (.cells #[.func (.func 28) #[] #[.pointer (some ⟨ao, 0, none⟩), .pointer (some ⟨af, 0, none⟩)], .func (.func 29) #[] #[.pointer (some ⟨ao, 0, none⟩), .pointer (some ⟨af, 0, none⟩)]] 47)) = .ok () wn := i1
              obtain ⟨c1, c2, -, -, -, -, -, -⟩ := S.out.cells
              simp only [nameP, nameT, numP, numT] at c1 c2
              clear i1
              have q1 : wr.cell? ⟨K2, 1, none⟩ = some (.string ⟨#[100, 105, 102, 102]⟩) := by simpa using Q.out.cell 1
              have Q1 := hid (fb _ _ _ Q.out)
              have S2 := hid S1
              clear fb S S1 Q
              go_wp2_with fail
              go_roundw
              case rel => exact ⟨2, by decide, rfl, S2, Q1⟩
              case measure => simp [intOf]
            · obtain ⟨wn, i1, S1, fb, -⟩ := S.out.ins ⟨#[102, 105, 114, 115, 116]⟩ [.a] rfl (by decide) (by decide)
              have j1 : (Instr.mapUpdate 42 (.map (some r)) (.string ⟨#[102, 105, 114, 115, 116]⟩) (.slice (some ⟨wr.heap.size, 0, none⟩) 1 1)).run Tryd.prog (wr.alloc (.cells #[.func (.func 28) #[] #[.pointer (some ⟨ao, 0, none⟩), .pointer (some ⟨af, 0, none⟩)], .func (.func 29) #[] #[.pointer (some ⟨ao, 0, none⟩), .pointer (some ⟨af, 0, none⟩)]] 47)) = .ok () wn := i1
              obtain ⟨c1, c2, -, -, -, -, -, -⟩ := S.out.cells
              simp only [nameP, nameT, numP, numT] at c1 c2
              clear i1
              have q1 : wr.cell? ⟨K2, 2, none⟩ = some (.string ⟨#[102, 105, 114, 115, 116]⟩) := by simpa using Q.out.cell 2
              have Q1 := hid (fb _ _ _ Q.out)
              have S2 := hid S1
              clear fb S S1 Q
              go_wp2_with fail
              go_roundw
              case rel => exact ⟨3, by decide, rfl, S2, Q1⟩
              case measure => simp [intOf]
            · obtain ⟨wn, i1, S1, fb, -⟩ := S.out.ins ⟨#[112, 114, 117, 110, 101]⟩ [.a] rfl (by decide) (by decide)
              have j1 : (Instr.mapUpdate 42 (.map (some r)) (.string ⟨#[112, 114, 117, 110, 101]⟩) (.slice (some ⟨wr.heap.size, 0, none⟩) 1 1)).run Tryd.prog (wr.alloc (.cells #[.func (.func 28) #[] #[.pointer (some ⟨ao, 0, none⟩), .pointer (some ⟨af, 0, none⟩)], .func (.func 29) #[] #[.pointer (some ⟨ao, 0, none⟩), .pointer (some ⟨af, 0, none⟩)]] 47)) = .ok () wn := i1
              obtain ⟨c1, c2, -, -, -, -, -, -⟩ := S.out.cells
              simp only [nameP, nameT, numP, numT] at c1 c2
              clear i1
              have q1 : wr.cell? ⟨K2, 3, none⟩ = some (.string ⟨#[112, 114, 117, 110, 101]⟩) := by simpa using Q.out.cell 3
              have Q1 := hid (fb _ _ _ Q.out)
              have S2 := hid S1
              clear fb S S1 Q
              go_wp2_with fail
              go_roundw
              case rel => exact ⟨4, by decide, rfl, S2, Q1⟩
              case measure => simp [intOf]
            · obtain ⟨wn, i1, S1, fb, -⟩ := S.out.ins ⟨#[119, 97, 116, 99, 104]⟩ [.a] rfl (by decide) (by decide)
              have j1 : (Instr.mapUpdate 42 (.map (some r)) (.string ⟨#[119, 97, 116, 99, 104]⟩) (.slice (some ⟨wr.heap.size, 0, none⟩) 1 1)).run Tryd.prog (wr.alloc (.cells #[.func (.func 28) #[] #[.pointer (some ⟨ao, 0, none⟩), .pointer (some ⟨af, 0, none⟩)], .func (.func 29) #[] #[.pointer (some ⟨ao, 0, none⟩), .pointer (some ⟨af, 0, none⟩)]] 47)) = .ok () wn := i1
              obtain ⟨c1, c2, -, -, -, -, -, -⟩ := S.out.cells
              simp only [nameP, nameT, numP, numT] at c1 c2
              clear i1
              have q1 : wr.cell? ⟨K2, 4, none⟩ = some (.string ⟨#[119, 97, 116, 99, 104]⟩) := by simpa using Q.out.cell 4
              have Q1 := hid (fb _ _ _ Q.out)
              have S2 := hid S1
              clear fb S S1 Q
              go_wp2_with fail
              go_roundw
              case rel => exact ⟨5, by decide, rfl, S2, Q1⟩
              case measure => simp [intOf]
            · replace S := hid (show SW w wr b1 b2 b3 b4 r ⟨ao, af, bo, bf⟩ [(⟨#[116, 97, 107, 101]⟩, [.a, .n]), (⟨#[115, 101, 116]⟩, [.a, .v]), (⟨#[102, 111, 114, 107]⟩, [.a, .b, .v]), (⟨#[115, 116, 101, 112]⟩, []), (⟨#[98, 97, 99, 107]⟩, []), (⟨#[115, 104, 111, 119]⟩, []), (⟨#[108, 105, 115, 116]⟩, []), (⟨#[103, 111]⟩, [.n]), (⟨#[105, 110, 112, 117, 116]⟩, [.n]), (⟨#[108, 105, 110, 101]⟩, [.n]), (⟨#[115, 119, 105, 116, 99, 104]⟩, [.a]), (⟨#[100, 105, 102, 102]⟩, [.a]), (⟨#[102, 105, 114, 115, 116]⟩, [.a]), (⟨#[112, 114, 117, 110, 101]⟩, [.a]), (⟨#[119, 97, 116, 99, 104]⟩, [.a])] from S.out)
              clear Q
              go_wp2_with fail
              have Q0 := hid (Blk.new wr 9 #[.string ⟨#[114, 101, 110, 97, 109, 101]⟩, .string ⟨#[114, 101, 98, 97, 115, 101]⟩])
              have S0 := hid (S.out.alloc (.cells #[.string ⟨#[114, 101, 110, 97, 109, 101]⟩, .string ⟨#[114, 101, 98, 97, 115, 101]⟩] 9))
              clear S
              generalize hK : wr.heap.size = K3 at *
              clear hK
              generalize wr.alloc _ = wl at *
              go_loopw [63] (fun i wr => ∃ j : Nat, j ≤ 2 ∧ i = .int .i64 j ∧ Hid (SW w wr b1 b2 b3 b4 r ⟨ao, af, bo, bf⟩ ([(⟨#[116, 97, 107, 101]⟩, [.a, .n]), (⟨#[115, 101, 116]⟩, [.a, .v]), (⟨#[102, 111, 114, 107]⟩, [.a, .b, .v]), (⟨#[115, 116, 101, 112]⟩, []), (⟨#[98, 97, 99, 107]⟩, []), (⟨#[115, 104, 111, 119]⟩, []), (⟨#[108, 105, 115, 116]⟩, []), (⟨#[103, 111]⟩, [.n]), (⟨#[105, 110, 112, 117, 116]⟩, [.n]), (⟨#[108, 105, 110, 101]⟩, [.n]), (⟨#[115, 119, 105, 116, 99, 104]⟩, [.a]), (⟨#[100, 105, 102, 102]⟩, [.a]), (⟨#[102, 105, 114, 115, 116]⟩, [.a]), (⟨#[112, 114, 117, 110, 101]⟩, [.a]), (⟨#[119, 97, 116, 99, 104]⟩, [.a])] ++ (([⟨#[114, 101, 110, 97, 109, 101]⟩, ⟨#[114, 101, 98, 97, 115, 101]⟩] : List ByteArray).take j).map fun k => (k, [.a, .b]))) ∧ Hid (Blk wr K3 9 #[.string ⟨#[114, 101, 110, 97, 109, 101]⟩, .string ⟨#[114, 101, 98, 97, 115, 101]⟩])) (fun i _ => 2 - (intOf i).toNat)
              case atStart => exact ⟨0, by decide, rfl, S0, Q0⟩
              case round =>
                clear S0 Q0
                obtain ⟨j, hj, rfl, S, Q⟩ := hrel
                rcases (show j = 0 ∨ j = 1 ∨ j = 2 by omega) with rfl | rfl | rfl
                · obtain ⟨wn, i1, S1, fb, -⟩ := S.out.ins ⟨#[114, 101, 110, 97, 109, 101]⟩ [.a, .b] rfl (by decide) (by decide)
                  have j1 : (Instr.mapUpdate 42 (.map (some r)) (.string ⟨#[114, 101, 110, 97, 109, 101]⟩) (.slice (some ⟨wr.heap.size, 0, none⟩) 2 2)).run Tryd.prog (wr.alloc (.cells #[.func (.func 28) #[] #[.pointer (some ⟨ao, 0, none⟩), .pointer (some ⟨af, 0, none⟩)], .func (.func 29) #[] #[.pointer (some ⟨ao, 0, none⟩), .pointer (some ⟨af, 0, none⟩)], .func (.func 28) #[] #[.pointer (some ⟨bo, 0, none⟩), .pointer (some ⟨bf, 0, none⟩)], .func (.func 29) #[] #[.pointer (some ⟨bo, 0, none⟩), .pointer (some ⟨bf, 0, none⟩)]] 47)) = .ok () wn := i1
                  obtain ⟨c1, c2, c3, c4, -, -, -, -⟩ := S.out.cells
                  simp only [nameP, nameT, numP, numT] at c1 c2 c3 c4
                  clear i1
                  have q1 : wr.cell? ⟨K3, 0, none⟩ = some (.string ⟨#[114, 101, 110, 97, 109, 101]⟩) := by simpa using Q.out.cell 0
                  have Q1 := hid (fb _ _ _ Q.out)
                  have S2 := hid S1
                  clear fb S S1 Q
                  go_wp2_with fail
                  go_roundw
                  case rel => exact ⟨1, by decide, rfl, S2, Q1⟩
                  case measure => simp [intOf]
                · obtain ⟨wn, i1, S1, fb, -⟩ := S.out.ins ⟨#[114, 101, 98, 97, 115, 101]⟩ [.a, .b] rfl (by decide) (by decide)
                  have j1 : (Instr.mapUpdate 42 (.map (some r)) (.string ⟨#[114, 101, 98, 97, 115, 101]⟩) (.slice (some ⟨wr.heap.size, 0, none⟩) 2 2)).run Tryd.prog (wr.alloc (.cells #[.func (.func 28) #[] #[.pointer (some ⟨ao, 0, none⟩), .pointer (some ⟨af, 0, none⟩)], .func (.func 29) #[] #[.pointer (some ⟨ao, 0, none⟩), .pointer (some ⟨af, 0, none⟩)], .func (.func 28) #[] #[.pointer (some ⟨bo, 0, none⟩), .pointer (some ⟨bf, 0, none⟩)], .func (.func 29) #[] #[.pointer (some ⟨bo, 0, none⟩), .pointer (some ⟨bf, 0, none⟩)]] 47)) = .ok () wn := i1
                  obtain ⟨c1, c2, c3, c4, -, -, -, -⟩ := S.out.cells
                  simp only [nameP, nameT, numP, numT] at c1 c2 c3 c4
                  clear i1
                  have q1 : wr.cell? ⟨K3, 1, none⟩ = some (.string ⟨#[114, 101, 98, 97, 115, 101]⟩) := by simpa using Q.out.cell 1
                  have Q1 := hid (fb _ _ _ Q.out)
                  have S2 := hid S1
                  clear fb S S1 Q
                  go_wp2_with fail
                  go_roundw
                  case rel => exact ⟨2, by decide, rfl, S2, Q1⟩
                  case measure => simp [intOf]
                · replace S := hid (show SW w wr b1 b2 b3 b4 r ⟨ao, af, bo, bf⟩ [(⟨#[116, 97, 107, 101]⟩, [.a, .n]), (⟨#[115, 101, 116]⟩, [.a, .v]), (⟨#[102, 111, 114, 107]⟩, [.a, .b, .v]), (⟨#[115, 116, 101, 112]⟩, []), (⟨#[98, 97, 99, 107]⟩, []), (⟨#[115, 104, 111, 119]⟩, []), (⟨#[108, 105, 115, 116]⟩, []), (⟨#[103, 111]⟩, [.n]), (⟨#[105, 110, 112, 117, 116]⟩, [.n]), (⟨#[108, 105, 110, 101]⟩, [.n]), (⟨#[115, 119, 105, 116, 99, 104]⟩, [.a]), (⟨#[100, 105, 102, 102]⟩, [.a]), (⟨#[102, 105, 114, 115, 116]⟩, [.a]), (⟨#[112, 114, 117, 110, 101]⟩, [.a]), (⟨#[119, 97, 116, 99, 104]⟩, [.a]), (⟨#[114, 101, 110, 97, 109, 101]⟩, [.a, .b]), (⟨#[114, 101, 98, 97, 115, 101]⟩, [.a, .b])] from S.out)
                  clear Q
                  go_wp2_with fail
                  go_ret
                  exact ⟨b1, b2, b3, b4, r, ⟨ao, af, bo, bf⟩, rfl, S.out⟩
end Go.Proofs.YtngnipjfjhackaaDoor
