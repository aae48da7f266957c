/- Words: WordsBools, the walk. -/
import Derived.Test.YtngnipjfjhackaaDoorWdVX
import Derived.Test.YtngnipjfjhackaaDoorWdBP
namespace Go.Proofs.YtngnipjfjhackaaDoor
open Go.RowKit Go.MapKept
set_option linter.unusedVariables false
set_option linter.unusedSimpArgs false
set_option maxHeartbeats 4000000 in
set_option maxRecDepth 100000 in
theorem bools_walk (name : ByteArray) (hvs : name.size ≤ 281474976710656) (w : World) (hv : VarsM w) :
    Calls Tryd.prog 4 #[.string name] w fun e w' => e = .returned (.bool true) ∧ Fr nob w w' := by
  have HSH := hid (shown_any w hv)
  have HV := hid hv
  obtain ⟨s, hs⟩ : ∃ s, s = cut30 name := ⟨_, rfl⟩
  have hs30 : s.size ≤ 30 := by rw [hs]; exact cut30_size name
  have z1 : ¬ 9223372036854775807 < 4 + s.size := by omega
  have z2 : ¬ 9223372036854775807 < 4 + s.size + 5 := by omega
  have z3 : ¬ 9223372036854775807 < 4 + s.size + 6 := by omega
  have RT := hid (set_read s hs30 [116, 114, 117, 101] (by decide) (by decide))
  have RF := hid (set_read s hs30 [102, 97, 108, 115, 101] (by decide) (by decide))
  have RL := hid (set_read s hs30 [108, 105, 115, 116] (by decide) (by decide))
  rw [read_true_s] at RT
  rw [read_false_s] at RF
  rw [read_list_s] at RL
  have hb : ∀ t : List UInt8, t.length ≤ 10 → (⟨#[115, 101, 116, 32]⟩ ++ s ++ bsW (32 :: t) : ByteArray).size ≤ 1000 := fun t ht => by
    rw [ByteArray.size_append, ByteArray.size_append]
    have h1 : (bsW (32 :: t)).size = t.length + 1 := by
      unfold bsW; show (32 :: t).toArray.size = _
      simp
    have h2 : (⟨#[115, 101, 116, 32]⟩ : ByteArray).size = 4 := rfl
    omega
  have HT := hid (fun wx hx => read_line (⟨#[115, 101, 116, 32]⟩ ++ s ++ bsW (32 :: [116, 114, 117, 101])) (hb _ (by decide)) wx hx)
  have HF := hid (fun wx hx => read_line (⟨#[115, 101, 116, 32]⟩ ++ s ++ bsW (32 :: [102, 97, 108, 115, 101])) (hb _ (by decide)) wx hx)
  have HL := hid (fun wx hx => read_line (⟨#[115, 101, 116, 32]⟩ ++ s ++ bsW (32 :: [108, 105, 115, 116])) (hb _ (by decide)) wx hx)
  rw [RT.out] at HT
  rw [RF.out] at HF
  rw [RL.out] at HL
  dsimp only at HT HF HL
  have hfe := fineJ_end s
  have HFE := hid hfe
  unfold cut30 at hs
  clear hv hb hfe RT RF RL
  have one0 : ∀ b : Bool, b = (decide (1 ≤ s.size) && decide (s.size ≤ 20)) → Value.bool b = .bool (fineJ s 0) := fun b hb => by
    unfold fineJ
    rw [← hb]; simp
  have ONE := hid one0
  clear one0
  by_cases h30 : 30 < name.size
  case' pos =>
    rw [if_pos h30] at hs
    have h30i : (30 : Int) < (name.size : Int) := by omega
    have h30j : (30 : Int) ≤ (name.size : Int) := by omega
    have hsz : s.size = 30 := by rw [hs, ByteArray.size_extract]; omega
    have k1 : (1 : Int) ≤ (s.size : Int) := by omega
    have k1' : ¬ (s.size : Int) < 1 := by omega
    have HS := hid hs
    have ONE2 := hid (show ∀ b : Bool, b = decide ((s.size : Int) ≤ 20) → Value.bool b = .bool (fineJ s 0) from fun b hb => ONE.out b (by rw [hb, hsz]; rfl))
    go_enter Tryd.func4, Tryd.ntmps4
    go_wp2_with fail
    refine HSH.out.mono ?_
    rintro e w2 ⟨rfl, hf⟩
    have F2 := hid hf
    clear hf
    rw [hs] at k1 k1'
    go_wp2_with fail
    rw [← HS.out]
    have HSZ := hid hsz
    clear HS hs hsz ONE
  case' neg =>
    rw [if_neg h30] at hs
    have h30i : ¬ (30 : Int) < (name.size : Int) := by omega
    subst hs
    by_cases h1 : 1 ≤ s.size
    case' pos =>
      have k1 : (1 : Int) ≤ (s.size : Int) := by omega
      have k1' : ¬ (s.size : Int) < 1 := by omega
      have ONE2 := hid (show ∀ b : Bool, b = decide ((s.size : Int) ≤ 20) → Value.bool b = .bool (fineJ s 0) from fun b hb => ONE.out b (by rw [hb, decide_eq_true h1, Bool.true_and]; exact decide_eq_decide.2 (by omega)))
      clear h1 ONE
      go_enter Tryd.func4, Tryd.ntmps4
      go_wp2_with fail
      refine HSH.out.mono ?_
      rintro e w2 ⟨rfl, hf⟩
      have F2 := hid hf
      clear hf
      go_wp2_with fail
    case' neg =>
      have k1 : ¬ (1 : Int) ≤ (s.size : Int) := by omega
      have k1' : (s.size : Int) < 1 := by omega
      have ONE2 := hid (show ∀ b : Bool, b = false → Value.bool b = .bool (fineJ s 0) from fun b hb => ONE.out b (by rw [hb, decide_eq_false h1]; simp))
      clear h1 ONE
      go_enter Tryd.func4, Tryd.ntmps4
      go_wp2_with fail
      refine HSH.out.mono ?_
      rintro e w2 ⟨rfl, hf⟩
      have F2 := hid hf
      clear hf
      go_wp2_with fail
  all_goals
    clear k1 k1'
    go_loopw [4, 5] (fun u i wr => ∃ j : Nat, j ≤ s.size ∧ i = .int .i64 j ∧ u = .bool (fineJ s j) ∧ Hid (Fr nob w wr)) (fun _ i _ => s.size - (intOf i).toNat)
    case atStart => exact ⟨0, Nat.zero_le _, rfl, by first | exact ONE2.out _ rfl | (refine ONE2.out _ ?_; simp; have := HSZ.out; omega), F2⟩
    case round =>
      clear F2 ONE2
      obtain ⟨j, hj, rfl, rfl, F⟩ := hrel
      by_cases hlt : j < s.size
      · have hlt2 : (j : Int) < (s.size : Int) := by omega
        have hj6 : (j : Int) ≤ 30 := by omega
        obtain ⟨c, hc⟩ : ∃ c, s[j]'hlt = c := ⟨_, rfl⟩
        have hget : s.data.toList[j]? = some c := by rw [← hc]; exact get_listW s j hlt
        have HST := hid (fineJ_step s j c hget)
        generalize fineJ s j = fj at *
        clear hget
        cases fj with
        | false =>
          go_wp2_with fail
          go_roundw
          case rel => exact ⟨j + 1, by omega, by go_num, by rw [HST.out]; rfl, F⟩
          case measure => simp [intOf]; omega
        | true =>
          by_cases h33 : 33 ≤ c.toNat
          · have a1 : (33 : Int) ≤ (c.toNat : Int) := by omega
            have a2 : ¬ (c.toNat : Int) < 33 := by omega
            have HE := hid (show decide ((c.toNat : Int) ≤ 126) = seen c from by unfold seen; rw [decide_eq_true h33, Bool.true_and]; exact decide_eq_decide.2 (by omega))
            clear h33
            go_wp2_with fail
            go_roundw
            case rel => exact ⟨j + 1, by omega, by go_num, by rw [HST.out, ← HE.out]; simp, F⟩
            case measure => simp [intOf]; omega
          · have a1 : ¬ (33 : Int) ≤ (c.toNat : Int) := by omega
            have a2 : (c.toNat : Int) < 33 := by omega
            have HE := hid (show seen c = false from by unfold seen; rw [decide_eq_false h33, Bool.false_and])
            clear h33
            go_wp2_with fail
            go_roundw
            case rel => exact ⟨j + 1, by omega, by go_num, by rw [HST.out, HE.out]; rfl, F⟩
            case measure => simp [intOf]; omega
      · have hle : ¬ (j : Int) < (s.size : Int) := by omega
        have hjs : j = s.size := by omega
        rw [hjs] at hle ⊢
        rw [HFE.out]
        clear hjs hlt hj HFE
        generalize hfb : fineB s = fb at *
        clear hfb
        cases fb with
        | true =>
          rw [if_pos rfl] at HT HF
          rw [if_pos rfl] at HL
          unfold cmdV cmdC at HT HF HL
          dsimp only [zeroC] at HT HF HL
          go_wp2_with fail
          refine (HT.out _ (HV.out.fr F.out)).mono ?_
          rintro e w4 ⟨rfl, hf⟩
          have F4 := hid ((F.out.tr hf).alloc (.cells (cmdC ⟨setS, s, ⟨#[]⟩, 0, 2, 1, ⟨#[]⟩⟩) 28))
          have B4 := hid (Blk.new w4 28 (cmdC ⟨setS, s, ⟨#[]⟩, 0, 2, 1, ⟨#[]⟩⟩))
          clear hf
          unfold cmdC at F4
          dsimp only at F4
          go_wp2_with fail
          generalize hX4 : w4.heap.size = X4 at *
          clear hX4
          unfold cmdC at B4
          dsimp only at B4
          generalize w4.alloc _ = w5 at *
          refine (HF.out _ (HV.out.fr F4.out)).mono ?_
          rintro e w6 ⟨rfl, hf⟩
          have F6 := hid ((F4.out.tr hf).alloc (.cells (cmdC ⟨setS, s, ⟨#[]⟩, 0, 2, 0, ⟨#[]⟩⟩) 28))
          have B46 := hid ((B4.out.fr hf (fun x => x)).alloc (.cells (cmdC ⟨setS, s, ⟨#[]⟩, 0, 2, 0, ⟨#[]⟩⟩) 28))
          have B6 := hid (Blk.new w6 28 (cmdC ⟨setS, s, ⟨#[]⟩, 0, 2, 0, ⟨#[]⟩⟩))
          clear hf
          unfold cmdC at F6 B46
          dsimp only at F6 B46
          go_wp2_with fail
          generalize hX6 : w6.heap.size = X6 at *
          clear hX6
          unfold cmdC at B6
          dsimp only at B6
          generalize w6.alloc _ = w7 at *
          refine (HL.out _ (HV.out.fr F6.out)).mono ?_
          rintro e w8 ⟨rfl, hf⟩
          have F8 := hid ((F6.out.tr hf).alloc (.cells (cmdC ⟨⟨#[]⟩, ⟨#[]⟩, ⟨#[]⟩, 0, 0, 0, ⟨#[]⟩⟩) 28))
          have B48 := hid ((B46.out.fr hf (fun x => x)))
          have B68 := hid ((B6.out.fr hf (fun x => x)))
          clear hf
          unfold cmdC at F8
          dsimp only at F8
          have y1 : (w8.alloc (.cells #[.string ⟨#[]⟩, .string ⟨#[]⟩, .string ⟨#[]⟩, .int .i64 0, .int .i64 0, .int .i64 0, .string ⟨#[]⟩] 28)).cell? ⟨X4, 1, none⟩ = some (.string s) := by rw [(B48.out.alloc _).cell 1]; rfl
          have y4 : (w8.alloc (.cells #[.string ⟨#[]⟩, .string ⟨#[]⟩, .string ⟨#[]⟩, .int .i64 0, .int .i64 0, .int .i64 0, .string ⟨#[]⟩] 28)).cell? ⟨X4, 4, none⟩ = some (.int .i64 2) := by rw [(B48.out.alloc _).cell 4]; rfl
          have y5 : (w8.alloc (.cells #[.string ⟨#[]⟩, .string ⟨#[]⟩, .string ⟨#[]⟩, .int .i64 0, .int .i64 0, .int .i64 0, .string ⟨#[]⟩] 28)).cell? ⟨X4, 5, none⟩ = some (.int .i64 1) := by rw [(B48.out.alloc _).cell 5]; rfl
          have x4 : (w8.alloc (.cells #[.string ⟨#[]⟩, .string ⟨#[]⟩, .string ⟨#[]⟩, .int .i64 0, .int .i64 0, .int .i64 0, .string ⟨#[]⟩] 28)).cell? ⟨X6, 4, none⟩ = some (.int .i64 2) := by rw [(B68.out.alloc _).cell 4]; rfl
          have x5 : (w8.alloc (.cells #[.string ⟨#[]⟩, .string ⟨#[]⟩, .string ⟨#[]⟩, .int .i64 0, .int .i64 0, .int .i64 0, .string ⟨#[]⟩] 28)).cell? ⟨X6, 5, none⟩ = some (.int .i64 0) := by rw [(B68.out.alloc _).cell 5]; rfl
          have n4 : ¬ X4 = w8.heap.size := by have := Blk.lt B48.out; omega
          have n6 : ¬ X6 = w8.heap.size := by have := Blk.lt B68.out; omega
          go_wp2_with fail
          go_ret
          exact ⟨by simp, F8.out⟩
        | false =>
          rw [if_neg (by decide)] at HT HF
          rw [if_neg (by decide)] at HL
          unfold cmdV cmdC at HT HF HL
          dsimp only [zeroC] at HT HF HL
          go_wp2_with fail
          refine (HT.out _ (HV.out.fr F.out)).mono ?_
          rintro e w4 ⟨rfl, hf⟩
          have F4 := hid ((F.out.tr hf).alloc (.cells (cmdC ⟨⟨#[]⟩, ⟨#[]⟩, ⟨#[]⟩, 0, 0, 0, ⟨#[]⟩⟩) 28))
          have B4 := hid (Blk.new w4 28 (cmdC ⟨⟨#[]⟩, ⟨#[]⟩, ⟨#[]⟩, 0, 0, 0, ⟨#[]⟩⟩))
          clear hf
          unfold cmdC at F4
          dsimp only at F4
          go_wp2_with fail
          generalize hX4 : w4.heap.size = X4 at *
          clear hX4
          unfold cmdC at B4
          dsimp only at B4
          generalize w4.alloc _ = w5 at *
          refine (HF.out _ (HV.out.fr F4.out)).mono ?_
          rintro e w6 ⟨rfl, hf⟩
          have F6 := hid ((F4.out.tr hf).alloc (.cells (cmdC ⟨⟨#[]⟩, ⟨#[]⟩, ⟨#[]⟩, 0, 0, 0, ⟨#[]⟩⟩) 28))
          have B46 := hid ((B4.out.fr hf (fun x => x)).alloc (.cells (cmdC ⟨⟨#[]⟩, ⟨#[]⟩, ⟨#[]⟩, 0, 0, 0, ⟨#[]⟩⟩) 28))
          have B6 := hid (Blk.new w6 28 (cmdC ⟨⟨#[]⟩, ⟨#[]⟩, ⟨#[]⟩, 0, 0, 0, ⟨#[]⟩⟩))
          clear hf
          unfold cmdC at F6 B46
          dsimp only at F6 B46
          go_wp2_with fail
          generalize hX6 : w6.heap.size = X6 at *
          clear hX6
          unfold cmdC at B6
          dsimp only at B6
          generalize w6.alloc _ = w7 at *
          refine (HL.out _ (HV.out.fr F6.out)).mono ?_
          rintro e w8 ⟨rfl, hf⟩
          have F8 := hid ((F6.out.tr hf).alloc (.cells (cmdC ⟨⟨#[]⟩, ⟨#[]⟩, ⟨#[]⟩, 0, 0, 0, ⟨#[]⟩⟩) 28))
          have B48 := hid ((B46.out.fr hf (fun x => x)))
          have B68 := hid ((B6.out.fr hf (fun x => x)))
          clear hf
          unfold cmdC at F8
          dsimp only at F8
          go_wp2_with fail
          go_ret
          exact ⟨rfl, F8.out⟩
end Go.Proofs.YtngnipjfjhackaaDoor
