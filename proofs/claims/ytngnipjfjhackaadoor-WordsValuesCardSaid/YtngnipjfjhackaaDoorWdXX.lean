/- Words: WordsValues, the walk. -/
import Derived.Test.YtngnipjfjhackaaDoorWdVX
import Derived.Test.YtngnipjfjhackaaDoorWdXQ
import Derived.Test.YtngnipjfjhackaaDoorWdLW
namespace Go.Proofs.YtngnipjfjhackaaDoor
open Go.RowKit Go.MapKept
set_option linter.unusedVariables false
set_option linter.unusedSimpArgs false
def cut20 (v : ByteArray) : ByteArray := if 20 < v.size then v.extract 0 20 else v
theorem cut20_size (v : ByteArray) : (cut20 v).size ≤ 20 := by
  unfold cut20; split
  · rw [ByteArray.size_extract]; omega
  · omega
theorem small_set {t vn : Int} {vs : ByteArray} (h0 : -9223372036854775808 ≤ vn) (h1 : vn ≤ 9223372036854775807) (hs : vs.size ≤ 1000) : SmallC ⟨setS, aS, ⟨#[]⟩, 0, t, vn, vs⟩ :=
  ⟨⟨by show (-9223372036854775808 : Int) ≤ 0; decide, by show (0 : Int) ≤ 9223372036854775807; decide, h0, h1⟩, by show setS.size ≤ 1000; decide, by show aS.size ≤ 1000; decide, by show (⟨#[]⟩ : ByteArray).size ≤ 1000; decide, hs⟩
theorem fit_set {t vn : Int} {vs : ByteArray} (ht : (Lit.int .i64 t).wf = true) (hv : (Lit.int .i64 vn).wf = true) (hs : vs.size ≤ 1000) : FitC ⟨setS, aS, ⟨#[]⟩, 0, t, vn, vs⟩ :=
  ⟨by show setS.size ≤ 2000; decide, by show aS.size ≤ 2000; decide, by show (⟨#[]⟩ : ByteArray).size ≤ 2000; decide, by show vs.size ≤ 2000; omega, by show (Lit.int .i64 0).wf = true; decide, ht, hv⟩
theorem nought_eq (t : List UInt8) : (⟨#[115, 101, 116, 32, 97, 32, 48]⟩ ++ (setA t).extract 6 (setA t).size : ByteArray) = setA (48 :: t) := by
  apply ba_ext
  have : ((setA t).extract 6 (setA t).size).data.toList = t := by
    rw [Lib.extract_data]
    unfold setA
    rw [bsW_list]
    have hz : (bsW ([115, 101, 116, 32, 97, 32] ++ t)).size = t.length + 6 := setA_size t
    rw [hz]
    simp
  rw [ByteArray.data_append, Array.toList_append, this]
  unfold setA
  rw [bsW_list]
  rfl
theorem open_eq (s : ByteArray) : (⟨#[115, 101, 116, 32, 97, 32, 34]⟩ ++ s : ByteArray) = setA (34 :: s.data.toList) := by
  apply ba_ext
  unfold setA
  rw [bsW_list, ByteArray.data_append, Array.toList_append]
  rfl
theorem shut_eq (s : ByteArray) : (⟨#[115, 101, 116, 32, 97, 32, 34]⟩ ++ s ++ ⟨#[34]⟩ : ByteArray) = setA (34 :: (s.data.toList ++ [34])) := by
  apply ba_ext
  unfold setA
  rw [bsW_list]
  simp [ByteArray.data_append]
set_option maxHeartbeats 8000000 in
set_option maxRecDepth 100000 in
theorem values_walk (n : Int) (hn0 : -9223372036854775808 ≤ n) (hn1 : n ≤ 9223372036854775807) (text : ByteArray) (hvs : text.size ≤ 281474976710656) (w : World) (hv : VarsM w) :
    Calls Tryd.prog 6 #[.int .i64 n, .string text] w fun e w' => e = .returned (.bool true) ∧ Fr nob w w' := by
  have HSH := hid (shown_any w hv)
  have HV := hid hv
  obtain ⟨s, hs⟩ : ∃ s, s = cut20 text := ⟨_, rfl⟩
  have hs20 : s.size ≤ 20 := by rw [hs]; exact cut20_size text
  have HL1 := hid (fun wx hx => line_any ⟨setS, aS, ⟨#[]⟩, 0, 1, n, ⟨#[]⟩⟩ (small_set hn0 hn1 (by decide)) (fit_set (by decide) (wf_i64 hn0 hn1) (by decide)) wx hx)
  rw [line_num n hn0 hn1] at HL1
  have HL2 := hid (fun wx hx => line_any ⟨setS, aS, ⟨#[]⟩, 0, 3, 0, s⟩ (small_set (by decide) (by decide) (by omega)) (fit_set (by decide) (by decide) (by omega)) wx hx)
  have hlen : (setA (Lib.itoa n)).size ≤ 27 ∧ 6 ≤ (setA (Lib.itoa n)).size := by
    have := Lib.itoa_length_le n hn0 hn1
    rw [setA_size]; omega
  have HR1 := hid (fun wx hx => read_line (setA (Lib.itoa n)) (by omega) wx hx)
  rw [read_num_line n hn0 hn1] at HR1
  have HR3 := hid (fun wx hx => read_line (setA (48 :: Lib.itoa n)) (by have := Lib.itoa_length_le n hn0 hn1; rw [setA_size, List.length_cons]; omega) wx hx)
  rw [read_nought_line n hn0 hn1] at HR3
  have HTE := hid (textJ_end s (by omega))
  have HTX := hid (fun hm => read_text_line (s := s) hs20 hm)
  have HTO := hid (fun hm => read_open_line (s := s) hs20 hm)
  have HTN := hid (fun hm => line_set_no (t := 3) (vn := 0) (vs := s) hm)
  have HNE := hid (nought_eq (Lib.itoa n))
  have HRT := hid (fun wx hx => read_line (setA (34 :: (s.data.toList ++ [34]))) (by rw [setA_size]; simp; omega) wx hx)
  have HRO := hid (fun wx hx => read_line (setA (34 :: s.data.toList)) (by rw [setA_size]; simp; omega) wx hx)
  have HOE := hid (open_eq s)
  have HSE := hid (shut_eq s)
  unfold setS aS at HTN HTX
  unfold cmdV cmdC setS aS at HL1 HL2
  unfold cmdV cmdC at HR1 HR3
  dsimp only [zeroC] at HL1 HL2 HR1 HR3
  rw [← HNE.out] at HR3
  have z1 : ¬ 9223372036854775807 < 7 + s.size := by omega
  have z2 : ¬ 9223372036854775807 < 7 + s.size + 1 := by omega
  obtain ⟨L, hL⟩ : ∃ L, setA (Lib.itoa n) = L := ⟨_, rfl⟩
  rw [hL] at HL1 HR1 HR3 hlen
  clear HNE hL
  have l1 : (6 : Int) ≤ (L.size : Int) := by omega
  have l2 : min (L.size : Int) 6 = 6 := by omega
  have l3 : ¬ 9223372036854775807 < 7 + (L.size - 6) := by omega
  have l4 : ¬ (L.size : Int) < 6 := by omega
  unfold cut20 at hs
  clear hv hlen
  by_cases h20 : 20 < text.size
  case' pos =>
    rw [if_pos h20] at hs
    have h20i : (20 : Int) < (text.size : Int) := by omega
    have h20j : (20 : Int) ≤ (text.size : Int) := by omega
    have HS := hid hs
    clear hs
    go_enter Tryd.func6, Tryd.ntmps6
    go_wp2_with fail
    refine HSH.out.mono ?_
    rintro e w2 ⟨rfl, hf⟩
    have F2 := hid hf
    clear hf
    go_wp2_with fail
    rw [← HS.out]
    clear HS h20i h20j
  case' neg =>
    rw [if_neg h20] at hs
    have h20i : ¬ (20 : Int) < (text.size : Int) := by omega
    subst hs
    go_enter Tryd.func6, Tryd.ntmps6
    go_wp2_with fail
    refine HSH.out.mono ?_
    rintro e w2 ⟨rfl, hf⟩
    have F2 := hid hf
    clear hf
    go_wp2_with fail
    clear h20i
  all_goals
    clear h20
    go_loopw [6, 7] (fun u i wr => ∃ j : Nat, j ≤ s.size ∧ i = .int .i64 j ∧ u = .bool (textJ s j) ∧ Hid (Fr nob w wr)) (fun _ i _ => s.size - (intOf i).toNat)
    case atStart => exact ⟨0, Nat.zero_le _, rfl, by simp [textJ], F2⟩
    case round =>
      clear F2
      obtain ⟨j, hj, rfl, rfl, F⟩ := hrel
      by_cases hlt : j < s.size
      · have hlt2 : (j : Int) < (s.size : Int) := by omega
        have hj6 : (j : Int) ≤ 30 := by omega
        obtain ⟨c, hc⟩ : ∃ c, s[j]'hlt = c := ⟨_, rfl⟩
        have hget : s.data.toList[j]? = some c := by rw [← hc]; exact get_listW s j hlt
        have HST := hid (textJ_step s j c hget)
        generalize textJ s j = fj at *
        clear hget
        cases fj with
        | false =>
          go_wp2_with fail
          go_roundw
          case rel => exact ⟨j + 1, by omega, by go_num, by rw [HST.out]; rfl, F⟩
          case measure => simp [intOf]; omega
        | true =>
          by_cases h33 : 33 ≤ c.toNat
          · have a1 : (33 : Int) ≤ (c.toNat : Int) := by omega
            have a2 : ¬ (c.toNat : Int) < 33 := by omega
            by_cases h126 : c.toNat ≤ 126
            · have a3 : (c.toNat : Int) ≤ 126 := by omega
              have a4 : ¬ (126 : Int) < (c.toNat : Int) := by omega
              have HE := hid (show ((c.toNat : Int) != 34) = inT c from by
                unfold inT seen
                rw [decide_eq_true h33, decide_eq_true h126, Bool.true_and, Bool.true_and]
                by_cases h34 : c = 34
                · subst h34; rfl
                · have : ¬ c.toNat = 34 := fun e => h34 (UInt8.toNat_inj.1 (by rw [e]; rfl))
                  rw [decide_eq_false h34]
                  have : ¬ (c.toNat : Int) = 34 := by omega
                  simpa using this)
              clear h33 h126
              go_wp2_with fail
              go_roundw
              case rel => exact ⟨j + 1, by omega, by go_num, by rw [HST.out, ← HE.out]; simp, F⟩
              case measure => simp [intOf]; omega
            · have a3 : ¬ (c.toNat : Int) ≤ 126 := by omega
              have a4 : (126 : Int) < (c.toNat : Int) := by omega
              have HE := hid (show inT c = false from by unfold inT seen; rw [decide_eq_false h126]; simp)
              clear h33 h126
              go_wp2_with fail
              go_roundw
              case rel => exact ⟨j + 1, by omega, by go_num, by rw [HST.out, HE.out]; rfl, F⟩
              case measure => simp [intOf]; omega
          · have a1 : ¬ (33 : Int) ≤ (c.toNat : Int) := by omega
            have a2 : (c.toNat : Int) < 33 := by omega
            have HE := hid (show inT c = false from by unfold inT seen; rw [decide_eq_false h33]; simp)
            clear h33
            go_wp2_with fail
            go_roundw
            case rel => exact ⟨j + 1, by omega, by go_num, by rw [HST.out, HE.out]; rfl, F⟩
            case measure => simp [intOf]; omega
      · have hle : ¬ (j : Int) < (s.size : Int) := by omega
        have hjs : j = s.size := by omega
        rw [hjs] at hle ⊢
        rw [HTE.out]
        clear hjs hlt hj HTE
        obtain ⟨fb, hfb⟩ : ∃ fb, mayW 3 0 s = fb := ⟨_, rfl⟩
        rw [hfb] at HTX HTO HTN ⊢
        clear hfb
        go_wp2_with fail
        refine (HL1.out _ (HV.out.fr F.out)).mono ?_
        rintro e w4 ⟨rfl, hf⟩
        have F4 := hid (F.out.tr hf)
        clear hf
        go_wp2_with fail
        refine (HR1.out _ (HV.out.fr F4.out)).mono ?_
        rintro e w5 ⟨rfl, hf⟩
        have F5 := hid ((F4.out.tr hf).alloc (.cells #[.string setS, .string aS, .string ⟨#[]⟩, .int .i64 0, .int .i64 1, .int .i64 n, .string ⟨#[]⟩] 28))
        have B5 := hid (Blk.new w5 28 #[.string setS, .string aS, .string ⟨#[]⟩, .int .i64 0, .int .i64 1, .int .i64 n, .string ⟨#[]⟩])
        clear hf
        go_wp2_with fail
        generalize hX5 : w5.heap.size = X5 at *
        clear hX5
        generalize w5.alloc _ = w6 at *
        cases fb with
        | false =>
          rw [HTN.out rfl] at HL2
          dsimp only at HL2
          refine (HL2.out _ (HV.out.fr F5.out)).mono ?_
          rintro e w7 ⟨rfl, hf⟩
          have F7 := hid (F5.out.tr hf)
          have B7 := hid (B5.out.fr hf (fun x => x))
          clear hf
          go_wp2_with fail
          refine (HR3.out _ (HV.out.fr F7.out)).mono ?_
          rintro e w8 ⟨rfl, hf⟩
          have F8 := hid ((F7.out.tr hf).alloc (.cells #[.string ⟨#[]⟩, .string ⟨#[]⟩, .string ⟨#[]⟩, .int .i64 0, .int .i64 0, .int .i64 0, .string ⟨#[]⟩] 28))
          have B8 := hid ((B7.out.fr hf (fun x => x)).alloc (.cells #[.string ⟨#[]⟩, .string ⟨#[]⟩, .string ⟨#[]⟩, .int .i64 0, .int .i64 0, .int .i64 0, .string ⟨#[]⟩] 28))
          clear hf
          have y4 : (w8.alloc (.cells #[.string ⟨#[]⟩, .string ⟨#[]⟩, .string ⟨#[]⟩, .int .i64 0, .int .i64 0, .int .i64 0, .string ⟨#[]⟩] 28)).cell? ⟨X5, 4, none⟩ = some (.int .i64 1) := by rw [B8.out.cell 4]; rfl
          have y5 : (w8.alloc (.cells #[.string ⟨#[]⟩, .string ⟨#[]⟩, .string ⟨#[]⟩, .int .i64 0, .int .i64 0, .int .i64 0, .string ⟨#[]⟩] 28)).cell? ⟨X5, 5, none⟩ = some (.int .i64 n) := by rw [B8.out.cell 5]; rfl
          go_wp2_with fail
          go_ret
          exact ⟨by simp, F8.out⟩
        | true =>
          obtain ⟨htx1, htx2⟩ := HTX.out rfl
          rw [htx2] at HL2
          rw [htx1] at HRT
          rw [HTO.out rfl] at HRO
          unfold cmdV cmdC at HRT HRO
          dsimp only [zeroC] at HL2 HRT HRO
          rw [← HOE.out] at HRO
          have HSE2 := hid (show ((⟨#[115, 101, 116, 32, 97, 32, 34]⟩ ++ s ++ ⟨#[34]⟩ : ByteArray).toList == (setA (34 :: (s.data.toList ++ [34]))).toList) = true from by rw [HSE.out]; simp)
          have HSE3 := hid (show ((setA (34 :: (s.data.toList ++ [34]))).toList == (⟨#[115, 101, 116, 32, 97, 32, 34]⟩ ++ s ++ ⟨#[34]⟩ : ByteArray).toList) = true from by rw [HSE.out]; simp)
          obtain ⟨TX, hTX⟩ : ∃ TX, setA (34 :: (s.data.toList ++ [34])) = TX := ⟨_, rfl⟩
          rw [hTX] at HL2 HRT HSE2 HSE3
          clear htx1 htx2 hTX
          refine (HL2.out _ (HV.out.fr F5.out)).mono ?_
          rintro e w7 ⟨rfl, hf⟩
          have F7 := hid (F5.out.tr hf)
          have B7 := hid (B5.out.fr hf (fun x => x))
          clear hf
          go_wp2_with fail
          refine (HR3.out _ (HV.out.fr F7.out)).mono ?_
          rintro e w8 ⟨rfl, hf⟩
          have F8 := hid ((F7.out.tr hf).alloc (.cells #[.string ⟨#[]⟩, .string ⟨#[]⟩, .string ⟨#[]⟩, .int .i64 0, .int .i64 0, .int .i64 0, .string ⟨#[]⟩] 28))
          have B8 := hid ((B7.out.fr hf (fun x => x)).alloc (.cells #[.string ⟨#[]⟩, .string ⟨#[]⟩, .string ⟨#[]⟩, .int .i64 0, .int .i64 0, .int .i64 0, .string ⟨#[]⟩] 28))
          clear hf
          have y4 : (w8.alloc (.cells #[.string ⟨#[]⟩, .string ⟨#[]⟩, .string ⟨#[]⟩, .int .i64 0, .int .i64 0, .int .i64 0, .string ⟨#[]⟩] 28)).cell? ⟨X5, 4, none⟩ = some (.int .i64 1) := by rw [B8.out.cell 4]; rfl
          have y5 : (w8.alloc (.cells #[.string ⟨#[]⟩, .string ⟨#[]⟩, .string ⟨#[]⟩, .int .i64 0, .int .i64 0, .int .i64 0, .string ⟨#[]⟩] 28)).cell? ⟨X5, 5, none⟩ = some (.int .i64 n) := by rw [B8.out.cell 5]; rfl
          go_wp2_with fail
          clear y4 y5 B8 B7 B5
          refine (HRT.out _ (HV.out.fr F8.out)).mono ?_
          rintro e w9 ⟨rfl, hf⟩
          have F9 := hid ((F8.out.tr hf).alloc (.cells #[.string ⟨#[115, 101, 116]⟩, .string ⟨#[97]⟩, .string ⟨#[]⟩, .int .i64 0, .int .i64 3, .int .i64 0, .string s] 28))
          have B9 := hid (Blk.new w9 28 #[.string ⟨#[115, 101, 116]⟩, .string ⟨#[97]⟩, .string ⟨#[]⟩, .int .i64 0, .int .i64 3, .int .i64 0, .string s])
          clear hf
          go_wp2_with fail
          generalize hX9 : w9.heap.size = X9 at *
          clear hX9
          generalize w9.alloc _ = w10 at *
          refine (HRO.out _ (HV.out.fr F9.out)).mono ?_
          rintro e w11 ⟨rfl, hf⟩
          have F11 := hid ((F9.out.tr hf).alloc (.cells #[.string ⟨#[]⟩, .string ⟨#[]⟩, .string ⟨#[]⟩, .int .i64 0, .int .i64 0, .int .i64 0, .string ⟨#[]⟩] 28))
          have B11 := hid ((B9.out.fr hf (fun x => x)).alloc (.cells #[.string ⟨#[]⟩, .string ⟨#[]⟩, .string ⟨#[]⟩, .int .i64 0, .int .i64 0, .int .i64 0, .string ⟨#[]⟩] 28))
          clear hf
          have y4 : (w11.alloc (.cells #[.string ⟨#[]⟩, .string ⟨#[]⟩, .string ⟨#[]⟩, .int .i64 0, .int .i64 0, .int .i64 0, .string ⟨#[]⟩] 28)).cell? ⟨X9, 4, none⟩ = some (.int .i64 3) := by rw [B11.out.cell 4]; rfl
          have y6 : (w11.alloc (.cells #[.string ⟨#[]⟩, .string ⟨#[]⟩, .string ⟨#[]⟩, .int .i64 0, .int .i64 0, .int .i64 0, .string ⟨#[]⟩] 28)).cell? ⟨X9, 6, none⟩ = some (.string s) := by rw [B11.out.cell 6]; rfl
          have q1 := HSE2.out
          have q2 := HSE3.out
          go_wp2_with fail
          go_ret
          exact ⟨by simp, F11.out⟩
end Go.Proofs.YtngnipjfjhackaaDoor
