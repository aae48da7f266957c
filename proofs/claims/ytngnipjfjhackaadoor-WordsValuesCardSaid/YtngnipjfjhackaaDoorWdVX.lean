/- Words: WordsVerbs, the walk. -/
import Derived.Test.YtngnipjfjhackaaDoorWdVP
namespace Go.Proofs.YtngnipjfjhackaaDoor
open Go.RowKit Go.MapKept
set_option linter.unusedVariables false
set_option linter.unusedSimpArgs false
def cut30 (v : ByteArray) : ByteArray := if 30 < v.size then v.extract 0 30 else v
theorem cut30_size (v : ByteArray) : (cut30 v).size ≤ 30 := by
  unfold cut30; split
  · rw [ByteArray.size_extract]; omega
  · omega
theorem get_listW (s : ByteArray) (i : Nat) (h : i < s.size) : s.data.toList[i]? = some (s[i]'h) := by
  have h2 : i < s.data.size := h
  rw [Array.getElem?_toList, Array.getElem?_eq_getElem h2]; rfl
theorem bytes_ne {a b : ByteArray} (h : a ≠ b) : (a.toList == b.toList) = false := by
  rw [ByteArray.toList_eq, ByteArray.toList_eq]
  exact beq_eq_false_iff_ne.2 (fun e => h (by obtain ⟨⟨x⟩⟩ := a; obtain ⟨⟨y⟩⟩ := b; simpa using e))
theorem nameAt {j : Nat} (h : j < 17) : (#[.string ⟨#[115, 116, 101, 112]⟩, .string ⟨#[98, 97, 99, 107]⟩, .string ⟨#[115, 104, 111, 119]⟩, .string ⟨#[108, 105, 115, 116]⟩, .string ⟨#[103, 111]⟩, .string ⟨#[105, 110, 112, 117, 116]⟩, .string ⟨#[108, 105, 110, 101]⟩, .string ⟨#[115, 119, 105, 116, 99, 104]⟩, .string ⟨#[100, 105, 102, 102]⟩, .string ⟨#[102, 105, 114, 115, 116]⟩, .string ⟨#[112, 114, 117, 110, 101]⟩, .string ⟨#[119, 97, 116, 99, 104]⟩, .string ⟨#[114, 101, 110, 97, 109, 101]⟩, .string ⟨#[114, 101, 98, 97, 115, 101]⟩, .string ⟨#[116, 97, 107, 101]⟩, .string ⟨#[115, 101, 116]⟩, .string ⟨#[102, 111, 114, 107]⟩] : Array Value)[j]? = some (.string (verbN.getD j (⟨#[]⟩, 0)).1) := by
  have : j = 0 ∨ j = 1 ∨ j = 2 ∨ j = 3 ∨ j = 4 ∨ j = 5 ∨ j = 6 ∨ j = 7 ∨ j = 8 ∨ j = 9 ∨ j = 10 ∨ j = 11 ∨ j = 12 ∨ j = 13 ∨ j = 14 ∨ j = 15 ∨ j = 16 := by omega
  rcases this with rfl | rfl | rfl | rfl | rfl | rfl | rfl | rfl | rfl | rfl | rfl | rfl | rfl | rfl | rfl | rfl | rfl <;> rfl
theorem haveAt {j : Nat} (h : j < 17) : (#[.int .i64 0, .int .i64 0, .int .i64 0, .int .i64 0, .int .i64 1, .int .i64 1, .int .i64 1, .int .i64 1, .int .i64 1, .int .i64 1, .int .i64 1, .int .i64 1, .int .i64 2, .int .i64 2, .int .i64 2, .int .i64 2, .int .i64 3] : Array Value)[j]? = some (.int .i64 ((verbN.getD j (⟨#[]⟩, 0)).2 : Nat)) := by
  have : j = 0 ∨ j = 1 ∨ j = 2 ∨ j = 3 ∨ j = 4 ∨ j = 5 ∨ j = 6 ∨ j = 7 ∨ j = 8 ∨ j = 9 ∨ j = 10 ∨ j = 11 ∨ j = 12 ∨ j = 13 ∨ j = 14 ∨ j = 15 ∨ j = 16 := by omega
  rcases this with rfl | rfl | rfl | rfl | rfl | rfl | rfl | rfl | rfl | rfl | rfl | rfl | rfl | rfl | rfl | rfl | rfl <;> rfl
set_option maxHeartbeats 4000000 in
set_option maxRecDepth 100000 in
theorem verbs_walk (verb : ByteArray) (hvs : verb.size ≤ 281474976710656) (many : Nat) (hm : many ≤ 255) (w : World) (hv : VarsM w) :
    Calls Tryd.prog 3 #[.string verb, .int .u8 many] w fun e w' => e = .returned (.bool true) ∧ Fr nob w w' := by
  have HSH := hid (shown_any w hv)
  have HV := hid hv
  obtain ⟨s, hs⟩ : ∃ s, s = cut30 verb := ⟨_, rfl⟩
  have hs30 : s.size ≤ 30 := by rw [hs]; exact cut30_size verb
  unfold cut30 at hs
  clear hv
  by_cases h30 : 30 < verb.size
  case' pos =>
    rw [if_pos h30] at hs
    have h30i : (30 : Int) < (verb.size : Int) := by omega
    have h30j : (30 : Int) ≤ (verb.size : Int) := by omega
    go_enter Tryd.func3, Tryd.ntmps3
    go_wp2_with fail
    refine HSH.out.mono ?_
    rintro e w2 ⟨rfl, hf⟩
    have F2 := hid hf
    clear hf
    go_wp2_with fail
    rw [← hs]
    have hs0 : True := trivial
    clear hs h30 h30i h30j
  case' neg =>
    rw [if_neg h30] at hs
    have h30i : ¬ (30 : Int) < (verb.size : Int) := by omega
    subst hs
    go_enter Tryd.func3, Tryd.ntmps3
    go_wp2_with fail
    refine HSH.out.mono ?_
    rintro e w2 ⟨rfl, hf⟩
    have F2 := hid hf
    clear hf
    go_wp2_with fail
    have hs0 : True := trivial
    clear h30 h30i
  all_goals
    clear hs0
    have N2 := hid ((Blk.new w2 9 #[.string ⟨#[115, 116, 101, 112]⟩, .string ⟨#[98, 97, 99, 107]⟩, .string ⟨#[115, 104, 111, 119]⟩, .string ⟨#[108, 105, 115, 116]⟩, .string ⟨#[103, 111]⟩, .string ⟨#[105, 110, 112, 117, 116]⟩, .string ⟨#[108, 105, 110, 101]⟩, .string ⟨#[115, 119, 105, 116, 99, 104]⟩, .string ⟨#[100, 105, 102, 102]⟩, .string ⟨#[102, 105, 114, 115, 116]⟩, .string ⟨#[112, 114, 117, 110, 101]⟩, .string ⟨#[119, 97, 116, 99, 104]⟩, .string ⟨#[114, 101, 110, 97, 109, 101]⟩, .string ⟨#[114, 101, 98, 97, 115, 101]⟩, .string ⟨#[116, 97, 107, 101]⟩, .string ⟨#[115, 101, 116]⟩, .string ⟨#[102, 111, 114, 107]⟩]).alloc (.cells #[.int .i64 0, .int .i64 0, .int .i64 0, .int .i64 0, .int .i64 1, .int .i64 1, .int .i64 1, .int .i64 1, .int .i64 1, .int .i64 1, .int .i64 1, .int .i64 1, .int .i64 2, .int .i64 2, .int .i64 2, .int .i64 2, .int .i64 3] 3))
    have H2 := hid (Blk.new (w2.alloc (.cells #[.string ⟨#[115, 116, 101, 112]⟩, .string ⟨#[98, 97, 99, 107]⟩, .string ⟨#[115, 104, 111, 119]⟩, .string ⟨#[108, 105, 115, 116]⟩, .string ⟨#[103, 111]⟩, .string ⟨#[105, 110, 112, 117, 116]⟩, .string ⟨#[108, 105, 110, 101]⟩, .string ⟨#[115, 119, 105, 116, 99, 104]⟩, .string ⟨#[100, 105, 102, 102]⟩, .string ⟨#[102, 105, 114, 115, 116]⟩, .string ⟨#[112, 114, 117, 110, 101]⟩, .string ⟨#[119, 97, 116, 99, 104]⟩, .string ⟨#[114, 101, 110, 97, 109, 101]⟩, .string ⟨#[114, 101, 98, 97, 115, 101]⟩, .string ⟨#[116, 97, 107, 101]⟩, .string ⟨#[115, 101, 116]⟩, .string ⟨#[102, 111, 114, 107]⟩] 9)) 3 #[.int .i64 0, .int .i64 0, .int .i64 0, .int .i64 0, .int .i64 1, .int .i64 1, .int .i64 1, .int .i64 1, .int .i64 1, .int .i64 1, .int .i64 1, .int .i64 1, .int .i64 2, .int .i64 2, .int .i64 2, .int .i64 2, .int .i64 3])
    have e2 : (w2.alloc (.cells #[.string ⟨#[115, 116, 101, 112]⟩, .string ⟨#[98, 97, 99, 107]⟩, .string ⟨#[115, 104, 111, 119]⟩, .string ⟨#[108, 105, 115, 116]⟩, .string ⟨#[103, 111]⟩, .string ⟨#[105, 110, 112, 117, 116]⟩, .string ⟨#[108, 105, 110, 101]⟩, .string ⟨#[115, 119, 105, 116, 99, 104]⟩, .string ⟨#[100, 105, 102, 102]⟩, .string ⟨#[102, 105, 114, 115, 116]⟩, .string ⟨#[112, 114, 117, 110, 101]⟩, .string ⟨#[119, 97, 116, 99, 104]⟩, .string ⟨#[114, 101, 110, 97, 109, 101]⟩, .string ⟨#[114, 101, 98, 97, 115, 101]⟩, .string ⟨#[116, 97, 107, 101]⟩, .string ⟨#[115, 101, 116]⟩, .string ⟨#[102, 111, 114, 107]⟩] 9)).heap.size = w2.heap.size + 1 := by simp
    rw [e2] at H2
    clear e2
    have F3 := hid ((F2.out.alloc (.cells #[.string ⟨#[115, 116, 101, 112]⟩, .string ⟨#[98, 97, 99, 107]⟩, .string ⟨#[115, 104, 111, 119]⟩, .string ⟨#[108, 105, 115, 116]⟩, .string ⟨#[103, 111]⟩, .string ⟨#[105, 110, 112, 117, 116]⟩, .string ⟨#[108, 105, 110, 101]⟩, .string ⟨#[115, 119, 105, 116, 99, 104]⟩, .string ⟨#[100, 105, 102, 102]⟩, .string ⟨#[102, 105, 114, 115, 116]⟩, .string ⟨#[112, 114, 117, 110, 101]⟩, .string ⟨#[119, 97, 116, 99, 104]⟩, .string ⟨#[114, 101, 110, 97, 109, 101]⟩, .string ⟨#[114, 101, 98, 97, 115, 101]⟩, .string ⟨#[116, 97, 107, 101]⟩, .string ⟨#[115, 101, 116]⟩, .string ⟨#[102, 111, 114, 107]⟩] 9)).alloc (.cells #[.int .i64 0, .int .i64 0, .int .i64 0, .int .i64 0, .int .i64 1, .int .i64 1, .int .i64 1, .int .i64 1, .int .i64 1, .int .i64 1, .int .i64 1, .int .i64 1, .int .i64 2, .int .i64 2, .int .i64 2, .int .i64 2, .int .i64 3] 3))
    generalize hK : w2.heap.size = K at *
    clear hK
    generalize (w2.alloc _).alloc _ = w3 at *
    go_loopw [6, 9] (fun u i wr => ∃ j : Nat, j ≤ 17 ∧ i = .int .i64 j ∧ u = .int .i64 (wantJ s j) ∧ Hid (Blk wr K 9 #[.string ⟨#[115, 116, 101, 112]⟩, .string ⟨#[98, 97, 99, 107]⟩, .string ⟨#[115, 104, 111, 119]⟩, .string ⟨#[108, 105, 115, 116]⟩, .string ⟨#[103, 111]⟩, .string ⟨#[105, 110, 112, 117, 116]⟩, .string ⟨#[108, 105, 110, 101]⟩, .string ⟨#[115, 119, 105, 116, 99, 104]⟩, .string ⟨#[100, 105, 102, 102]⟩, .string ⟨#[102, 105, 114, 115, 116]⟩, .string ⟨#[112, 114, 117, 110, 101]⟩, .string ⟨#[119, 97, 116, 99, 104]⟩, .string ⟨#[114, 101, 110, 97, 109, 101]⟩, .string ⟨#[114, 101, 98, 97, 115, 101]⟩, .string ⟨#[116, 97, 107, 101]⟩, .string ⟨#[115, 101, 116]⟩, .string ⟨#[102, 111, 114, 107]⟩]) ∧ Hid (Blk wr (K + 1) 3 #[.int .i64 0, .int .i64 0, .int .i64 0, .int .i64 0, .int .i64 1, .int .i64 1, .int .i64 1, .int .i64 1, .int .i64 1, .int .i64 1, .int .i64 1, .int .i64 1, .int .i64 2, .int .i64 2, .int .i64 2, .int .i64 2, .int .i64 3]) ∧ Hid (Fr nob w wr)) (fun _ i _ => 17 - (intOf i).toNat)
    case atStart => exact ⟨0, by decide, rfl, rfl, N2, H2, F3⟩
    case round =>
      clear N2 H2 F3
      obtain ⟨j, hj, rfl, rfl, N, H, F⟩ := hrel
      by_cases hlt : j < 17
      · have hlt2 : (j : Int) < 17 := by omega
        have x0 : wr.cell? ⟨K, j, none⟩ = some (.string (verbN.getD j (⟨#[]⟩, 0)).1) := by rw [N.out.cell]; exact nameAt hlt
        have x1 : wr.cell? ⟨K + 1, j, none⟩ = some (.int .i64 ((verbN.getD j (⟨#[]⟩, 0)).2 : Nat)) := by rw [H.out.cell]; exact haveAt hlt
        have hw : wantJ s (j + 1) = if (verbN.getD j (⟨#[]⟩, 0)).1 = s then ((verbN.getD j (⟨#[]⟩, 0)).2 : Int) else wantJ s j := rfl
        generalize hnm : (verbN.getD j (⟨#[]⟩, 0)).1 = nm at *
        generalize hhv : (verbN.getD j (⟨#[]⟩, 0)).2 = hv at *
        clear hnm hhv
        have HW := hid hw
        clear hw
        by_cases he : nm = s
        · have heb : (nm.toList == s.toList) = true := by rw [he]; simp
          have HE := hid he
          clear he
          go_wp2_with fail
          go_roundw
          case rel => exact ⟨j + 1, by omega, by go_num, by rw [HW.out, if_pos HE.out], N, H, F⟩
          case measure => simp [intOf]; omega
        · have heb : (nm.toList == s.toList) = false := bytes_ne he
          have HE := hid he
          clear he
          go_wp2_with fail
          go_roundw
          case rel => exact ⟨j + 1, by omega, by go_num, by rw [HW.out, if_neg HE.out], N, H, F⟩
          case measure => simp [intOf]; omega
      · have hj17 : j = 17 := by omega
        subst hj17
        clear hlt hj N H
        obtain ⟨W17, hW17⟩ : ∃ W17, wantJ s 17 = W17 := ⟨_, rfl⟩
        rw [hW17]
        have HW17 := hid hW17
        clear hW17
        go_wp2_with fail
        go_loopw [10] (fun i wq => ∃ j : Nat, j ≤ s.size ∧ i = .int .i64 j ∧ Hid (∀ b ∈ s.data.toList.take j, b ≠ 32) ∧ Hid (Fr nob w wq)) (fun i _ => s.size - (intOf i).toNat)
        case atStart => exact ⟨0, Nat.zero_le _, rfl, hid (fun b hb => by simp at hb), F⟩
        case round =>
          clear F
          obtain ⟨j, hj, rfl, NB, F⟩ := hrel
          by_cases hlt : j < s.size
          · have hlt2 : (j : Int) < (s.size : Int) := by omega
            have hj6 : (j : Int) ≤ 30 := by omega
            obtain ⟨c, hc⟩ : ∃ c, s[j]'hlt = c := ⟨_, rfl⟩
            have hget : s.data.toList[j]? = some c := by rw [← hc]; exact get_listW s j hlt
            by_cases hb : c = 32
            · have hb2 : ((c.toNat : Int) == 32) = true := by rw [hb]; rfl
              go_wp2_with fail
              go_ret
              exact ⟨rfl, F.out⟩
            · have hb2 : ((c.toNat : Int) == 32) = false := by
                apply beq_eq_false_iff_ne.2
                intro e
                apply hb
                have e2 : c.toNat = 32 := by omega
                exact UInt8.toNat_inj.1 (by rw [e2]; rfl)
              have NB2 := hid (show ∀ b ∈ s.data.toList.take (j + 1), b ≠ 32 from by
                rw [List.take_add_one, hget]
                intro b hbm
                rcases List.mem_append.1 hbm with h | h
                · exact NB.out b h
                · rw [show b = c by simpa using h]; exact hb)
              clear hget hb
              go_wp2_with fail
              go_roundw
              case rel => exact ⟨j + 1, by omega, by go_num, NB2, F⟩
              case measure => simp [intOf]; omega
          · have hle : ¬ (j : Int) < (s.size : Int) := by omega
            have H32 := hid (show (32 : UInt8) ∉ s.data.toList from fun hm => by
              have := NB.out 32 (by rw [List.take_of_length_le (by have : s.data.toList.length = s.size := by simp
                                                                   omega)]; exact hm)
              exact this rfl)
            clear NB hlt hj
            have hmod : ((many : Int) % 6) = ((many % 6 : Nat) : Int) := by omega
            have hn5 : many % 6 ≤ 5 := by omega
            have HMOD := hid hmod
            clear hmod
            go_wp2_with fail
            rw [HMOD.out]
            clear HMOD hm
            generalize many % 6 = n at *
            have hn6 : (n : Int) ≤ 5 := by omega
            go_loopw [12, 13] (fun l i wq => ∃ k : Nat, k ≤ n ∧ i = .int .i64 k ∧ l = .string (lineJ s k) ∧ Hid (Fr nob w wq)) (fun _ i _ => n - (intOf i).toNat)
            case atStart => exact ⟨0, Nat.zero_le _, rfl, rfl, F⟩
            case round =>
              clear F
              obtain ⟨k, hk, rfl, rfl, F⟩ := hrel
              have hls := lineJ_size s k
              by_cases hlt : k < n
              · have hlt2 : (k : Int) < (n : Int) := by omega
                have HLJ := hid (show lineJ s (k + 1) = lineJ s k ++ ⟨#[32, 55]⟩ from rfl)
                have hz : ¬ 9223372036854775807 < (lineJ s k).size + 2 := by omega
                generalize lineJ s k = X at *
                clear hls
                go_wp2_with fail
                go_roundw
                case rel => exact ⟨k + 1, by omega, by go_num, by rw [HLJ.out], F⟩
                case measure => simp [intOf]; omega
              · have hle2 : ¬ (k : Int) < (n : Int) := by omega
                have hkn : k = n := by omega
                subst hkn
                have HLAW := hid (verbs_law s hs30 H32.out k hn5)
                have HRD := hid (read_line (lineJ s k) (by omega) _ (HV.out.fr F.out))
                rw [HW17.out] at HLAW
                generalize lineJ s k = X at *
                clear hls hlt hk
                by_cases hne : (k : Int) = W17
                · obtain ⟨⟨cv, ca, cb, cn, ct, cvn, cvs⟩, hr, hcv⟩ := HLAW.out.2 hne
                  have hcv : cv = s := hcv
                  subst hcv
                  rw [hr] at HRD
                  unfold cmdV cmdC at HRD
                  dsimp only at HRD
                  subst hne
                  clear hr HLAW HW17
                  go_wp2_with fail
                  refine HRD.out.mono ?_
                  rintro e w9 ⟨rfl, hf⟩
                  have F9 := hid ((F.out.tr hf).alloc (.cells #[.string cv, .string ca, .string cb, .int .i64 cn, .int .i64 ct, .int .i64 cvn, .string cvs] 28))
                  clear hf
                  go_wp2_with fail
                  go_ret
                  exact ⟨by simp, F9.out⟩
                · have hr := HLAW.out.1 hne
                  rw [hr] at HRD
                  obtain ⟨⟨cv, ca, cb, cn, ct, cvn, cvs⟩, hc⟩ : ∃ c, (readR X).1 = c := ⟨_, rfl⟩
                  rw [hc] at HRD
                  unfold cmdV cmdC at HRD
                  dsimp only at HRD
                  clear hr HLAW HW17 hc
                  have hneb : ((k : Int) != W17) = true := by simpa using hne
                  go_wp2_with fail
                  refine HRD.out.mono ?_
                  rintro e w9 ⟨rfl, hf⟩
                  have F9 := hid ((F.out.tr hf).alloc (.cells #[.string cv, .string ca, .string cb, .int .i64 cn, .int .i64 ct, .int .i64 cvn, .string cvs] 28))
                  clear hf
                  go_wp2_with fail
                  go_ret
                  exact ⟨rfl, F9.out⟩
theorem verbs_walkI (verb : ByteArray) (hvs : verb.size ≤ 281474976710656) (many : Int) (hm : 0 ≤ many ∧ many ≤ 255) (w : World) (hv : VarsM w) :
    Calls Tryd.prog 3 #[.string verb, .int .u8 many] w fun e w' => e = .returned (.bool true) ∧ Fr nob w w' := by
  obtain ⟨m, rfl⟩ : ∃ m : Nat, many = (m : Int) := ⟨many.toNat, by omega⟩
  exact verbs_walk verb hvs m (by omega) w hv
end Go.Proofs.YtngnipjfjhackaaDoor
