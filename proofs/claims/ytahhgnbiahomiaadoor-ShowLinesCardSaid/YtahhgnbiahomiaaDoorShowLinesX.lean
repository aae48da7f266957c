/- ShowLines: the walk. -/
import Derived.Test.YtahhgnbiahomiaaDoorMI
namespace Go.Proofs.YtahhgnbiahomiaaDoor
open Go.RowKit
set_option linter.unusedVariables false
set_option linter.unusedSimpArgs false
def wantN (ns : List NodeM) : Nat := (ns.map fun nd => ownL nd.kind).sum
theorem want_take {ns : List NodeM} {j : Nat} {nd : NodeM} (h : ns[j]? = some nd) : wantN (ns.take (j + 1)) = wantN (ns.take j) + ownL nd.kind := by
  unfold wantN
  rw [List.take_add_one, h]; simp
theorem want_le (ns : List NodeM) : wantN ns ≤ 2 * ns.length := by
  unfold wantN
  induction ns with
  | nil => simp
  | cons a l ih => have : ownL a.kind ≤ 2 := by unfold ownL; (repeat' split) <;> omega
                   simp; omega
set_option maxHeartbeats 4000000 in
set_option maxRecDepth 100000 in
theorem showlines_walk (s : ByteArray) (w : World) (hb : TabBase w) :
    Calls Tryd.prog 4 #[.string s] w fun e w' => e = .returned (.bool true) ∧ Fr nob w w' := by
  have HB := hid hb
  have HSD := hid (shown_any w hb)
  have HSH := hid (fun w' => short_any s w')
  have hl : (s.data.toList.take 700).length ≤ 700 := by rw [List.length_take]; omega
  generalize s.data.toList.take 700 = l at *
  obtain ⟨r, hr⟩ := parse_some l
  have HP := hid (fun w' => pall_any (bs l) w' (by rw [bs_size]; omega) (r := r) hr)
  cases r with
  | bad p er =>
    have he := parse_bad hr
    clear hb hl hr
    go_enter Tryd.func4, Tryd.ntmps4
    go_wp2_with fail
    refine HSD.out.mono ?_
    rintro e w1 ⟨rfl, hf⟩
    have F1 := hid hf
    clear hf
    go_wp2_with fail
    refine (HSH.out w1).mono ?_
    rintro e w2 ⟨rfl, rfl⟩
    go_wp2_with fail
    refine (HP.out _).mono ?_
    rintro e w3 ⟨rfl, hf⟩
    have F3 := hid hf
    clear hf
    go_wp2_with fail
    go_ret
    exact ⟨rfl, (F1.out.tr F3.out).alloc _⟩
  | good ns fs =>
    have HL := hid (show_nl hr)
    have HOK := hid (parse_ok hr)
    have HFW := hid (parse_few hr)
    have hshl := show_len (parse_ok hr) (parse_few hr)
    have hfew := (parse_ok hr).few
    have hwl := want_le ns
    clear hb hl hr
    generalize hsh : showT ns fs = sh at *
    have HSS := hid hsh
    clear hsh
    go_enter Tryd.func4, Tryd.ntmps4
    go_wp2_with fail
    refine HSD.out.mono ?_
    rintro e w1 ⟨rfl, hf⟩
    have F1 := hid hf
    clear hf
    go_wp2_with fail
    refine (HSH.out w1).mono ?_
    rintro e w2 ⟨rfl, rfl⟩
    go_wp2_with fail
    refine (HP.out _).mono ?_
    rintro e w3 ⟨⟨nv, fv, lvs, pvs, rfl, ht⟩, hf⟩
    obtain ⟨NA, NC, rfl, _, _⟩ := ht.nodes.cap
    obtain ⟨FA, FC, rfl, _, _⟩ := ht.fns.cap
    have F3 := hid (F1.out.tr hf)
    have HB3 := hid (HB.out.fr F3.out)
    have S0 := hid (TV.new ht HB3.out)
    have F4 := hid (F3.out.alloc (.cells #[.slice NA ns.length NC, .slice FA fs.length FC] 26))
    clear ht hf
    go_wp2_with fail
    generalize hB : w3.heap.size = B at *
    clear hB
    generalize hw4 : w3.alloc (.cells #[.slice NA ns.length NC, .slice FA fs.length FC] 26) = w4 at *
    clear hw4
    have hl4 : (ns.length : Int) ≤ 300 := by omega
    go_loopw [7, 8] (fun c i wr => ∃ j : Nat, j ≤ ns.length ∧ i = .int .i64 j ∧ c = .int .i64 (wantN (ns.take j) : Nat) ∧ Hid (TV B (.slice NA ns.length NC) (.slice FA fs.length FC) lvs pvs ns fs wr) ∧ Hid (Fr nob w wr)) (fun _ i _ => ns.length - (intOf i).toNat)
    case atStart => exact ⟨0, Nat.zero_le _, rfl, rfl, S0, F4⟩
    case round =>
      obtain ⟨j, hj, rfl, rfl, S, FR⟩ := hrel
      obtain ⟨d0, d1⟩ := S.out.cells
      by_cases hlt : j < ns.length
      · have hlt2 : (j : Int) < (ns.length : Int) := by omega
        have hj6 : (j : Int) ≤ 300 := by omega
        obtain ⟨nd, hnd⟩ : ∃ nd, ns[j]? = some nd := ⟨_, List.getElem?_eq_getElem hlt⟩
        obtain ⟨nb, c', lv, e, _, _, x0, _⟩ := S.out.tree.node hnd
        injection e with e1 e2 e3
        subst e1
        have hw : wantN (ns.take j) ≤ 600 := by have := want_le (ns.take j); rw [List.length_take] at this; omega
        have hw2 : ((wantN (ns.take j) : Nat) : Int) ≤ 600 := by omega
        have HW := hid (want_take hnd)
        clear hnd e2 e3 hw
        generalize nd.kind = k at *
        generalize wantN (ns.take j) = c at *
        by_cases k1 : 10 ≤ k ∧ k ≤ 14
        · have c1 : (10 : Int) ≤ (k : Int) := by omega
          have c2 : (k : Int) ≤ 14 := by omega
          have c3 : ¬ (k : Int) = 18 := by omega
          have c4 : ¬ (k : Int) = 17 := by omega
          have HO := hid (show ownL k = 1 from by unfold ownL; rw [if_pos (.inl k1)])
          clear k1
          go_wp2_with fail
          go_roundw
          case rel => exact ⟨j + 1, by omega, by go_num, by rw [HW.out, HO.out]; go_num, hid (by first | exact S.out | exact S.out.no ((Fr.refl nob wr).drewN _)), hid (by first | exact FR.out | exact FR.out.drewN _)⟩
          case measure => simp [intOf]; omega
        · by_cases k2 : k = 17
          · subst k2
            have HO := hid (show ownL 17 = 1 from rfl)
            clear k1
            go_wp2_with fail
            go_roundw
            case rel => exact ⟨j + 1, by omega, by go_num, by rw [HW.out, HO.out]; go_num, hid (by first | exact S.out | exact S.out.no ((Fr.refl nob wr).drewN _)), hid (by first | exact FR.out | exact FR.out.drewN _)⟩
            case measure => simp [intOf]; omega
          · by_cases k3 : k = 18
            · subst k3
              have HO := hid (show ownL 18 = 2 from rfl)
              clear k1 k2
              go_wp2_with fail
              go_roundw
              case rel => exact ⟨j + 1, by omega, by go_num, by rw [HW.out, HO.out]; go_num, hid (by first | exact S.out | exact S.out.no ((Fr.refl nob wr).drewN _)), hid (by first | exact FR.out | exact FR.out.drewN _)⟩
              case measure => simp [intOf]; omega
            · have HO := hid (show ownL k = 0 from by unfold ownL; rw [if_neg (by omega), if_neg k3])
              have c3 : ¬ (k : Int) = 18 := by omega
              have c4 : ¬ (k : Int) = 17 := by omega
              by_cases k4 : 10 ≤ k
              · have c1 : (10 : Int) ≤ (k : Int) := by omega
                have c2 : ¬ (k : Int) ≤ 14 := by omega
                clear k1 k2 k3 k4
                go_wp2_with fail
                go_roundw
                case rel => exact ⟨j + 1, by omega, by go_num, by rw [HW.out, HO.out]; go_num, hid (by first | exact S.out | exact S.out.no ((Fr.refl nob wr).drewN _)), hid (by first | exact FR.out | exact FR.out.drewN _)⟩
                case measure => simp [intOf]; omega
              · have c1 : ¬ (10 : Int) ≤ (k : Int) := by omega
                clear k1 k2 k3 k4
                go_wp2_with fail
                go_roundw
                case rel => exact ⟨j + 1, by omega, by go_num, by rw [HW.out, HO.out]; go_num, hid (by first | exact S.out | exact S.out.no ((Fr.refl nob wr).drewN _)), hid (by first | exact FR.out | exact FR.out.drewN _)⟩
                case measure => simp [intOf]; omega
      · have hle : (ns.length : Int) ≤ (j : Int) := by omega
        have htk := hid (List.take_of_length_le (show ns.length ≤ j by omega))
        have HTX := hid (text_any HOK.out HFW.out S.out.tree S.out.base)
        rw [htk.out]
        have hcl : wantN ns = sh.count 10 := HL.out.symm
        rw [hcl]
        have hcb : ((sh.count 10 : Nat) : Int) ≤ 1000000 := by have : sh.count 10 ≤ sh.length := List.count_le_length; omega
        obtain ⟨N, hN⟩ : ∃ N, sh.count 10 = N := ⟨_, rfl⟩
        rw [hN] at hcb ⊢
        have HN := hid hN
        clear hN hcl hwl
        go_wp2_with fail
        refine HTX.out.mono ?_
        rintro e w5 ⟨rfl, hf⟩
        rw [HSS.out]
        have F5 := hid (FR.out.tr hf)
        clear hf d0 d1
        obtain ⟨T, hT⟩ : ∃ T, bs sh = T := ⟨_, rfl⟩
        have hTl : T.data.toList = sh := by rw [← hT]; simp [bs]
        rw [hT]
        have hTs : T.size = sh.length := by rw [← hTl]; simp
        have hT6 : (T.size : Int) ≤ 1000000 := by omega
        have HT := hid hTl
        clear hT hTl
        go_wp2_with fail
        go_loopw [11, 12] (fun c i wr => ∃ j : Nat, j ≤ T.size ∧ i = .int .i64 j ∧ c = .int .i64 ((sh.take j).count 10 : Nat) ∧ Hid (Fr nob w wr)) (fun _ i _ => T.size - (intOf i).toNat)
        case atStart => exact ⟨0, Nat.zero_le _, rfl, rfl, F5⟩
        case round =>
          obtain ⟨j, hj, rfl, rfl, FR⟩ := hrel
          by_cases hlt : j < T.size
          · have hlt2 : (j : Int) < (T.size : Int) := by omega
            obtain ⟨c, hc⟩ : ∃ c, T[j]'hlt = c := ⟨_, rfl⟩
            have hcc : (sh.take j).count 10 ≤ 1000000 := by
              have h1 : (sh.take j).count 10 ≤ (sh.take j).length := List.count_le_length
              rw [List.length_take] at h1; omega
            have hcc2 : (((sh.take j).count 10 : Nat) : Int) ≤ 1000000 := by omega
            have hnx : (sh.take (j + 1)).count 10 = (sh.take j).count 10 + (if c = 10 then 1 else 0) := by
              have hg : sh[j]? = some c := by
                rw [← HT.out, List.getElem?_eq_getElem (by simpa using hlt)]; exact congrArg some hc
              rw [List.take_add_one, hg, List.count_append]
              simp [List.count_singleton]
            have HX := hid hnx
            clear hnx hcc
            generalize (sh.take j).count 10 = n at *
            by_cases h10 : c = 10
            · have hcb : ((c.toNat : Int) == 10) = true := by rw [h10]; rfl
              have H10 := hid h10
              clear h10
              go_wp2_with fail
              go_roundw
              case rel => exact ⟨j + 1, by omega, by go_num, by rw [HX.out, if_pos H10.out]; go_num, by first | exact FR | exact hid (FR.out.drewN _)⟩
              case measure => simp [intOf]; omega
            · have hcb : ((c.toNat : Int) == 10) = false := beq_eq_false_iff_ne.2 (fun e => h10 (UInt8.toNat_inj.1 (by (have : (10 : UInt8).toNat = 10 := rfl); omega)))
              have H10 := hid h10
              clear h10
              go_wp2_with fail
              go_roundw
              case rel => exact ⟨j + 1, by omega, by go_num, by rw [HX.out, if_neg H10.out]; go_num, by first | exact FR | exact hid (FR.out.drewN _)⟩
              case measure => simp [intOf]; omega
          · have hle : (T.size : Int) ≤ (j : Int) := by omega
            have hcn : (sh.take j).count 10 = N := by rw [List.take_of_length_le (by omega)]; exact HN.out
            rw [hcn]
            go_wp2_with fail
            go_ret
            exact ⟨by simp, FR.out⟩
end Go.Proofs.YtahhgnbiahomiaaDoor
