/- ParseBoth: the walk, in parts. Printed by wip/tools/mkparseboth.py. -/
import Derived.Test.YtjhhlmonomeofaaGreatDoorParseBothA
namespace Go.Proofs.YtjhhlmonomeofaaGreatDoor
open Go.RowKit
open Pw
set_option linter.unusedVariables false
set_option linter.unusedSimpArgs false
set_option maxHeartbeats 16000000 in
set_option maxRecDepth 100000 in
theorem parseboth_2 (a b : ByteArray) (w : World) (hv : PVars w) (hM1 : a.size ≤ 280) (hM2 : ¬ b.size ≤ 280) :
    Calls Tryz.prog 8 #[.string a, .string b] w fun e w' => e = .returned (.bool true) ∧ Fr nob w w' := by
  have V := hid hv
  have HSD := hid (shown_any w hv)
  have HP := hid (fun (M : ByteArray) (hM : M.size ≤ 280) w' hv' r (hr : parseM M.data.toList = some r) => qall_any M w' (by omega) hv' (r := r) hr)
  have s1 : (a.size : Int) ≤ 280 := by omega
  have HM1 := hid hM1
  have s2 : 280 < (b.size : Int) := by omega
  have HM2 := hid (cut280 b hM2)
  clear hv hM1 hM2
  go_enter Tryz.func8, Tryz.ntmps8
  go_wp2_with fail
  refine HSD.out.mono ?_
  rintro e w1 ⟨rfl, hf⟩
  have F1 := hid hf
  clear hf
  go_wp2_with fail
  generalize b.extract 0 280 = M2 at *
  obtain ⟨ra, hra⟩ := parse_some a.data.toList
  obtain ⟨rb, hrb⟩ := parse_some M2.data.toList
  cases ra with
  | bad pa ea =>
    refine (HP.out a HM1.out _ (V.out.no F1.out) _ hra).mono ?_
    rintro e w3 ⟨hpa, hf⟩
    have hpa : e = .returned (.tuple #[.agg #[.slice none 0 0, .slice none 0 0], .int .i64 pa, .int .i64 ea]) := hpa
    subst hpa
    have he2 := bad_pos2 hra
    have F3 := hid (F1.out.tr hf)
    clear hf
    go_wp2_with fail
    have F4 := hid (F3.out.alloc (.cells #[.slice none 0 0, .slice none 0 0] 27))
    generalize w3.alloc (.cells #[.slice none 0 0, .slice none 0 0] 27) = w4 at *
    refine (HP.out M2 HM2.out _ (V.out.no F4.out) _ hrb).mono ?_
    rintro e w5 ⟨hpb, hf⟩
    obtain ⟨nv, fv, lvs, pvs, rfl, ht⟩ := parseAt_tree hpb
    obtain ⟨NA, NC, rfl, _, _⟩ := ht.nodes.cap
    obtain ⟨FA, FC, rfl, _, _⟩ := ht.fns.cap
    have F5 := hid (F4.out.tr hf)
    clear hf ht hpb
    go_wp2_with fail
    go_ret
    exact ⟨rfl, F5.out.alloc _⟩
  | good nsa fsa =>
    refine (HP.out a HM1.out _ (V.out.no F1.out) _ hra).mono ?_
    rintro e w3 ⟨⟨nv, fv, lvs, pvs, rfl, ht⟩, hf⟩
    obtain ⟨NA, NC, rfl, _, _⟩ := ht.nodes.cap
    obtain ⟨FA, FC, rfl, _, _⟩ := ht.fns.cap
    have F3 := hid (F1.out.tr hf)
    have TT := hid ht.zero
    clear hf ht
    go_wp2_with fail
    have F4 := hid (F3.out.alloc (.cells #[.slice NA nsa.length NC, .slice FA fsa.length FC] 27))
    have BA := hid (show TB w3.heap.size _ _ lvs pvs nsa fsa (w3.alloc (.cells #[.slice NA nsa.length NC, .slice FA fsa.length FC] 27)) from ⟨TT.out.no ((Fr.refl nob w3).alloc _), Blk.new w3 _ _⟩)
    clear TT
    generalize w3.alloc (.cells #[.slice NA nsa.length NC, .slice FA fsa.length FC] 27) = w4 at *
    generalize w3.heap.size = C1 at *
    cases rb with
    | bad pb eb =>
      refine (HP.out M2 HM2.out _ (V.out.no F4.out) _ hrb).mono ?_
      rintro e w5 ⟨hpb, hf⟩
      have hpb : e = .returned (.tuple #[.agg #[.slice none 0 0, .slice none 0 0], .int .i64 pb, .int .i64 eb]) := hpb
      subst hpb
      have he2 := bad_pos2 hrb
      have F5 := hid (F4.out.tr hf)
      clear hf
      go_wp2_with fail
      go_ret
      exact ⟨rfl, F5.out.alloc _⟩
    | good nsb fsb =>
      refine (HP.out M2 HM2.out _ (V.out.no F4.out) _ hrb).mono ?_
      rintro e w5 ⟨⟨nv, fv, lvs2, pvs2, rfl, ht⟩, hf⟩
      obtain ⟨UA, UC, rfl, _, _⟩ := ht.nodes.cap
      obtain ⟨GA, GC, rfl, _, _⟩ := ht.fns.cap
      have F5 := hid (F4.out.tr hf)
      have TT := hid ht.zero
      have BA5 := hid (BA.out.no hf)
      clear hf ht BA
      have hka := (parse_small hra).1
      have hkb := (parse_small hrb).1
      have hfa := (parse_small hra).2.1
      have hfb := (parse_small hrb).2.1
      have hka : nsa.length ≤ 300 := hka
      have hkb : nsb.length ≤ 300 := hkb
      have hfa : fsa.length ≤ 6 := hfa
      have hfb : fsb.length ≤ 6 := hfb
      have ka : (nsa.length : Int) ≤ 300 := by omega
      have kb : (nsb.length : Int) ≤ 300 := by omega
      have fa : (fsa.length : Int) ≤ 6 := by omega
      have fb : (fsb.length : Int) ≤ 6 := by omega
      have z1 : a.size + (⟨#[10]⟩ : ByteArray).size ≤ 9223372036854775807 := by
        have h1 := HM1.out
        have : (⟨#[10]⟩ : ByteArray).size = 1 := rfl
        omega
      have z2 : (a ++ (⟨#[10]⟩ : ByteArray)).size + M2.size ≤ 9223372036854775807 := by
        have h1 := HM1.out
        have h2 := HM2.out
        have : (⟨#[10]⟩ : ByteArray).size = 1 := rfl
        rw [ByteArray.size_append]; omega
      have z3 : (a ++ (⟨#[10]⟩ : ByteArray) ++ M2).size ≤ 281474976710656 := by
        have h1 := HM1.out
        have h2 := HM2.out
        have : (⟨#[10]⟩ : ByteArray).size = 1 := rfl
        rw [ByteArray.size_append, ByteArray.size_append]; omega
      have OKB := hid (parse_ok hrb)
      obtain ⟨r, hj, hcase⟩ := join_any hra hrb (by have := HM1.out; simpa using this) (by have := HM2.out; simpa using this)
      have HPJ := hid (fun w' hv' => qall_any (a ++ (⟨#[10]⟩ : ByteArray) ++ M2) w' z3 hv' (r := r) (by rw [cat10]; exact hj))
      clear hj hra hrb z3 hka hkb hfa hfb
      rcases hcase with ⟨c6, rfl⟩ | ⟨c6, c3, rfl⟩ | ⟨c6, c3, ns, fs, rfl, J⟩
      · have c62 : 6 < (fsa.length : Int) + (fsb.length : Int) := by omega
        go_wp2_with fail
        have F6 := hid (F5.out.alloc (.cells #[.slice UA nsb.length UC, .slice GA fsb.length GC] 27))
        have BB := hid (show TB w5.heap.size _ _ lvs2 pvs2 nsb fsb (w5.alloc (.cells #[.slice UA nsb.length UC, .slice GA fsb.length GC] 27)) from ⟨TT.out.no ((Fr.refl nob w5).alloc _), Blk.new w5 _ _⟩)
        have BA := hid (BA5.out.no ((Fr.refl nob w5).alloc (.cells #[.slice UA nsb.length UC, .slice GA fsb.length GC] 27)))
        clear TT BA5
        generalize w5.alloc (.cells #[.slice UA nsb.length UC, .slice GA fsb.length GC] 27) = w6 at *
        generalize w5.heap.size = C2 at *
        refine (HPJ.out _ (V.out.no F6.out)).mono ?_
        rintro e w7 ⟨hpj, hf⟩
        have hpj : e = .returned (.tuple #[.agg #[.slice none 0 0, .slice none 0 0], .int .i64 ((0 : Nat) : Int), .int .i64 ((4 : Nat) : Int)]) := hpj
        subst hpj
        have F7 := hid ((F6.out.tr hf).alloc (.cells #[.slice none 0 0, .slice none 0 0] 27))
        have FA2 := hf.alloc (.cells #[.slice none 0 0, .slice none 0 0] 27)
        obtain ⟨d0, d1⟩ := (BA.out.no FA2).cells
        obtain ⟨d2, d3⟩ := (BB.out.no FA2).cells
        clear hf FA2
        go_wp2_with fail
        generalize w7.alloc (.cells #[.slice none 0 0, .slice none 0 0] 27) = w8 at *
        go_wp2_with fail
        go_ret
        exact ⟨rfl, F7.out⟩
      · have c62 : (fsa.length : Int) + (fsb.length : Int) ≤ 6 := by omega
        have c32 : 300 < (nsa.length : Int) + (nsb.length : Int) := by omega
        go_wp2_with fail
        have F6 := hid (F5.out.alloc (.cells #[.slice UA nsb.length UC, .slice GA fsb.length GC] 27))
        have BB := hid (show TB w5.heap.size _ _ lvs2 pvs2 nsb fsb (w5.alloc (.cells #[.slice UA nsb.length UC, .slice GA fsb.length GC] 27)) from ⟨TT.out.no ((Fr.refl nob w5).alloc _), Blk.new w5 _ _⟩)
        have BA := hid (BA5.out.no ((Fr.refl nob w5).alloc (.cells #[.slice UA nsb.length UC, .slice GA fsb.length GC] 27)))
        clear TT BA5
        generalize w5.alloc (.cells #[.slice UA nsb.length UC, .slice GA fsb.length GC] 27) = w6 at *
        generalize w5.heap.size = C2 at *
        refine (HPJ.out _ (V.out.no F6.out)).mono ?_
        rintro e w7 ⟨hpj, hf⟩
        have hpj : e = .returned (.tuple #[.agg #[.slice none 0 0, .slice none 0 0], .int .i64 ((0 : Nat) : Int), .int .i64 ((4 : Nat) : Int)]) := hpj
        subst hpj
        have F7 := hid ((F6.out.tr hf).alloc (.cells #[.slice none 0 0, .slice none 0 0] 27))
        have FA2 := hf.alloc (.cells #[.slice none 0 0, .slice none 0 0] 27)
        obtain ⟨d0, d1⟩ := (BA.out.no FA2).cells
        obtain ⟨d2, d3⟩ := (BB.out.no FA2).cells
        clear hf FA2
        go_wp2_with fail
        generalize w7.alloc (.cells #[.slice none 0 0, .slice none 0 0] 27) = w8 at *
        go_wp2_with fail
        go_ret
        exact ⟨rfl, F7.out⟩
      · have c62 : (fsa.length : Int) + (fsb.length : Int) ≤ 6 := by omega
        have c32 : (nsa.length : Int) + (nsb.length : Int) ≤ 300 := by omega
        go_wp2_with fail
        have F6 := hid (F5.out.alloc (.cells #[.slice UA nsb.length UC, .slice GA fsb.length GC] 27))
        have BB := hid (show TB w5.heap.size _ _ lvs2 pvs2 nsb fsb (w5.alloc (.cells #[.slice UA nsb.length UC, .slice GA fsb.length GC] 27)) from ⟨TT.out.no ((Fr.refl nob w5).alloc _), Blk.new w5 _ _⟩)
        have BA := hid (BA5.out.no ((Fr.refl nob w5).alloc (.cells #[.slice UA nsb.length UC, .slice GA fsb.length GC] 27)))
        clear TT BA5
        generalize w5.alloc (.cells #[.slice UA nsb.length UC, .slice GA fsb.length GC] 27) = w6 at *
        generalize w5.heap.size = C2 at *
        refine (HPJ.out _ (V.out.no F6.out)).mono ?_
        rintro e w7 ⟨⟨nv, fv, lvs3, pvs3, rfl, ht⟩, hf⟩
        obtain ⟨XA, XC, rfl, _, _⟩ := ht.nodes.cap
        obtain ⟨HA, HC, rfl, _, _⟩ := ht.fns.cap
        have TT := hid ht.zero
        have FA2 := hid (hf.alloc (.cells #[.slice XA ns.length XC, .slice HA fs.length HC] 27))
        have F8 := hid (F6.out.tr FA2.out)
        have BX := hid (show TB w7.heap.size _ _ lvs3 pvs3 ns fs (w7.alloc (.cells #[.slice XA ns.length XC, .slice HA fs.length HC] 27)) from ⟨TT.out.no ((Fr.refl nob w7).alloc _), Blk.new w7 _ _⟩)
        have BA8 := hid (BA.out.no FA2.out)
        have BB8 := hid (BB.out.no FA2.out)
        obtain ⟨d0, d1⟩ := BA8.out.cells
        obtain ⟨d2, d3⟩ := BB8.out.cells
        clear hf ht TT FA2 BA BB
        have hnl : (ns.length : Int) = (nsa.length : Int) + (nsb.length : Int) := by have := J.lenN; omega
        have hfl : (fs.length : Int) = (fsa.length : Int) + (fsb.length : Int) := by have := J.lenF; omega
        have JJ := hid J
        clear J
        go_wp2_with fail
        clear d0 d1 d2 d3
        generalize w7.alloc (.cells #[.slice XA ns.length XC, .slice HA fs.length HC] 27) = w8 at *
        generalize w7.heap.size = C3 at *
        go_loopw [15] (fun i wr => ∃ j : Nat, j ≤ nsb.length ∧ i = .int .i64 j ∧ Hid (TB C1 (.slice NA nsa.length NC) (.slice FA fsa.length FC) lvs pvs nsa fsa wr) ∧ Hid (TB C2 (.slice UA nsb.length UC) (.slice GA fsb.length GC) lvs2 pvs2 nsb fsb wr) ∧ Hid (TB C3 (.slice XA ns.length XC) (.slice HA fs.length HC) lvs3 pvs3 ns fs wr) ∧ Hid (Fr nob w wr)) (fun i _ => nsb.length - (intOf i).toNat)
        case atStart => exact ⟨0, Nat.zero_le _, rfl, BA8, BB8, BX, F8⟩
        case round =>
          clear BA8 BB8 BX F8
          obtain ⟨j, hj, rfl, SA, SB, SX, FR⟩ := hrel
          obtain ⟨d0, d1⟩ := SA.out.cells
          obtain ⟨d2, d3⟩ := SB.out.cells
          obtain ⟨d4, d5⟩ := SX.out.cells
          by_cases hlt : j < nsb.length
          · have hlt2 : (j : Int) < (nsb.length : Int) := by omega
            have hj6 : (j : Int) ≤ 300 := by omega
            have i1 : (nsa.length : Int) + (j : Int) < (ns.length : Int) := by omega
            have i2 : (nsa.length : Int) + (j : Int) ≤ 600 := by omega
            have i3 : 0 ≤ (nsa.length : Int) + (j : Int) := by omega
            obtain ⟨nd, hnd⟩ : ∃ nd, nsb[j]? = some nd := ⟨_, List.getElem?_eq_getElem hlt⟩
            obtain ⟨nd', hnd', e1, e2, e3, e4⟩ := JJ.out.node j nd hnd
            have KL := hid (fun a ha => Nat.lt_of_lt_of_le (kids_lt (OKB.out.nodes j nd hnd) a ha) (List.length_take_le _ _))
            obtain ⟨ub, c2, lv2, e, _, hlv2, y0, y1, y2, y3, y4⟩ := SB.out.tree.node hnd
            injection e with e5 e6 e7
            subst e5
            obtain ⟨xb, c3, lv, e, _, hlv, x0, x1, x2, x3, x4⟩ := SX.out.tree.node hnd'
            injection e with e5 e8 e9
            subst e5
            obtain ⟨k, line, n, name, kl⟩ := nd
            obtain ⟨k', line', n', name', kl'⟩ := nd'
            dsimp only at e1 e2 e3 e4 hlv hlv2 x0 x1 x2 x3 x4 y0 y1 y2 y3 y4 KL
            subst e1 e2 e3
            have hkk : kl'.length = kl.length := by rw [e4]; simp
            rw [hkk] at hlv
            have E4 := hid e4
            obtain ⟨KA, KC, rfl, ka9, kc9⟩ := hlv.cap
            have hl4 : (kl.length : Int) ≤ 9223372036854775807 := by unfold maxLen at kc9; omega
            clear ka9 kc9
            obtain ⟨LA, LC, rfl, _, _⟩ := hlv2.cap
            have HK1 := hid hlv
            have HK2 := hid hlv2
            clear hnd hnd' e4 e6 e7 e8 e9 hlv hlv2 hkk
            go_wp2_with fail
            have FA2 : Fr nob wr (wr.alloc (.cells #[.int .i64 k', .int .i64 line', .int .i64 n', .string (bs name'), .slice KA kl.length KC] 36)) := (Fr.refl nob wr).alloc _
            have XB := hid (show Blk (wr.alloc (.cells #[.int .i64 k', .int .i64 line', .int .i64 n', .string (bs name'), .slice KA kl.length KC] 36)) wr.heap.size 36 _ from Blk.new wr _ _)
            have SA2 := hid (SA.out.no FA2)
            have SB2 := hid (SB.out.no FA2)
            have SX2 := hid (SX.out.no FA2)
            have FR2 := hid (FR.out.tr FA2)
            have K1 := hid (HK1.out.fr FA2 (fun _ _ x => x))
            have K2 := hid (HK2.out.fr FA2 (fun _ _ x => x))
            have y0 := (FA2.cell (World.block_lt_of_cell? _ _ y0) (fun x => x)).trans y0
            have y2 := (FA2.cell (World.block_lt_of_cell? _ _ y2) (fun x => x)).trans y2
            have y3 := (FA2.cell (World.block_lt_of_cell? _ _ y3) (fun x => x)).trans y3
            have y4 := (FA2.cell (World.block_lt_of_cell? _ _ y4) (fun x => x)).trans y4
            have Y4 := hid y4
            clear d0 d1 d2 d3 d4 d5 x0 x1 x2 x3 x4 FA2 SA SB SX FR HK1 HK2 y1
            obtain ⟨d0, d1⟩ := SA2.out.cells
            obtain ⟨d2, d3⟩ := SB2.out.cells
            generalize wr.heap.size = C at *
            generalize wr.alloc (.cells #[.int .i64 k', .int .i64 line', .int .i64 n', .string (bs name'), .slice KA kl.length KC] 36) = w9 at *
            have a0 : w9.cell? ⟨C, 0, none⟩ = some (.int .i64 k') := by simpa using XB.out.cell 0
            have a2 : w9.cell? ⟨C, 2, none⟩ = some (.int .i64 n') := by simpa using XB.out.cell 2
            have a3 : w9.cell? ⟨C, 3, none⟩ = some (.string (bs name')) := by simpa using XB.out.cell 3
            have a4 : w9.cell? ⟨C, 4, none⟩ = some (.slice KA kl.length KC) := by simpa using XB.out.cell 4
            go_quiet (fail)
            go_wp2_with fail
            clear d0 d1 d2 d3 a0 a2 a3 a4 y0 y2 y3 y4
            go_loopw [17] (fun i wq => ∃ m : Nat, m ≤ kl.length ∧ i = .int .i64 m ∧ Hid (Fr nob w9 wq)) (fun i _ => kl.length - (intOf i).toNat)
            case atStart => exact ⟨0, Nat.zero_le _, rfl, hid (by first | exact Fr.refl nob _ | exact (Fr.refl nob _).drewN _)⟩
            case round =>
              obtain ⟨m, hm, rfl, F2⟩ := hrel
              have X3 := hid (XB.out.fr F2.out (fun x => x))
              have a4 : wr.cell? ⟨C, 4, none⟩ = some (.slice KA kl.length KC) := by simpa using X3.out.cell 4
              have y4 := (F2.out.cell (World.block_lt_of_cell? _ _ Y4.out) (fun x => x)).trans Y4.out
              obtain ⟨d0, d1⟩ := (SA2.out.no F2.out).cells
              obtain ⟨d2, d3⟩ := (SB2.out.no F2.out).cells
              by_cases hml : m < kl.length
              · have hml2 : (m : Int) < (kl.length : Int) := by omega
                obtain ⟨q, hq⟩ : ∃ q, kl[m]? = some q := ⟨_, List.getElem?_eq_getElem hml⟩
                have hq3 := KL.out q (List.mem_of_getElem? hq)
                have hm6 : (m : Int) + 1 ≤ 9223372036854775807 := by omega
                have hq6 : (q : Int) ≤ 300 := by omega
                obtain ⟨pb, e, hc1⟩ := (K1.out.fr F2.out (fun _ _ x => x)).some (by omega)
                subst e
                obtain ⟨qb, e, hc2⟩ := (K2.out.fr F2.out (fun _ _ x => x)).some (by omega)
                subst e
                have p0 : wr.cell? ⟨pb, m, none⟩ = some (.int .i64 ((q : Int) + (nsa.length : Int))) := by
                  have := hc1 m (.int .i64 ((q + nsa.length : Nat) : Int)) (by rw [E4.out]; simp [ints, hq])
                  rw [Int.natCast_add] at this
                  simpa using this
                have q0 : wr.cell? ⟨qb, m, none⟩ = some (.int .i64 (q : Int)) := by simpa using hc2 m (.int .i64 (q : Nat)) (by simp [ints, hq])
                clear hc1 hc2 hq hq3
                go_wp2_with fail
                go_quiet (fail)
                go_wp2_with fail
                go_roundw
                case rel => exact ⟨m + 1, by omega, by go_num, hid (by first | exact F2.out | exact F2.out.drewN _)⟩
                case measure => simp [intOf]; omega
              · have hle : (kl.length : Int) ≤ (m : Int) := by omega
                go_wp2_with fail
                go_roundw
                case rel => exact ⟨j + 1, by omega, by go_num, hid (SA2.out.no F2.out), hid (SB2.out.no F2.out), hid (SX2.out.no F2.out), hid (FR2.out.tr F2.out)⟩
                case measure => simp [intOf]; omega
          · have hle : (nsb.length : Int) ≤ (j : Int) := by omega
            go_wp2_with fail
            clear d0 d1 d2 d3 d4 d5
            go_loopw [18] (fun i wr => ∃ j : Nat, j ≤ fsb.length ∧ i = .int .i64 j ∧ Hid (TB C1 (.slice NA nsa.length NC) (.slice FA fsa.length FC) lvs pvs nsa fsa wr) ∧ Hid (TB C2 (.slice UA nsb.length UC) (.slice GA fsb.length GC) lvs2 pvs2 nsb fsb wr) ∧ Hid (TB C3 (.slice XA ns.length XC) (.slice HA fs.length HC) lvs3 pvs3 ns fs wr) ∧ Hid (Fr nob w wr)) (fun i _ => fsb.length - (intOf i).toNat)
            case atStart => exact ⟨0, Nat.zero_le _, rfl, SA, SB, SX, FR⟩
            case round =>
              clear SA SB SX FR hlt hle
              obtain ⟨j, hj, rfl, SA, SB, SX, FR⟩ := hrel
              obtain ⟨d0, d1⟩ := SA.out.cells
              obtain ⟨d2, d3⟩ := SB.out.cells
              obtain ⟨d4, d5⟩ := SX.out.cells
              by_cases hlt : j < fsb.length
              · have hlt2 : (j : Int) < (fsb.length : Int) := by omega
                have hj6 : (j : Int) ≤ 300 := by omega
                have i1 : (fsa.length : Int) + (j : Int) < (fs.length : Int) := by omega
                have i2 : (fsa.length : Int) + (j : Int) ≤ 600 := by omega
                have i3 : 0 ≤ (fsa.length : Int) + (j : Int) := by omega
                obtain ⟨f, hf⟩ : ∃ f, fsb[j]? = some f := ⟨_, List.getElem?_eq_getElem hlt⟩
                obtain ⟨f', hf', e1, e2⟩ := JJ.out.fn j f hf
                have hbd := kid_lt (OKB.out.bodies f (List.mem_of_getElem? hf))
                obtain ⟨gb, e, _⟩ := SB.out.tree.fns.some (by omega)
                subst e
                obtain ⟨hb, e, _⟩ := SX.out.tree.fns.some (by omega)
                subst e
                obtain ⟨pv, hp, y0, y1, y2, y3, y4⟩ := SB.out.tree.fn hf
                obtain ⟨qv, hq, x0, x1, x2, x3, x4⟩ := SX.out.tree.fn hf'
                clear hf hf' hp hq
                obtain ⟨name, line, ps, ret, body⟩ := f
                obtain ⟨name', line', ps', ret', body'⟩ := f'
                dsimp only at e1 e2 x0 x1 x2 x3 x4 y0 y1 y2 y3 y4 hbd
                subst e1 e2
                have hb6 : (body : Int) ≤ 300 := by omega
                clear x1 x2 x3 y1 y2 y3
                go_wp2_with fail
                go_quiet (fail)
                go_wp2_with fail
                go_roundw
                case rel => exact ⟨j + 1, by omega, by go_num, hid (by first | exact SA.out | exact SA.out.no ((Fr.refl nob _).drewN _)), hid (by first | exact SB.out | exact SB.out.no ((Fr.refl nob _).drewN _)), hid (by first | exact SX.out | exact SX.out.no ((Fr.refl nob _).drewN _)), hid (by first | exact FR.out | exact FR.out.drewN _)⟩
                case measure => simp [intOf]; omega
              · have hle : (fsb.length : Int) ≤ (j : Int) := by omega
                go_wp2_with fail
                go_ret
                exact ⟨rfl, FR.out⟩
end Go.Proofs.YtjhhlmonomeofaaGreatDoor
