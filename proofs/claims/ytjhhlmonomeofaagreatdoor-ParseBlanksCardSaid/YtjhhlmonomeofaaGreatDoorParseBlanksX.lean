/- ParseBlanks: the walk. Printed by wip/tools/mkparseblanks.py. -/
import Derived.Test.YtjhhlmonomeofaaGreatDoorRLB
import Derived.Test.YtjhhlmonomeofaaGreatDoorTrZ
namespace Go.Proofs.YtjhhlmonomeofaaGreatDoor
open Go.RowKit
set_option linter.unusedVariables false
set_option linter.unusedSimpArgs false
theorem bad_pos3 {l : List UInt8} {p e : Nat} (h : parseM l = some (.bad p e)) : ((e : Int) != 0) = true := by
  have : 1 ≤ e := by
    unfold parseM at h
    cases hl : lexM l with
    | bad i k =>
      rw [hl] at h
      simp at h
      have := lexM_bad hl
      omega
    | good ts =>
      rw [hl] at h
      simp only [parseT, Option.map_eq_some_iff] at h
      obtain ⟨q, hq, h⟩ := h
      split at h
      · injection h with h1 h2
        omega
      · split at h
        · injection h with h1 h2
          omega
        · cases h
  have h0 : ((e : Int) == 0) = false := beq_eq_false_iff_ne.2 (by omega)
  rw [bne, h0]; rfl
theorem cut300 (s : ByteArray) (h : ¬ s.size ≤ 300) : (s.extract 0 300).size ≤ 300 := by
  have : (s.extract 0 300).data.toList = s.data.toList.take 300 := by rw [Lib.extract_data]; simp
  have h2 := congrArg List.length this
  rw [List.length_take] at h2
  have h3 : (s.extract 0 300).data.toList.length = (s.extract 0 300).size := by simp
  omega
theorem bs_app (a b : List UInt8) : bs a ++ bs b = bs (a ++ b) := by
  show _ = (⟨(a ++ b).toArray⟩ : ByteArray)
  have h : (bs a ++ bs b).data.toList = a ++ b := by rw [cat_data]; rfl
  rw [← h, Array.toArray_toList]
theorem lexeme_text (t : Tok) (h : t.kind = 2) (G : List UInt8) : bs G ++ ((⟨#[34]⟩ : ByteArray) ++ bs t.text ++ (⟨#[34]⟩ : ByteArray)) ++ (⟨#[10]⟩ : ByteArray) = bs (G ++ (lexeme t ++ [10])) := by
  show bs G ++ (bs [34] ++ bs t.text ++ bs [34]) ++ bs [10] = _
  rw [bs_app, bs_app, bs_app, bs_app]
  unfold lexeme
  rw [if_pos h]
  simp
theorem lexeme_other (t : Tok) (h : t.kind ≠ 2) (G : List UInt8) : bs G ++ bs t.text ++ (⟨#[10]⟩ : ByteArray) = bs (G ++ (lexeme t ++ [10])) := by
  show bs G ++ bs t.text ++ bs [10] = _
  rw [bs_app, bs_app]
  unfold lexeme
  rw [if_neg h]
  simp
theorem lexeme_len (t : Tok) : t.text.length ≤ (lexeme t).length := by
  unfold lexeme
  split <;> simp <;> omega
theorem apart_take (K : List Tok) (i : Nat) (h : i + 1 ≤ K.length) : (apartL (K.take i)).length ≤ (apartL K.dropLast).length := by
  have : K.dropLast = K.take i ++ (K.dropLast.drop i) := by
    rw [List.dropLast_eq_take]
    conv => lhs; rw [← List.take_append_drop i (K.take (K.length - 1))]
    rw [List.take_take, Nat.min_eq_left (by omega)]
  rw [this]
  unfold apartL
  rw [List.flatMap_append, List.length_append]
  omega
theorem apart_succ (K : List Tok) (i : Nat) (t : Tok) (h : K[i]? = some t) : apartL (K.take (i + 1)) = apartL (K.take i) ++ (lexeme t ++ [10]) := by
  unfold apartL
  rw [List.take_add_one, h, List.flatMap_append]
  simp
theorem fr_zero {fs gs : List FuncM} (hl : fs.length = gs.length) (h : ∀ (i : Nat) (f g : FuncM), fs[i]? = some f → gs[i]? = some g → FR 0 f g) : gs.map zeroF = fs.map zeroF := by
  apply List.ext_getElem?
  intro i
  rw [List.getElem?_map, List.getElem?_map]
  cases hf : fs[i]? with
  | none =>
    have : gs[i]? = none := by rw [List.getElem?_eq_none_iff] at hf ⊢; omega
    rw [this]
  | some f =>
    obtain ⟨g, hg⟩ : ∃ g, gs[i]? = some g := ⟨_, List.getElem?_eq_getElem (by have := (List.getElem?_eq_some_iff.1 hf).1; omega)⟩
    rw [hg]
    have r := h i f g hf hg
    obtain ⟨a, b, c, d, e⟩ := f
    obtain ⟨a', b', c', d', e'⟩ := g
    obtain ⟨r1, r2, r3, r4⟩ := r
    dsimp only at r1 r2 r3 r4
    subst r1 r2 r3
    rw [Nat.add_zero] at r4
    subst r4
    rfl
set_option maxHeartbeats 16000000 in
set_option maxRecDepth 100000 in
theorem parseblanks_1 (s : ByteArray) (w : World) (hv : PVars w) (hM1 : s.size ≤ 300) :
    Calls Tryz.prog 7 #[.string s] w fun e w' => e = .returned (.bool true) ∧ Fr nob w w' := by
  have V := hid hv
  have HSD := hid (shown_any w hv)
  have HP := hid (fun (M : ByteArray) (hM : M.size ≤ 300) w' hv' r (hr : parseM M.data.toList = some r) => qall_any M w' (by omega) hv' (r := r) hr)
  have HL := hid (fun (M : ByteArray) (hM : M.size ≤ 300) w' => rall_any M w' (by omega))
  have s1 : (s.size : Int) ≤ 300 := by omega
  have HM1 := hid hM1
  clear hv hM1
  go_enter Tryz.func7, Tryz.ntmps7
  go_wp2_with fail
  refine HSD.out.mono ?_
  rintro e w1 ⟨rfl, hf⟩
  have F1 := hid hf
  clear hf
  go_wp2_with fail
  obtain ⟨ra, hra⟩ := parse_some s.data.toList
  cases ra with
  | bad pa ea =>
    refine (HP.out s HM1.out _ (V.out.no F1.out) _ hra).mono ?_
    rintro e w3 ⟨hpa, hf⟩
    have hpa : e = .returned (.tuple #[.agg #[.slice none 0 0, .slice none 0 0], .int .i64 pa, .int .i64 ea]) := hpa
    subst hpa
    have he2 := bad_pos3 hra
    have F3 := hid (F1.out.tr hf)
    clear hf
    go_wp2_with fail
    have F4 := hid (F3.out.alloc (.cells #[.slice none 0 0, .slice none 0 0] 27))
    generalize w3.alloc (.cells #[.slice none 0 0, .slice none 0 0] 27) = w4 at *
    refine (HL.out s HM1.out _).mono ?_
    cases hlx : lexM s.data.toList with
    | bad lp le =>
      rintro e w5 ⟨rfl, hf⟩
      have F5 := hid (F4.out.tr hf)
      clear hf
      go_wp2_with fail
      go_ret
      exact ⟨rfl, F5.out⟩
    | good ts =>
      rintro e w5 ⟨⟨v, rfl, htk⟩, hf⟩
      obtain ⟨A, tc, rfl, hc1, hc2⟩ := htk.slice
      have F5 := hid (F4.out.tr hf)
      clear hf htk
      go_wp2_with fail
      go_ret
      exact ⟨rfl, F5.out⟩
  | good ns fs =>
    obtain ⟨ts, hlx⟩ : ∃ ts, lexM s.data.toList = .good ts := by
      obtain ⟨ts, q9, hlx, _⟩ := good_of hra
      exact ⟨ts, hlx⟩
    refine (HP.out s HM1.out _ (V.out.no F1.out) _ hra).mono ?_
    rintro e w3 ⟨⟨nv, fv, lvs, pvs, rfl, ht⟩, hf⟩
    obtain ⟨NA, NC, rfl, _, _⟩ := ht.nodes.cap
    obtain ⟨FA, FC, rfl, _, _⟩ := ht.fns.cap
    have F3 := hid (F1.out.tr hf)
    have TT := hid ht.zero
    have N1 := hid (show ∀ k, blk (.slice NA ns.length NC) = some k → w.heap.size ≤ k from fun k hk => Nat.le_trans F1.out.size (ht.newn k hk))
    have N3 := hid (show ∀ k, blk (.slice FA fs.length FC) = some k → w.heap.size ≤ k from fun k hk => Nat.le_trans F1.out.size (ht.newf k hk))
    clear hf ht
    go_wp2_with fail
    have F4 := hid (F3.out.alloc (.cells #[.slice NA ns.length NC, .slice FA fs.length FC] 27))
    have BA := hid (show TB w3.heap.size _ _ lvs pvs ns fs (w3.alloc (.cells #[.slice NA ns.length NC, .slice FA fs.length FC] 27)) from ⟨TT.out.no ((Fr.refl nob w3).alloc _), Blk.new w3 _ _⟩)
    clear TT
    generalize w3.alloc (.cells #[.slice NA ns.length NC, .slice FA fs.length FC] 27) = w4 at *
    generalize w3.heap.size = B at *
    have HLX := hid (HL.out s HM1.out w4)
    rw [hlx] at HLX
    obtain ⟨ap1, ap2, ap3⟩ := parse_apart hra hlx
    have PS := parse_small hra
    have hns : ns.length ≤ 300 := PS.1
    have hfs : fs.length ≤ 6 := PS.2.1
    have PL := hid (show ∀ f ∈ fs, f.params.length ≤ 3 from PS.2.2)
    have TP := hid (show 0 < ts.length from (lexM_toks hlx).pos)
    have hfew := lexM_few hlx
    have hts : (ts.length : Int) ≤ 1000 := by omega
    have AP2 := hid ap2
    have AP3 := hid ap3
    have AP1 := hid ap1
    clear PS hlx hra ap1 ap2 ap3 hfew
    refine HLX.out.mono ?_
    rintro e w5 ⟨⟨v, rfl, htk⟩, hf⟩
    obtain ⟨A, tc, rfl, hc1, hc2⟩ := htk.slice
    have F5 := hid (F4.out.tr hf)
    have BA5 := hid (BA.out.no hf)
    have TA := hid htk
    clear hf htk HLX BA hc1 hc2
    go_wp2_with fail
    obtain ⟨tb, rfl, _, _, hat1⟩ := TA.out.some TP.out
    have H1 := hid hat1
    clear hat1
    go_loopw [10, 11] (fun x i wr => ∃ n : Nat, n + 1 ≤ ts.length ∧ x = .string (bs (apartL (ts.take n))) ∧ i = .int .i64 n ∧ wr = w5) (fun _ i _ => ts.length - (intOf i).toNat)
    case atStart => exact ⟨0, TP.out, rfl, rfl, rfl⟩
    case round =>
      obtain ⟨n, hn, rfl, rfl, hwr⟩ := hrel
      subst hwr
      have hK1 : (1 : Int) ≤ (ts.length : Int) := by omega
      by_cases hlt : n + 1 < ts.length
      · have hlt1 : (n : Int) < (ts.length : Int) - 1 := by omega
        have hlt2 : (n : Int) < (ts.length : Int) := by omega
        obtain ⟨tk, htk⟩ : ∃ tk, ts[n]? = some tk := ⟨ts[n], List.getElem?_eq_getElem (by omega)⟩
        obtain ⟨x0, x1, x2⟩ := H1.out n tk htk
        have hsu := apart_succ ts n tk htk
        have hle := apart_take ts (n + 1) (by omega)
        have hG2 := AP1.out
        rw [hsu, List.length_append, List.length_append] at hle
        have hsl := lexeme_len tk
        have ht12 : tk.text.length ≤ 1200 := by omega
        have hg12 : (apartL (ts.take n)).length ≤ 1200 := by omega
        have SU := hid hsu
        clear hsu hle hG2 hsl htk hlt
        generalize apartL (ts.take n) = G at *
        have hgs : (bs G).size ≤ 1200 := by rw [bs_size]; exact hg12
        have htt : (bs tk.text).size ≤ 1200 := by rw [bs_size]; exact ht12
        have q34 : (⟨#[34]⟩ : ByteArray).size = 1 := rfl
        have q10 : (⟨#[10]⟩ : ByteArray).size = 1 := rfl
        by_cases hk : tk.kind = 2
        · have HC := hid (lexeme_text tk hk G)
          have hkb : ((tk.kind : Int) == 2) = true := by simp; omega
          clear hk
          generalize bs tk.text = tt at *
          generalize hgm : bs G = gm at *
          have hz1 : (⟨#[34]⟩ : ByteArray).size + tt.size ≤ 9223372036854775807 := by omega
          have hz2 : ((⟨#[34]⟩ : ByteArray) ++ tt).size + (⟨#[34]⟩ : ByteArray).size ≤ 9223372036854775807 := by
            rw [ByteArray.size_append]; omega
          have hz3 : gm.size + ((⟨#[34]⟩ : ByteArray) ++ tt ++ (⟨#[34]⟩ : ByteArray)).size ≤ 9223372036854775807 := by
            rw [ByteArray.size_append, ByteArray.size_append]; omega
          have hz4 : (gm ++ ((⟨#[34]⟩ : ByteArray) ++ tt ++ (⟨#[34]⟩ : ByteArray))).size + (⟨#[10]⟩ : ByteArray).size ≤ 9223372036854775807 := by
            rw [ByteArray.size_append, ByteArray.size_append, ByteArray.size_append]; omega
          clear hgm q34 q10
          go_wp2_with fail
          go_roundw
          case rel => exact ⟨n + 1, by omega, by rw [SU.out, ← HC.out], by go_num, trivial⟩
          case measure => simp [intOf]; omega
        · have HC := hid (lexeme_other tk hk G)
          have hkb : ((tk.kind : Int) == 2) = false := by simp; omega
          clear hk
          generalize bs tk.text = tt at *
          generalize hgm : bs G = gm at *
          have hz1 : gm.size + tt.size ≤ 9223372036854775807 := by omega
          have hz2 : (gm ++ tt).size + (⟨#[10]⟩ : ByteArray).size ≤ 9223372036854775807 := by
            rw [ByteArray.size_append]; omega
          clear hgm q34 q10
          go_wp2_with fail
          go_roundw
          case rel => exact ⟨n + 1, by omega, by rw [SU.out, ← HC.out], by go_num, trivial⟩
          case measure => simp [intOf]; omega
      · have hge1 : (ts.length : Int) - 1 ≤ (n : Int) := by omega
        have hd : ts.take n = ts.dropLast := by rw [List.dropLast_eq_take, show ts.length - 1 = n by omega]
        rw [hd]
        clear hd hlt
        generalize apartL ts.dropLast = G at *
        have hbl2 : (bs G).size = G.length := bs_size G
        have hG := AP1.out
        by_cases hbig : 600 < G.length
        · have HPG := hid (fun w' hv' => qall_any (bs G) w' (by rw [bs_size]; omega) hv' (r := .bad 0 4) (AP2.out hbig))
          generalize bs G = gm at *
          have hbig2 : (600 : Int) < (gm.size : Int) := by omega
          clear hbig hbl2 hG
          go_wp2_with fail
          refine (HPG.out _ (V.out.no F5.out)).mono ?_
          rintro e w6 ⟨hpj, hf⟩
          have hpj : e = .returned (.tuple #[.agg #[.slice none 0 0, .slice none 0 0], .int .i64 ((0 : Nat) : Int), .int .i64 ((4 : Nat) : Int)]) := hpj
          subst hpj
          have F6 := hid ((F5.out.tr hf).alloc (.cells #[.slice none 0 0, .slice none 0 0] 27))
          clear hf
          go_wp2_with fail
          generalize w6.alloc (.cells #[.slice none 0 0, .slice none 0 0] 27) = w8 at *
          go_ret
          exact ⟨rfl, F6.out⟩
        · obtain ⟨us, gs, hpu, hun, hfl, hfr⟩ := AP3.out (by omega)
          have HPG := hid (fun w' hv' => qall_any (bs G) w' (by rw [bs_size]; omega) hv' (r := .good us gs) hpu)
          have EN := hid (show us.map zeroN = ns.map zeroN from hun)
          have EF := hid (fr_zero hfl hfr)
          have hus : us.length = ns.length := by have := congrArg List.length hun; simpa using this
          have hl4 : (ns.length : Int) ≤ 300 := by omega
          have hl5 : (us.length : Int) ≤ 300 := by omega
          have hl6 : (fs.length : Int) ≤ 6 := by omega
          have hl7 : (gs.length : Int) ≤ 6 := by omega
          generalize bs G = gm at *
          have hbig2 : (gm.size : Int) ≤ 600 := by omega
          clear hbig hbl2 hG hpu hun hfl hfr hus
          go_wp2_with fail
          refine (HPG.out _ (V.out.no F5.out)).mono ?_
          rintro e w6 ⟨⟨nu, fu, lvs2, pvs2, rfl, ht⟩, hf⟩
          obtain ⟨MA, MC, rfl, _, _⟩ := ht.nodes.cap
          obtain ⟨GA, GC, rfl, _, _⟩ := ht.fns.cap
          have U0 := hid ht.zero
          have N2 := hid (show ∀ k, blk (.slice MA us.length MC) = some k → w.heap.size ≤ k from fun k hk => Nat.le_trans F5.out.size (ht.newn k hk))
          have N4 := hid (show ∀ k, blk (.slice GA gs.length GC) = some k → w.heap.size ≤ k from fun k hk => Nat.le_trans F5.out.size (ht.newf k hk))
          have DN := hid (show ∀ k, blk (.slice NA ns.length NC) = some k → blk (.slice MA us.length MC) ≠ some k from fun k h1 h2 => by
            have a := BA5.out.tree.nodes.blk_lt h1
            have b := ht.newn k h2
            omega)
          have DF := hid (show ∀ k, blk (.slice FA fs.length FC) = some k → blk (.slice GA gs.length GC) ≠ some k from fun k h1 h2 => by
            have a := BA5.out.tree.fns.blk_lt h1
            have b := ht.newf k h2
            omega)
          have Z8 := hid (show ZZ w B w6.heap.size (.slice NA ns.length NC) (.slice FA fs.length FC) (.slice MA us.length MC) (.slice GA gs.length GC) lvs pvs lvs2 pvs2 (zp zeroN 0 ns) (zp zeroN 0 us) (zp zeroF 0 fs) (zp zeroF 0 gs) (w6.alloc (.cells #[.slice MA us.length MC, .slice GA gs.length GC] 27)) from
            ⟨BA5.out.no (hf.alloc _), ⟨U0.out.no ((Fr.refl nob w6).alloc _), Blk.new w6 _ _⟩, (F5.out.tr hf).alloc _, DN.out, DF.out, N1.out, N2.out, N3.out, N4.out⟩)
          clear ht hf U0 BA5
          go_wp2_with fail
          generalize w6.heap.size = C at *
          generalize w6.alloc (.cells #[.slice MA us.length MC, .slice GA gs.length GC] 27) = w8 at *
          clear hbig2
          go_loopw [16] (fun i wr => ∃ j : Nat, j ≤ ns.length ∧ i = .int .i64 j ∧ Hid (ZZ w B C (.slice NA ns.length NC) (.slice FA fs.length FC) (.slice MA us.length MC) (.slice GA gs.length GC) lvs pvs lvs2 pvs2 (zp zeroN j ns) (zp zeroN 0 us) (zp zeroF 0 fs) (zp zeroF 0 gs) wr)) (fun i _ => ns.length - (intOf i).toNat)
          case atStart => exact ⟨0, Nat.zero_le _, rfl, Z8⟩
          case round =>
            clear Z8
            obtain ⟨j, hj, rfl, Z⟩ := hrel
            obtain ⟨d0, d1⟩ := Z.out.t.cells
            obtain ⟨d2, d3⟩ := Z.out.u.cells
            by_cases hlt : j < ns.length
            · have hlt2 : (j : Int) < (ns.length : Int) := by omega
              have hj6 : (j : Int) ≤ 300 := by omega
              obtain ⟨nd, hnd⟩ : ∃ nd, ns[j]? = some nd := ⟨_, List.getElem?_eq_getElem hlt⟩
              obtain ⟨nb, rfl, x1, x2, hz⟩ := Z.out.tn hnd
              have Z2 := hid hz
              clear hz hnd
              go_wp2_with fail
              go_roundw
              case rel => exact ⟨j + 1, by omega, by go_num, Z2⟩
              case measure => simp [intOf]; omega
            · have hle : (ns.length : Int) ≤ (j : Int) := by omega
              have hje : j = ns.length := by omega
              have Z9 := hid (show ZZ w B C (.slice NA ns.length NC) (.slice FA fs.length FC) (.slice MA us.length MC) (.slice GA gs.length GC) lvs pvs lvs2 pvs2 (ns.map zeroN) (zp zeroN 0 us) (zp zeroF 0 fs) (zp zeroF 0 gs) wr from by
                have := Z.out
                rw [hje, zp_all] at this; exact this)
              clear hje Z hlt
              go_wp2_with fail
              clear d0 d1 d2 d3
              go_loopw [17] (fun i wr => ∃ j : Nat, j ≤ us.length ∧ i = .int .i64 j ∧ Hid (ZZ w B C (.slice NA ns.length NC) (.slice FA fs.length FC) (.slice MA us.length MC) (.slice GA gs.length GC) lvs pvs lvs2 pvs2 (ns.map zeroN) (zp zeroN j us) (zp zeroF 0 fs) (zp zeroF 0 gs) wr)) (fun i _ => us.length - (intOf i).toNat)
              case atStart => exact ⟨0, Nat.zero_le _, rfl, Z9⟩
              case round =>
                clear Z9
                obtain ⟨j, hj, rfl, Z⟩ := hrel
                obtain ⟨d0, d1⟩ := Z.out.t.cells
                obtain ⟨d2, d3⟩ := Z.out.u.cells
                by_cases hlt : j < us.length
                · have hlt2 : (j : Int) < (us.length : Int) := by omega
                  have hj6 : (j : Int) ≤ 300 := by omega
                  obtain ⟨nd, hnd⟩ : ∃ nd, us[j]? = some nd := ⟨_, List.getElem?_eq_getElem hlt⟩
                  obtain ⟨nb, rfl, x1, x2, hz⟩ := Z.out.un hnd
                  have Z2 := hid hz
                  clear hz hnd
                  go_wp2_with fail
                  go_roundw
                  case rel => exact ⟨j + 1, by omega, by go_num, Z2⟩
                  case measure => simp [intOf]; omega
                · have hle : (us.length : Int) ≤ (j : Int) := by omega
                  have hje : j = us.length := by omega
                  have Z9 := hid (show ZZ w B C (.slice NA ns.length NC) (.slice FA fs.length FC) (.slice MA us.length MC) (.slice GA gs.length GC) lvs pvs lvs2 pvs2 (ns.map zeroN) (us.map zeroN) (zp zeroF 0 fs) (zp zeroF 0 gs) wr from by
                    have := Z.out
                    rw [hje, zp_all] at this; exact this)
                  clear hje Z hlt
                  go_wp2_with fail
                  clear d0 d1 d2 d3
                  go_loopw [18] (fun i wr => ∃ j : Nat, j ≤ fs.length ∧ i = .int .i64 j ∧ Hid (ZZ w B C (.slice NA ns.length NC) (.slice FA fs.length FC) (.slice MA us.length MC) (.slice GA gs.length GC) lvs pvs lvs2 pvs2 (ns.map zeroN) (us.map zeroN) (zp zeroF j fs) (zp zeroF 0 gs) wr)) (fun i _ => fs.length - (intOf i).toNat)
                  case atStart => exact ⟨0, Nat.zero_le _, rfl, Z9⟩
                  case round =>
                    clear Z9
                    obtain ⟨j, hj, rfl, Z⟩ := hrel
                    obtain ⟨d0, d1⟩ := Z.out.t.cells
                    obtain ⟨d2, d3⟩ := Z.out.u.cells
                    by_cases hlt : j < fs.length
                    · have hlt2 : (j : Int) < (fs.length : Int) := by omega
                      have hj6 : (j : Int) ≤ 6 := by omega
                      obtain ⟨nd, hnd⟩ : ∃ nd, fs[j]? = some nd := ⟨_, List.getElem?_eq_getElem hlt⟩
                      obtain ⟨nb, rfl, x1, x2, hz⟩ := Z.out.tf hnd
                      have Z2 := hid hz
                      clear hz hnd
                      go_wp2_with fail
                      go_roundw
                      case rel => exact ⟨j + 1, by omega, by go_num, Z2⟩
                      case measure => simp [intOf]; omega
                    · have hle : (fs.length : Int) ≤ (j : Int) := by omega
                      have hje : j = fs.length := by omega
                      have Z9 := hid (show ZZ w B C (.slice NA ns.length NC) (.slice FA fs.length FC) (.slice MA us.length MC) (.slice GA gs.length GC) lvs pvs lvs2 pvs2 (ns.map zeroN) (us.map zeroN) (fs.map zeroF) (zp zeroF 0 gs) wr from by
                        have := Z.out
                        rw [hje, zp_all] at this; exact this)
                      clear hje Z hlt
                      go_wp2_with fail
                      clear d0 d1 d2 d3
                      go_loopw [19] (fun i wr => ∃ j : Nat, j ≤ gs.length ∧ i = .int .i64 j ∧ Hid (ZZ w B C (.slice NA ns.length NC) (.slice FA fs.length FC) (.slice MA us.length MC) (.slice GA gs.length GC) lvs pvs lvs2 pvs2 (ns.map zeroN) (us.map zeroN) (fs.map zeroF) (zp zeroF j gs) wr)) (fun i _ => gs.length - (intOf i).toNat)
                      case atStart => exact ⟨0, Nat.zero_le _, rfl, Z9⟩
                      case round =>
                        clear Z9
                        obtain ⟨j, hj, rfl, Z⟩ := hrel
                        obtain ⟨d0, d1⟩ := Z.out.t.cells
                        obtain ⟨d2, d3⟩ := Z.out.u.cells
                        by_cases hlt : j < gs.length
                        · have hlt2 : (j : Int) < (gs.length : Int) := by omega
                          have hj6 : (j : Int) ≤ 6 := by omega
                          obtain ⟨nd, hnd⟩ : ∃ nd, gs[j]? = some nd := ⟨_, List.getElem?_eq_getElem hlt⟩
                          obtain ⟨nb, rfl, x1, x2, hz⟩ := Z.out.uf hnd
                          have Z2 := hid hz
                          clear hz hnd
                          go_wp2_with fail
                          go_roundw
                          case rel => exact ⟨j + 1, by omega, by go_num, Z2⟩
                          case measure => simp [intOf]; omega
                        · have hle : (gs.length : Int) ≤ (j : Int) := by omega
                          have hje : j = gs.length := by omega
                          have Z9 := hid (show ZZ w B C (.slice NA ns.length NC) (.slice FA fs.length FC) (.slice MA us.length MC) (.slice GA gs.length GC) lvs pvs lvs2 pvs2 (ns.map zeroN) (us.map zeroN) (fs.map zeroF) (gs.map zeroF) wr from by
                            have := Z.out
                            rw [hje, zp_all] at this; exact this)
                          clear hje Z hlt
                          have HT := hid (same_any (nv := .slice NA ns.length NC) (fv := .slice FA fs.length FC) (nv2 := .slice MA us.length MC) (fv2 := .slice GA gs.length GC) Z9.out.t.tree (by have h1 := Z9.out.u.tree; rw [EN.out, EF.out] at h1; exact h1) (by rw [List.length_map]; omega) (by rw [List.length_map]; omega) (fun f hf => by
                            obtain ⟨g, hg, rfl⟩ := List.mem_map.1 hf
                            have := PL.out g hg
                            show g.params.length ≤ 1000
                            omega))
                          go_wp2_with fail
                          refine HT.out.mono ?_
                          rintro e w9 ⟨rfl, hf⟩
                          have F9 := hid (Z9.out.fr.tr hf)
                          clear hf
                          go_wp2_with fail
                          go_ret
                          exact ⟨by simp, F9.out⟩
set_option maxHeartbeats 16000000 in
set_option maxRecDepth 100000 in
theorem parseblanks_2 (s : ByteArray) (w : World) (hv : PVars w) (hM1 : ¬ s.size ≤ 300) :
    Calls Tryz.prog 7 #[.string s] w fun e w' => e = .returned (.bool true) ∧ Fr nob w w' := by
  have V := hid hv
  have HSD := hid (shown_any w hv)
  have HP := hid (fun (M : ByteArray) (hM : M.size ≤ 300) w' hv' r (hr : parseM M.data.toList = some r) => qall_any M w' (by omega) hv' (r := r) hr)
  have HL := hid (fun (M : ByteArray) (hM : M.size ≤ 300) w' => rall_any M w' (by omega))
  have s1 : 300 < (s.size : Int) := by omega
  have HM1 := hid (cut300 s hM1)
  clear hv hM1
  go_enter Tryz.func7, Tryz.ntmps7
  go_wp2_with fail
  refine HSD.out.mono ?_
  rintro e w1 ⟨rfl, hf⟩
  have F1 := hid hf
  clear hf
  go_wp2_with fail
  generalize s.extract 0 300 = M1 at *
  obtain ⟨ra, hra⟩ := parse_some M1.data.toList
  cases ra with
  | bad pa ea =>
    refine (HP.out M1 HM1.out _ (V.out.no F1.out) _ hra).mono ?_
    rintro e w3 ⟨hpa, hf⟩
    have hpa : e = .returned (.tuple #[.agg #[.slice none 0 0, .slice none 0 0], .int .i64 pa, .int .i64 ea]) := hpa
    subst hpa
    have he2 := bad_pos3 hra
    have F3 := hid (F1.out.tr hf)
    clear hf
    go_wp2_with fail
    have F4 := hid (F3.out.alloc (.cells #[.slice none 0 0, .slice none 0 0] 27))
    generalize w3.alloc (.cells #[.slice none 0 0, .slice none 0 0] 27) = w4 at *
    refine (HL.out M1 HM1.out _).mono ?_
    cases hlx : lexM M1.data.toList with
    | bad lp le =>
      rintro e w5 ⟨rfl, hf⟩
      have F5 := hid (F4.out.tr hf)
      clear hf
      go_wp2_with fail
      go_ret
      exact ⟨rfl, F5.out⟩
    | good ts =>
      rintro e w5 ⟨⟨v, rfl, htk⟩, hf⟩
      obtain ⟨A, tc, rfl, hc1, hc2⟩ := htk.slice
      have F5 := hid (F4.out.tr hf)
      clear hf htk
      go_wp2_with fail
      go_ret
      exact ⟨rfl, F5.out⟩
  | good ns fs =>
    obtain ⟨ts, hlx⟩ : ∃ ts, lexM M1.data.toList = .good ts := by
      obtain ⟨ts, q9, hlx, _⟩ := good_of hra
      exact ⟨ts, hlx⟩
    refine (HP.out M1 HM1.out _ (V.out.no F1.out) _ hra).mono ?_
    rintro e w3 ⟨⟨nv, fv, lvs, pvs, rfl, ht⟩, hf⟩
    obtain ⟨NA, NC, rfl, _, _⟩ := ht.nodes.cap
    obtain ⟨FA, FC, rfl, _, _⟩ := ht.fns.cap
    have F3 := hid (F1.out.tr hf)
    have TT := hid ht.zero
    have N1 := hid (show ∀ k, blk (.slice NA ns.length NC) = some k → w.heap.size ≤ k from fun k hk => Nat.le_trans F1.out.size (ht.newn k hk))
    have N3 := hid (show ∀ k, blk (.slice FA fs.length FC) = some k → w.heap.size ≤ k from fun k hk => Nat.le_trans F1.out.size (ht.newf k hk))
    clear hf ht
    go_wp2_with fail
    have F4 := hid (F3.out.alloc (.cells #[.slice NA ns.length NC, .slice FA fs.length FC] 27))
    have BA := hid (show TB w3.heap.size _ _ lvs pvs ns fs (w3.alloc (.cells #[.slice NA ns.length NC, .slice FA fs.length FC] 27)) from ⟨TT.out.no ((Fr.refl nob w3).alloc _), Blk.new w3 _ _⟩)
    clear TT
    generalize w3.alloc (.cells #[.slice NA ns.length NC, .slice FA fs.length FC] 27) = w4 at *
    generalize w3.heap.size = B at *
    have HLX := hid (HL.out M1 HM1.out w4)
    rw [hlx] at HLX
    obtain ⟨ap1, ap2, ap3⟩ := parse_apart hra hlx
    have PS := parse_small hra
    have hns : ns.length ≤ 300 := PS.1
    have hfs : fs.length ≤ 6 := PS.2.1
    have PL := hid (show ∀ f ∈ fs, f.params.length ≤ 3 from PS.2.2)
    have TP := hid (show 0 < ts.length from (lexM_toks hlx).pos)
    have hfew := lexM_few hlx
    have hts : (ts.length : Int) ≤ 1000 := by omega
    have AP2 := hid ap2
    have AP3 := hid ap3
    have AP1 := hid ap1
    clear PS hlx hra ap1 ap2 ap3 hfew
    refine HLX.out.mono ?_
    rintro e w5 ⟨⟨v, rfl, htk⟩, hf⟩
    obtain ⟨A, tc, rfl, hc1, hc2⟩ := htk.slice
    have F5 := hid (F4.out.tr hf)
    have BA5 := hid (BA.out.no hf)
    have TA := hid htk
    clear hf htk HLX BA hc1 hc2
    go_wp2_with fail
    obtain ⟨tb, rfl, _, _, hat1⟩ := TA.out.some TP.out
    have H1 := hid hat1
    clear hat1
    go_loopw [10, 11] (fun x i wr => ∃ n : Nat, n + 1 ≤ ts.length ∧ x = .string (bs (apartL (ts.take n))) ∧ i = .int .i64 n ∧ wr = w5) (fun _ i _ => ts.length - (intOf i).toNat)
    case atStart => exact ⟨0, TP.out, rfl, rfl, rfl⟩
    case round =>
      obtain ⟨n, hn, rfl, rfl, hwr⟩ := hrel
      subst hwr
      have hK1 : (1 : Int) ≤ (ts.length : Int) := by omega
      by_cases hlt : n + 1 < ts.length
      · have hlt1 : (n : Int) < (ts.length : Int) - 1 := by omega
        have hlt2 : (n : Int) < (ts.length : Int) := by omega
        obtain ⟨tk, htk⟩ : ∃ tk, ts[n]? = some tk := ⟨ts[n], List.getElem?_eq_getElem (by omega)⟩
        obtain ⟨x0, x1, x2⟩ := H1.out n tk htk
        have hsu := apart_succ ts n tk htk
        have hle := apart_take ts (n + 1) (by omega)
        have hG2 := AP1.out
        rw [hsu, List.length_append, List.length_append] at hle
        have hsl := lexeme_len tk
        have ht12 : tk.text.length ≤ 1200 := by omega
        have hg12 : (apartL (ts.take n)).length ≤ 1200 := by omega
        have SU := hid hsu
        clear hsu hle hG2 hsl htk hlt
        generalize apartL (ts.take n) = G at *
        have hgs : (bs G).size ≤ 1200 := by rw [bs_size]; exact hg12
        have htt : (bs tk.text).size ≤ 1200 := by rw [bs_size]; exact ht12
        have q34 : (⟨#[34]⟩ : ByteArray).size = 1 := rfl
        have q10 : (⟨#[10]⟩ : ByteArray).size = 1 := rfl
        by_cases hk : tk.kind = 2
        · have HC := hid (lexeme_text tk hk G)
          have hkb : ((tk.kind : Int) == 2) = true := by simp; omega
          clear hk
          generalize bs tk.text = tt at *
          generalize hgm : bs G = gm at *
          have hz1 : (⟨#[34]⟩ : ByteArray).size + tt.size ≤ 9223372036854775807 := by omega
          have hz2 : ((⟨#[34]⟩ : ByteArray) ++ tt).size + (⟨#[34]⟩ : ByteArray).size ≤ 9223372036854775807 := by
            rw [ByteArray.size_append]; omega
          have hz3 : gm.size + ((⟨#[34]⟩ : ByteArray) ++ tt ++ (⟨#[34]⟩ : ByteArray)).size ≤ 9223372036854775807 := by
            rw [ByteArray.size_append, ByteArray.size_append]; omega
          have hz4 : (gm ++ ((⟨#[34]⟩ : ByteArray) ++ tt ++ (⟨#[34]⟩ : ByteArray))).size + (⟨#[10]⟩ : ByteArray).size ≤ 9223372036854775807 := by
            rw [ByteArray.size_append, ByteArray.size_append, ByteArray.size_append]; omega
          clear hgm q34 q10
          go_wp2_with fail
          go_roundw
          case rel => exact ⟨n + 1, by omega, by rw [SU.out, ← HC.out], by go_num, trivial⟩
          case measure => simp [intOf]; omega
        · have HC := hid (lexeme_other tk hk G)
          have hkb : ((tk.kind : Int) == 2) = false := by simp; omega
          clear hk
          generalize bs tk.text = tt at *
          generalize hgm : bs G = gm at *
          have hz1 : gm.size + tt.size ≤ 9223372036854775807 := by omega
          have hz2 : (gm ++ tt).size + (⟨#[10]⟩ : ByteArray).size ≤ 9223372036854775807 := by
            rw [ByteArray.size_append]; omega
          clear hgm q34 q10
          go_wp2_with fail
          go_roundw
          case rel => exact ⟨n + 1, by omega, by rw [SU.out, ← HC.out], by go_num, trivial⟩
          case measure => simp [intOf]; omega
      · have hge1 : (ts.length : Int) - 1 ≤ (n : Int) := by omega
        have hd : ts.take n = ts.dropLast := by rw [List.dropLast_eq_take, show ts.length - 1 = n by omega]
        rw [hd]
        clear hd hlt
        generalize apartL ts.dropLast = G at *
        have hbl2 : (bs G).size = G.length := bs_size G
        have hG := AP1.out
        by_cases hbig : 600 < G.length
        · have HPG := hid (fun w' hv' => qall_any (bs G) w' (by rw [bs_size]; omega) hv' (r := .bad 0 4) (AP2.out hbig))
          generalize bs G = gm at *
          have hbig2 : (600 : Int) < (gm.size : Int) := by omega
          clear hbig hbl2 hG
          go_wp2_with fail
          refine (HPG.out _ (V.out.no F5.out)).mono ?_
          rintro e w6 ⟨hpj, hf⟩
          have hpj : e = .returned (.tuple #[.agg #[.slice none 0 0, .slice none 0 0], .int .i64 ((0 : Nat) : Int), .int .i64 ((4 : Nat) : Int)]) := hpj
          subst hpj
          have F6 := hid ((F5.out.tr hf).alloc (.cells #[.slice none 0 0, .slice none 0 0] 27))
          clear hf
          go_wp2_with fail
          generalize w6.alloc (.cells #[.slice none 0 0, .slice none 0 0] 27) = w8 at *
          go_ret
          exact ⟨rfl, F6.out⟩
        · obtain ⟨us, gs, hpu, hun, hfl, hfr⟩ := AP3.out (by omega)
          have HPG := hid (fun w' hv' => qall_any (bs G) w' (by rw [bs_size]; omega) hv' (r := .good us gs) hpu)
          have EN := hid (show us.map zeroN = ns.map zeroN from hun)
          have EF := hid (fr_zero hfl hfr)
          have hus : us.length = ns.length := by have := congrArg List.length hun; simpa using this
          have hl4 : (ns.length : Int) ≤ 300 := by omega
          have hl5 : (us.length : Int) ≤ 300 := by omega
          have hl6 : (fs.length : Int) ≤ 6 := by omega
          have hl7 : (gs.length : Int) ≤ 6 := by omega
          generalize bs G = gm at *
          have hbig2 : (gm.size : Int) ≤ 600 := by omega
          clear hbig hbl2 hG hpu hun hfl hfr hus
          go_wp2_with fail
          refine (HPG.out _ (V.out.no F5.out)).mono ?_
          rintro e w6 ⟨⟨nu, fu, lvs2, pvs2, rfl, ht⟩, hf⟩
          obtain ⟨MA, MC, rfl, _, _⟩ := ht.nodes.cap
          obtain ⟨GA, GC, rfl, _, _⟩ := ht.fns.cap
          have U0 := hid ht.zero
          have N2 := hid (show ∀ k, blk (.slice MA us.length MC) = some k → w.heap.size ≤ k from fun k hk => Nat.le_trans F5.out.size (ht.newn k hk))
          have N4 := hid (show ∀ k, blk (.slice GA gs.length GC) = some k → w.heap.size ≤ k from fun k hk => Nat.le_trans F5.out.size (ht.newf k hk))
          have DN := hid (show ∀ k, blk (.slice NA ns.length NC) = some k → blk (.slice MA us.length MC) ≠ some k from fun k h1 h2 => by
            have a := BA5.out.tree.nodes.blk_lt h1
            have b := ht.newn k h2
            omega)
          have DF := hid (show ∀ k, blk (.slice FA fs.length FC) = some k → blk (.slice GA gs.length GC) ≠ some k from fun k h1 h2 => by
            have a := BA5.out.tree.fns.blk_lt h1
            have b := ht.newf k h2
            omega)
          have Z8 := hid (show ZZ w B w6.heap.size (.slice NA ns.length NC) (.slice FA fs.length FC) (.slice MA us.length MC) (.slice GA gs.length GC) lvs pvs lvs2 pvs2 (zp zeroN 0 ns) (zp zeroN 0 us) (zp zeroF 0 fs) (zp zeroF 0 gs) (w6.alloc (.cells #[.slice MA us.length MC, .slice GA gs.length GC] 27)) from
            ⟨BA5.out.no (hf.alloc _), ⟨U0.out.no ((Fr.refl nob w6).alloc _), Blk.new w6 _ _⟩, (F5.out.tr hf).alloc _, DN.out, DF.out, N1.out, N2.out, N3.out, N4.out⟩)
          clear ht hf U0 BA5
          go_wp2_with fail
          generalize w6.heap.size = C at *
          generalize w6.alloc (.cells #[.slice MA us.length MC, .slice GA gs.length GC] 27) = w8 at *
          clear hbig2
          go_loopw [16] (fun i wr => ∃ j : Nat, j ≤ ns.length ∧ i = .int .i64 j ∧ Hid (ZZ w B C (.slice NA ns.length NC) (.slice FA fs.length FC) (.slice MA us.length MC) (.slice GA gs.length GC) lvs pvs lvs2 pvs2 (zp zeroN j ns) (zp zeroN 0 us) (zp zeroF 0 fs) (zp zeroF 0 gs) wr)) (fun i _ => ns.length - (intOf i).toNat)
          case atStart => exact ⟨0, Nat.zero_le _, rfl, Z8⟩
          case round =>
            clear Z8
            obtain ⟨j, hj, rfl, Z⟩ := hrel
            obtain ⟨d0, d1⟩ := Z.out.t.cells
            obtain ⟨d2, d3⟩ := Z.out.u.cells
            by_cases hlt : j < ns.length
            · have hlt2 : (j : Int) < (ns.length : Int) := by omega
              have hj6 : (j : Int) ≤ 300 := by omega
              obtain ⟨nd, hnd⟩ : ∃ nd, ns[j]? = some nd := ⟨_, List.getElem?_eq_getElem hlt⟩
              obtain ⟨nb, rfl, x1, x2, hz⟩ := Z.out.tn hnd
              have Z2 := hid hz
              clear hz hnd
              go_wp2_with fail
              go_roundw
              case rel => exact ⟨j + 1, by omega, by go_num, Z2⟩
              case measure => simp [intOf]; omega
            · have hle : (ns.length : Int) ≤ (j : Int) := by omega
              have hje : j = ns.length := by omega
              have Z9 := hid (show ZZ w B C (.slice NA ns.length NC) (.slice FA fs.length FC) (.slice MA us.length MC) (.slice GA gs.length GC) lvs pvs lvs2 pvs2 (ns.map zeroN) (zp zeroN 0 us) (zp zeroF 0 fs) (zp zeroF 0 gs) wr from by
                have := Z.out
                rw [hje, zp_all] at this; exact this)
              clear hje Z hlt
              go_wp2_with fail
              clear d0 d1 d2 d3
              go_loopw [17] (fun i wr => ∃ j : Nat, j ≤ us.length ∧ i = .int .i64 j ∧ Hid (ZZ w B C (.slice NA ns.length NC) (.slice FA fs.length FC) (.slice MA us.length MC) (.slice GA gs.length GC) lvs pvs lvs2 pvs2 (ns.map zeroN) (zp zeroN j us) (zp zeroF 0 fs) (zp zeroF 0 gs) wr)) (fun i _ => us.length - (intOf i).toNat)
              case atStart => exact ⟨0, Nat.zero_le _, rfl, Z9⟩
              case round =>
                clear Z9
                obtain ⟨j, hj, rfl, Z⟩ := hrel
                obtain ⟨d0, d1⟩ := Z.out.t.cells
                obtain ⟨d2, d3⟩ := Z.out.u.cells
                by_cases hlt : j < us.length
                · have hlt2 : (j : Int) < (us.length : Int) := by omega
                  have hj6 : (j : Int) ≤ 300 := by omega
                  obtain ⟨nd, hnd⟩ : ∃ nd, us[j]? = some nd := ⟨_, List.getElem?_eq_getElem hlt⟩
                  obtain ⟨nb, rfl, x1, x2, hz⟩ := Z.out.un hnd
                  have Z2 := hid hz
                  clear hz hnd
                  go_wp2_with fail
                  go_roundw
                  case rel => exact ⟨j + 1, by omega, by go_num, Z2⟩
                  case measure => simp [intOf]; omega
                · have hle : (us.length : Int) ≤ (j : Int) := by omega
                  have hje : j = us.length := by omega
                  have Z9 := hid (show ZZ w B C (.slice NA ns.length NC) (.slice FA fs.length FC) (.slice MA us.length MC) (.slice GA gs.length GC) lvs pvs lvs2 pvs2 (ns.map zeroN) (us.map zeroN) (zp zeroF 0 fs) (zp zeroF 0 gs) wr from by
                    have := Z.out
                    rw [hje, zp_all] at this; exact this)
                  clear hje Z hlt
                  go_wp2_with fail
                  clear d0 d1 d2 d3
                  go_loopw [18] (fun i wr => ∃ j : Nat, j ≤ fs.length ∧ i = .int .i64 j ∧ Hid (ZZ w B C (.slice NA ns.length NC) (.slice FA fs.length FC) (.slice MA us.length MC) (.slice GA gs.length GC) lvs pvs lvs2 pvs2 (ns.map zeroN) (us.map zeroN) (zp zeroF j fs) (zp zeroF 0 gs) wr)) (fun i _ => fs.length - (intOf i).toNat)
                  case atStart => exact ⟨0, Nat.zero_le _, rfl, Z9⟩
                  case round =>
                    clear Z9
                    obtain ⟨j, hj, rfl, Z⟩ := hrel
                    obtain ⟨d0, d1⟩ := Z.out.t.cells
                    obtain ⟨d2, d3⟩ := Z.out.u.cells
                    by_cases hlt : j < fs.length
                    · have hlt2 : (j : Int) < (fs.length : Int) := by omega
                      have hj6 : (j : Int) ≤ 6 := by omega
                      obtain ⟨nd, hnd⟩ : ∃ nd, fs[j]? = some nd := ⟨_, List.getElem?_eq_getElem hlt⟩
                      obtain ⟨nb, rfl, x1, x2, hz⟩ := Z.out.tf hnd
                      have Z2 := hid hz
                      clear hz hnd
                      go_wp2_with fail
                      go_roundw
                      case rel => exact ⟨j + 1, by omega, by go_num, Z2⟩
                      case measure => simp [intOf]; omega
                    · have hle : (fs.length : Int) ≤ (j : Int) := by omega
                      have hje : j = fs.length := by omega
                      have Z9 := hid (show ZZ w B C (.slice NA ns.length NC) (.slice FA fs.length FC) (.slice MA us.length MC) (.slice GA gs.length GC) lvs pvs lvs2 pvs2 (ns.map zeroN) (us.map zeroN) (fs.map zeroF) (zp zeroF 0 gs) wr from by
                        have := Z.out
                        rw [hje, zp_all] at this; exact this)
                      clear hje Z hlt
                      go_wp2_with fail
                      clear d0 d1 d2 d3
                      go_loopw [19] (fun i wr => ∃ j : Nat, j ≤ gs.length ∧ i = .int .i64 j ∧ Hid (ZZ w B C (.slice NA ns.length NC) (.slice FA fs.length FC) (.slice MA us.length MC) (.slice GA gs.length GC) lvs pvs lvs2 pvs2 (ns.map zeroN) (us.map zeroN) (fs.map zeroF) (zp zeroF j gs) wr)) (fun i _ => gs.length - (intOf i).toNat)
                      case atStart => exact ⟨0, Nat.zero_le _, rfl, Z9⟩
                      case round =>
                        clear Z9
                        obtain ⟨j, hj, rfl, Z⟩ := hrel
                        obtain ⟨d0, d1⟩ := Z.out.t.cells
                        obtain ⟨d2, d3⟩ := Z.out.u.cells
                        by_cases hlt : j < gs.length
                        · have hlt2 : (j : Int) < (gs.length : Int) := by omega
                          have hj6 : (j : Int) ≤ 6 := by omega
                          obtain ⟨nd, hnd⟩ : ∃ nd, gs[j]? = some nd := ⟨_, List.getElem?_eq_getElem hlt⟩
                          obtain ⟨nb, rfl, x1, x2, hz⟩ := Z.out.uf hnd
                          have Z2 := hid hz
                          clear hz hnd
                          go_wp2_with fail
                          go_roundw
                          case rel => exact ⟨j + 1, by omega, by go_num, Z2⟩
                          case measure => simp [intOf]; omega
                        · have hle : (gs.length : Int) ≤ (j : Int) := by omega
                          have hje : j = gs.length := by omega
                          have Z9 := hid (show ZZ w B C (.slice NA ns.length NC) (.slice FA fs.length FC) (.slice MA us.length MC) (.slice GA gs.length GC) lvs pvs lvs2 pvs2 (ns.map zeroN) (us.map zeroN) (fs.map zeroF) (gs.map zeroF) wr from by
                            have := Z.out
                            rw [hje, zp_all] at this; exact this)
                          clear hje Z hlt
                          have HT := hid (same_any (nv := .slice NA ns.length NC) (fv := .slice FA fs.length FC) (nv2 := .slice MA us.length MC) (fv2 := .slice GA gs.length GC) Z9.out.t.tree (by have h1 := Z9.out.u.tree; rw [EN.out, EF.out] at h1; exact h1) (by rw [List.length_map]; omega) (by rw [List.length_map]; omega) (fun f hf => by
                            obtain ⟨g, hg, rfl⟩ := List.mem_map.1 hf
                            have := PL.out g hg
                            show g.params.length ≤ 1000
                            omega))
                          go_wp2_with fail
                          refine HT.out.mono ?_
                          rintro e w9 ⟨rfl, hf⟩
                          have F9 := hid (Z9.out.fr.tr hf)
                          clear hf
                          go_wp2_with fail
                          go_ret
                          exact ⟨by simp, F9.out⟩
theorem parseblanks_walk (s : ByteArray) (w : World) (hv : PVars w) :
    Calls Tryz.prog 7 #[.string s] w fun e w' => e = .returned (.bool true) ∧ Fr nob w w' := by
  by_cases h1 : s.size ≤ 300
  · exact parseblanks_1 s w hv h1
  · exact parseblanks_2 s w hv h1
end Go.Proofs.YtjhhlmonomeofaaGreatDoor
