/- QA3: QAtomA, QAtomB, QAtomC, QAtomD, QAtomE. -/
import Derived.Test.YtlbjicjinnnboaaGreatDoorQA2
import Derived.Test.YtlbjicjinnnboaaGreatDoorME
/- The program's own parser: atom, where nothing but a bracket may stand. -/
namespace Go.Proofs.YtlbjicjinnnboaaGreatDoor
open Go.RowKit
set_option linter.unusedVariables false
set_option linter.unusedSimpArgs false
theorem QS.next {src : ByteArray} {tb tc : Nat} {ts : List Tok} {g : Nat} {N : Lim} {R : Nat → Prop} {w0 w : World} {s : PS} (h : QS src tb tc ts g R w0 w s N) :
    Calls Tryz.prog 76 #[.pointer (some ⟨g, 0, none⟩)] w fun e w' => ∃ t : Tok, e = .returned (tokA t) ∧ (s.e = 0 → t = pTok ts s) ∧ QS src tb tc ts g R w0 w' s N := by
  obtain ⟨q, lvs, hq, hs⟩ := h.q
  exact (qnext_any hq).mono fun e w' ⟨he, hf⟩ => ⟨_, he, fun h0 => hs.tok h0, h.no hf⟩
set_option maxHeartbeats 3200000 in
set_option maxRecDepth 100000 in
theorem qatom_last {src : ByteArray} {tb tc : Nat} {ts : List Tok} {g n : Nat} {N : Lim} {R : Nat → Prop} {w0 w : World} {s : PS} {r : List Nat × PS} (hG : QDoes src tb tc ts g n (.chain 0) 162 #[.pointer (some ⟨g, 0, none⟩)])
    (h : QS src tb tc ts g R w0 w s N) (k1 : pKind ts 1 s = false) (k2 : pKind ts 2 s = false) (k3 : pKind ts 3 s = false) (i1 : pIs ts [116, 114, 117, 101] s = false) (i2 : pIs ts [102, 97, 108, 115, 101] s = false) (i3 : pIs ts [108, 101, 110] s = false)
    (hr : pIs ts [40] s = true → run src.data.toList ts n (.chain 0) (pMust ts [40] (pDown ts s)) = some r) (hn : pIs ts [40] s = true → r.2.nodes.length + N.n + 10 * n + 10 ≤ 1000000) :
    Calls Tryz.prog 222 #[.pointer (some ⟨g, 0, none⟩)] w fun e w' => ∃ x : Nat, e = .returned (.int .i64 x) ∧
      (pIs ts [40] s = false → x = 0 ∧ QS src tb tc ts g R w0 w' (pFail ts 20 s) N) ∧
      (pIs ts [40] s = true → ((pUp (pMust ts [41] r.2)).e = 0 → x = oneOf r.1) ∧ QS src tb tc ts g R w0 w' (pUp (pMust ts [41] r.2)) ⟨N.n + 10 * n, N.d⟩) := by
  have S0 := hid h
  have HG := hid hG
  have HR := hid hr
  have HN := hid hn
  have K1 := hid k1
  have K2 := hid k2
  have K3 := hid k3
  have I1 := hid i1
  have I2 := hid i2
  have I3 := hid i3
  clear h hG hr hn k1 k2 k3 i1 i2 i3
  go_enter Tryz.func222, Tryz.ntmps222
  go_wp2_with fail
  refine S0.out.line.mono ?_
  rintro e w1 ⟨y, rfl, hy, h1⟩
  have S1 := hid h1
  clear h1 hy
  go_wp2_with fail
  refine S1.out.next.mono ?_
  rintro e w2 ⟨t, rfl, ht, h2⟩
  have S2 := hid h2
  clear h2 ht
  unfold tokA
  go_wp2_with fail
  have S3 := hid (S2.out.alloc (.cells #[.int .i64 t.kind, .string (bs t.text), .int .i64 t.place] 115))
  generalize w2.alloc (.cells #[.int .i64 t.kind, .string (bs t.text), .int .i64 t.place] 115) = w3 at *
  refine (S3.out.kind 1 (b := false) K1.out).mono ?_
  rintro e w4 ⟨rfl, h4⟩
  have S4 := hid h4
  clear h4
  go_wp2_with fail
  refine (S4.out.kind 2 (b := false) K2.out).mono ?_
  rintro e w5 ⟨rfl, h5⟩
  have S5 := hid h5
  clear h5
  go_wp2_with fail
  refine (S5.out.kind 3 (b := false) K3.out).mono ?_
  rintro e w6 ⟨rfl, h6⟩
  have S6 := hid h6
  clear h6
  go_wp2_with fail
  refine (S6.out.has ⟨#[116, 114, 117, 101]⟩ (b := false) I1.out).mono ?_
  rintro e w7 ⟨rfl, h7⟩
  rw [if_neg (by decide)] at h7
  have S7 := hid h7
  clear h7
  go_wp2_with fail
  refine (S7.out.has ⟨#[102, 97, 108, 115, 101]⟩ (b := false) I2.out).mono ?_
  rintro e w8 ⟨rfl, h8⟩
  rw [if_neg (by decide)] at h8
  have S8 := hid h8
  clear h8
  go_wp2_with fail
  refine (S8.out.has ⟨#[108, 101, 110]⟩ (b := false) I3.out).mono ?_
  rintro e w9 ⟨rfl, h9⟩
  rw [if_neg (by decide)] at h9
  have S9 := hid h9
  clear h9
  go_wp2_with fail
  refine (S9.out.inner HG.out ⟨#[40]⟩ ⟨#[41]⟩ HR.out HN.out).mono ?_
  rintro e w10 ⟨x, rfl, hA, hB⟩
  have HA := hid hA
  have HB := hid hB
  clear hA hB
  go_wp2_with fail
  go_ret
  exact ⟨x, rfl, HA.out, HB.out⟩
end Go.Proofs.YtlbjicjinnnboaaGreatDoor
/- The program's own parser: atom, case by case. Printed by wip/tools/mkqatom.py. -/
namespace Go.Proofs.YtlbjicjinnnboaaGreatDoor
open Go.RowKit
set_option linter.unusedVariables false
set_option linter.unusedSimpArgs false
theorem pKind_not {ts : List Tok} {s : PS} {k j : Nat} (h : pKind ts k s = true) (hj : k ≠ j) : pKind ts j s = false := by
  cases hh : pKind ts j s with
  | false => rfl
  | true => exact absurd ((pKind_kind h).2.symm.trans (pKind_kind hh).2) hj
section
variable {src : ByteArray} {tb tc : Nat} {ts : List Tok} {g n : Nat} {N : Lim} {R : Nat → Prop} {w0 w : World} {s : PS} {r : List Nat × PS}
set_option maxHeartbeats 3200000 in
set_option maxRecDepth 100000 in
theorem qatom_true  (h : QS src tb tc ts g R w0 w s N) (k1 : pKind ts 1 s = false) (k2 : pKind ts 2 s = false) (k3 : pKind ts 3 s = false) (i1 : pIs ts [116, 114, 117, 101] s = true) (hn : s.nodes.length + N.n ≤ 1000000) :
    Calls Tryz.prog 222 #[.pointer (some ⟨g, 0, none⟩)] w fun e w' => ∃ x : Nat, e = .returned (.int .i64 x) ∧ x = s.nodes.length ∧ QS src tb tc ts g R w0 w' (pPut 2 (pLine src.data.toList ts s) 1 [] [] (pGo s)).2 N := by
  have S0 := hid h
  have K1 := hid k1
  have K2 := hid k2
  have K3 := hid k3
  have I1 := hid i1
  have H0 := hid (pIs_kind i1).1
  have HN := hid hn
  clear h k1 k2 k3 i1 hn
  go_enter Tryz.func222, Tryz.ntmps222
  go_wp2_with fail
  refine S0.out.line.mono ?_
  rintro e w1 ⟨y, rfl, hy, h1⟩
  have S1 := hid h1
  have HY := hid (hy H0.out)
  clear h1 hy
  go_wp2_with fail
  refine S1.out.next.mono ?_
  rintro e w2 ⟨t, rfl, ht, h2⟩
  have hte := ht H0.out
  subst hte
  have S2 := hid h2
  clear h2 ht
  unfold tokA
  go_wp2_with fail
  have BT := hid (Blk.new w2 115 #[.int .i64 (pTok ts s).kind, .string (bs (pTok ts s).text), .int .i64 (pTok ts s).place])
  have GB := hid (show w2.heap.size ≠ g from fun e => by obtain ⟨cg, hcg⟩ := S2.out.blkg; have := hcg.lt; omega)
  have S3 := hid (S2.out.alloc (.cells #[.int .i64 (pTok ts s).kind, .string (bs (pTok ts s).text), .int .i64 (pTok ts s).place] 115))
  have Z3 := hid S3.out.here
  generalize w2.alloc (.cells #[.int .i64 (pTok ts s).kind, .string (bs (pTok ts s).text), .int .i64 (pTok ts s).place] 115) = w3 at *
  generalize w2.heap.size = B at *
  refine (Z3.out.kind 1 (b := false) K1.out).mono ?_
  rintro e w4 ⟨rfl, h4⟩
  have Z4 := hid h4
  clear h4
  go_wp2_with fail
  refine (Z4.out.kind 2 (b := false) K2.out).mono ?_
  rintro e w5 ⟨rfl, h5⟩
  have Z5 := hid h5
  clear h5
  go_wp2_with fail
  refine (Z5.out.kind 3 (b := false) K3.out).mono ?_
  rintro e w6 ⟨rfl, h6⟩
  have Z6 := hid h6
  clear h6
  go_wp2_with fail
  refine (Z6.out.has ⟨#[116, 114, 117, 101]⟩ (b := true) I1.out).mono ?_
  rintro e w7 ⟨rfl, h7⟩
  rw [if_pos rfl] at h7
  have Z7 := hid h7
  clear h7
  go_wp2_with fail
  refine (Z7.out.number 2 1 rfl rfl y (pLine src.data.toList ts s) (fun _ => HY.out) HN.out).mono ?_
  rintro e w8 ⟨x, rfl, hx, h8⟩
  have S8 := hid h8
  have HX := hid hx
  clear hx h8
  go_wp2_with fail
  go_ret
  exact ⟨x, rfl, HX.out H0.out, S3.out.back S8.out⟩
set_option maxHeartbeats 3200000 in
set_option maxRecDepth 100000 in
theorem qatom_false  (h : QS src tb tc ts g R w0 w s N) (k1 : pKind ts 1 s = false) (k2 : pKind ts 2 s = false) (k3 : pKind ts 3 s = false) (i1 : pIs ts [116, 114, 117, 101] s = false) (i2 : pIs ts [102, 97, 108, 115, 101] s = true) (hn : s.nodes.length + N.n ≤ 1000000) :
    Calls Tryz.prog 222 #[.pointer (some ⟨g, 0, none⟩)] w fun e w' => ∃ x : Nat, e = .returned (.int .i64 x) ∧ x = s.nodes.length ∧ QS src tb tc ts g R w0 w' (pPut 2 (pLine src.data.toList ts s) 0 [] [] (pGo s)).2 N := by
  have S0 := hid h
  have K1 := hid k1
  have K2 := hid k2
  have K3 := hid k3
  have I1 := hid i1
  have I2 := hid i2
  have H0 := hid (pIs_kind i2).1
  have HN := hid hn
  clear h k1 k2 k3 i1 i2 hn
  go_enter Tryz.func222, Tryz.ntmps222
  go_wp2_with fail
  refine S0.out.line.mono ?_
  rintro e w1 ⟨y, rfl, hy, h1⟩
  have S1 := hid h1
  have HY := hid (hy H0.out)
  clear h1 hy
  go_wp2_with fail
  refine S1.out.next.mono ?_
  rintro e w2 ⟨t, rfl, ht, h2⟩
  have hte := ht H0.out
  subst hte
  have S2 := hid h2
  clear h2 ht
  unfold tokA
  go_wp2_with fail
  have BT := hid (Blk.new w2 115 #[.int .i64 (pTok ts s).kind, .string (bs (pTok ts s).text), .int .i64 (pTok ts s).place])
  have GB := hid (show w2.heap.size ≠ g from fun e => by obtain ⟨cg, hcg⟩ := S2.out.blkg; have := hcg.lt; omega)
  have S3 := hid (S2.out.alloc (.cells #[.int .i64 (pTok ts s).kind, .string (bs (pTok ts s).text), .int .i64 (pTok ts s).place] 115))
  have Z3 := hid S3.out.here
  generalize w2.alloc (.cells #[.int .i64 (pTok ts s).kind, .string (bs (pTok ts s).text), .int .i64 (pTok ts s).place] 115) = w3 at *
  generalize w2.heap.size = B at *
  refine (Z3.out.kind 1 (b := false) K1.out).mono ?_
  rintro e w4 ⟨rfl, h4⟩
  have Z4 := hid h4
  clear h4
  go_wp2_with fail
  refine (Z4.out.kind 2 (b := false) K2.out).mono ?_
  rintro e w5 ⟨rfl, h5⟩
  have Z5 := hid h5
  clear h5
  go_wp2_with fail
  refine (Z5.out.kind 3 (b := false) K3.out).mono ?_
  rintro e w6 ⟨rfl, h6⟩
  have Z6 := hid h6
  clear h6
  go_wp2_with fail
  refine (Z6.out.has ⟨#[116, 114, 117, 101]⟩ (b := false) I1.out).mono ?_
  rintro e w7 ⟨rfl, h7⟩
  rw [if_neg (by decide)] at h7
  have Z7 := hid h7
  clear h7
  go_wp2_with fail
  refine (Z7.out.has ⟨#[102, 97, 108, 115, 101]⟩ (b := true) I2.out).mono ?_
  rintro e w8 ⟨rfl, h8⟩
  rw [if_pos rfl] at h8
  have Z8 := hid h8
  clear h8
  go_wp2_with fail
  refine (Z8.out.number 2 0 rfl rfl y (pLine src.data.toList ts s) (fun _ => HY.out) HN.out).mono ?_
  rintro e w9 ⟨x, rfl, hx, h9⟩
  have S9 := hid h9
  have HX := hid hx
  clear hx h9
  go_wp2_with fail
  go_ret
  exact ⟨x, rfl, HX.out H0.out, S3.out.back S9.out⟩
set_option maxHeartbeats 3200000 in
set_option maxRecDepth 100000 in
theorem qatom_text  (h : QS src tb tc ts g R w0 w s N) (k1 : pKind ts 1 s = false) (k2 : pKind ts 2 s = true) (hn : s.nodes.length + N.n ≤ 1000000) :
    Calls Tryz.prog 222 #[.pointer (some ⟨g, 0, none⟩)] w fun e w' => ∃ x : Nat, e = .returned (.int .i64 x) ∧ x = s.nodes.length ∧ QS src tb tc ts g R w0 w' (pPut 3 (pLine src.data.toList ts s) 0 (pTok ts s).text [] (pGo s)).2 N := by
  have S0 := hid h
  have K1 := hid k1
  have K2 := hid k2
  have H0 := hid (pKind_kind k2).1
  have HN := hid hn
  have HO := hid (h.ok.goKind h.toks (pKind_kind k2).2 (by decide))
  clear h k1 k2 hn
  go_enter Tryz.func222, Tryz.ntmps222
  go_wp2_with fail
  refine S0.out.line.mono ?_
  rintro e w1 ⟨y, rfl, hy, h1⟩
  have S1 := hid h1
  have HY := hid (hy H0.out)
  clear h1 hy
  go_wp2_with fail
  refine S1.out.next.mono ?_
  rintro e w2 ⟨t, rfl, ht, h2⟩
  have hte := ht H0.out
  subst hte
  have S2 := hid h2
  clear h2 ht
  unfold tokA
  go_wp2_with fail
  have BT := hid (Blk.new w2 115 #[.int .i64 (pTok ts s).kind, .string (bs (pTok ts s).text), .int .i64 (pTok ts s).place])
  have GB := hid (show w2.heap.size ≠ g from fun e => by obtain ⟨cg, hcg⟩ := S2.out.blkg; have := hcg.lt; omega)
  have S3 := hid (S2.out.alloc (.cells #[.int .i64 (pTok ts s).kind, .string (bs (pTok ts s).text), .int .i64 (pTok ts s).place] 115))
  have Z3 := hid S3.out.here
  generalize w2.alloc (.cells #[.int .i64 (pTok ts s).kind, .string (bs (pTok ts s).text), .int .i64 (pTok ts s).place] 115) = w3 at *
  generalize w2.heap.size = B at *
  refine (Z3.out.kind 1 (b := false) K1.out).mono ?_
  rintro e w4 ⟨rfl, h4⟩
  have Z4 := hid h4
  clear h4
  go_wp2_with fail
  refine (Z4.out.kind 2 (b := true) K2.out).mono ?_
  rintro e w5 ⟨rfl, h5⟩
  have Z5 := hid h5
  clear h5
  go_wp2_with fail
  refine (Z5.out.take H0.out HO.out).mono ?_
  rintro e w6 ⟨rfl, h6⟩
  have Z6 := hid h6
  clear h6
  unfold tokA
  have ff := tf1
  go_wp2_with fail
  refine (Z6.out.put0 3 rfl y (pLine src.data.toList ts s) (fun _ => HY.out) (name := (pTok ts s).text) rfl (l := []) (fun _ => rfl) HN.out).mono ?_
  rintro e w7 ⟨x, rfl, hx, h7⟩
  have S7 := hid h7
  have HX := hid hx
  clear hx h7
  go_wp2_with fail
  go_ret
  exact ⟨x, rfl, HX.out H0.out, S3.out.back S7.out⟩
set_option maxHeartbeats 3200000 in
set_option maxRecDepth 100000 in
theorem qatom_name  (h : QS src tb tc ts g R w0 w s N) (k1 : pKind ts 1 s = false) (k2 : pKind ts 2 s = false) (k3 : pKind ts 3 s = true) (hm : pIs ts [91] (pGo s) = false) (hn : s.nodes.length + N.n ≤ 1000000) :
    Calls Tryz.prog 222 #[.pointer (some ⟨g, 0, none⟩)] w fun e w' => ∃ x : Nat, e = .returned (.int .i64 x) ∧ x = s.nodes.length ∧ QS src tb tc ts g R w0 w' (pPut 4 (pLine src.data.toList ts s) 0 (pTok ts s).text [] (pGo s)).2 N := by
  have S0 := hid h
  have K1 := hid k1
  have K2 := hid k2
  have K3 := hid k3
  have H0 := hid (pKind_kind k3).1
  have HN := hid hn
  have HM := hid hm
  have HO := hid (h.ok.goKind h.toks (pKind_kind k3).2 (by decide))
  clear h k1 k2 k3 hn hm
  go_enter Tryz.func222, Tryz.ntmps222
  go_wp2_with fail
  refine S0.out.line.mono ?_
  rintro e w1 ⟨y, rfl, hy, h1⟩
  have S1 := hid h1
  have HY := hid (hy H0.out)
  clear h1 hy
  go_wp2_with fail
  refine S1.out.next.mono ?_
  rintro e w2 ⟨t, rfl, ht, h2⟩
  have hte := ht H0.out
  subst hte
  have S2 := hid h2
  clear h2 ht
  unfold tokA
  go_wp2_with fail
  have BT := hid (Blk.new w2 115 #[.int .i64 (pTok ts s).kind, .string (bs (pTok ts s).text), .int .i64 (pTok ts s).place])
  have GB := hid (show w2.heap.size ≠ g from fun e => by obtain ⟨cg, hcg⟩ := S2.out.blkg; have := hcg.lt; omega)
  have S3 := hid (S2.out.alloc (.cells #[.int .i64 (pTok ts s).kind, .string (bs (pTok ts s).text), .int .i64 (pTok ts s).place] 115))
  have Z3 := hid S3.out.here
  generalize w2.alloc (.cells #[.int .i64 (pTok ts s).kind, .string (bs (pTok ts s).text), .int .i64 (pTok ts s).place] 115) = w3 at *
  generalize w2.heap.size = B at *
  refine (Z3.out.kind 1 (b := false) K1.out).mono ?_
  rintro e w4 ⟨rfl, h4⟩
  have Z4 := hid h4
  clear h4
  go_wp2_with fail
  refine (Z4.out.kind 2 (b := false) K2.out).mono ?_
  rintro e w5 ⟨rfl, h5⟩
  have Z5 := hid h5
  clear h5
  go_wp2_with fail
  refine (Z5.out.kind 3 (b := true) K3.out).mono ?_
  rintro e w6 ⟨rfl, h6⟩
  have Z6 := hid h6
  clear h6
  go_wp2_with fail
  refine (Z6.out.take H0.out HO.out).mono ?_
  rintro e w7 ⟨rfl, h7⟩
  have Z7 := hid h7
  clear h7
  unfold tokA
  have A := hid (show Fr nob w7 (w7.alloc (.cells #[.string ⟨#[91]⟩] 9)) from (Fr.refl nob w7).alloc _)
  have HI := hid ((Z7.out.no A.out).is1 ⟨#[91]⟩ (Blk.new w7 _ _) (z := false) HM.out)
  go_wp2_with fail
  refine HI.out.mono ?_
  rintro e w8 ⟨rfl, h8⟩
  have Z8 := hid (Z7.out.no (A.out.tr h8))
  have B8 := hid (Z8.out.fr.blk BT.out GB.out (by decide))
  clear h8
  have d1 : w8.cell? ⟨B, 1, none⟩ = some (.string (bs (pTok ts s).text)) := by rw [B8.out.cell 1]; rfl
  go_wp2_with fail
  refine (Z8.out.put0 4 rfl y (pLine src.data.toList ts s) (fun _ => HY.out) (name := (pTok ts s).text) rfl (l := []) (fun _ => rfl) HN.out).mono ?_
  rintro e w9 ⟨x, rfl, hx, h9⟩
  have S9 := hid h9
  have HX := hid hx
  clear hx h9
  go_wp2_with fail
  go_ret
  exact ⟨x, rfl, HX.out H0.out, S3.out.back S9.out⟩
set_option maxHeartbeats 3200000 in
set_option maxRecDepth 100000 in
theorem qatom_sub (hG : QDoes src tb tc ts g n (.chain 0) 162 #[.pointer (some ⟨g, 0, none⟩)]) (h : QS src tb tc ts g R w0 w s N) (k1 : pKind ts 1 s = false) (k2 : pKind ts 2 s = false) (k3 : pKind ts 3 s = true) (hm : pIs ts [91] (pGo s) = true) (hr : run src.data.toList ts n (.chain 0) (pMust ts [91] (pDown ts (pGo s))) = some r) (hn : r.2.nodes.length + 10 * n + 10 ≤ 1000000) :
    Calls Tryz.prog 222 #[.pointer (some ⟨g, 0, none⟩)] w fun e w' => ∃ x : Nat, e = .returned (.int .i64 x) ∧ ((pUp (pMust ts [93] r.2)).e = 0 → x = (pUp (pMust ts [93] r.2)).nodes.length) ∧ QS src tb tc ts g R w0 w' (pPut 5 (pLine src.data.toList ts s) 0 (pTok ts s).text r.1 (pUp (pMust ts [93] r.2))).2 ⟨10 * n, N.d⟩ := by
  have S0 := hid h
  have K1 := hid k1
  have K2 := hid k2
  have K3 := hid k3
  have H0 := hid (pKind_kind k3).1
  have HN := hid hn
  have HM := hid hm
  have HR := hid hr
  have HG := hid hG
  have HQ1 := hid (run_one _ _ _ _ hr trivial)
  have HN2 := hid (show (pUp (pMust ts [93] r.2)).nodes.length + (0 + 10 * n) ≤ 1000000 by have e : (pUp (pMust ts [93] r.2)).nodes.length = r.2.nodes.length := (by show (pMust ts [93] r.2).nodes.length = _; unfold pMust pGo pFail; split <;> (try split) <;> rfl); rw [e]; omega)
  have HO := hid (h.ok.goKind h.toks (pKind_kind k3).2 (by decide))
  clear h k1 k2 k3 hn hm hr hG
  go_enter Tryz.func222, Tryz.ntmps222
  go_wp2_with fail
  refine S0.out.line.mono ?_
  rintro e w1 ⟨y, rfl, hy, h1⟩
  have S1 := hid h1
  have HY := hid (hy H0.out)
  clear h1 hy
  go_wp2_with fail
  refine S1.out.next.mono ?_
  rintro e w2 ⟨t, rfl, ht, h2⟩
  have hte := ht H0.out
  subst hte
  have S2 := hid h2
  clear h2 ht
  unfold tokA
  go_wp2_with fail
  have BT := hid (Blk.new w2 115 #[.int .i64 (pTok ts s).kind, .string (bs (pTok ts s).text), .int .i64 (pTok ts s).place])
  have GB := hid (show w2.heap.size ≠ g from fun e => by obtain ⟨cg, hcg⟩ := S2.out.blkg; have := hcg.lt; omega)
  have S3 := hid (S2.out.alloc (.cells #[.int .i64 (pTok ts s).kind, .string (bs (pTok ts s).text), .int .i64 (pTok ts s).place] 115))
  have Z3 := hid S3.out.here
  generalize w2.alloc (.cells #[.int .i64 (pTok ts s).kind, .string (bs (pTok ts s).text), .int .i64 (pTok ts s).place] 115) = w3 at *
  generalize w2.heap.size = B at *
  refine (Z3.out.kind 1 (b := false) K1.out).mono ?_
  rintro e w4 ⟨rfl, h4⟩
  have Z4 := hid h4
  clear h4
  go_wp2_with fail
  refine (Z4.out.kind 2 (b := false) K2.out).mono ?_
  rintro e w5 ⟨rfl, h5⟩
  have Z5 := hid h5
  clear h5
  go_wp2_with fail
  refine (Z5.out.kind 3 (b := true) K3.out).mono ?_
  rintro e w6 ⟨rfl, h6⟩
  have Z6 := hid h6
  clear h6
  go_wp2_with fail
  refine (Z6.out.take H0.out HO.out).mono ?_
  rintro e w7 ⟨rfl, h7⟩
  have Z7 := hid h7
  clear h7
  unfold tokA
  have A := hid (show Fr nob w7 (w7.alloc (.cells #[.string ⟨#[91]⟩] 9)) from (Fr.refl nob w7).alloc _)
  have HI := hid ((Z7.out.no A.out).is1 ⟨#[91]⟩ (Blk.new w7 _ _) (z := true) HM.out)
  go_wp2_with fail
  refine HI.out.mono ?_
  rintro e w8 ⟨rfl, h8⟩
  have Z8 := hid (Z7.out.no (A.out.tr h8))
  have B8 := hid (Z8.out.fr.blk BT.out GB.out (by decide))
  clear h8
  have d1 : w8.cell? ⟨B, 1, none⟩ = some (.string (bs (pTok ts s).text)) := by rw [B8.out.cell 1]; rfl
  go_wp2_with fail
  refine ((Z8.out.zero H0.out 0).inner HG.out ⟨#[91]⟩ ⟨#[93]⟩ (fun _ => HR.out) (fun _ => by have := HN.out; show r.2.nodes.length + 0 + 10 * n + 10 ≤ 1000000; omega)).mono ?_
  rintro e w9 ⟨v, rfl, _, hB⟩
  obtain ⟨hv, h9⟩ := hB HM.out
  have HV := hid hv
  have Z9 := hid h9
  have B9 := hid (Z9.out.fr.blk BT.out GB.out (by decide))
  clear h9 hv hB d1
  have d1 : w9.cell? ⟨B, 1, none⟩ = some (.string (bs (pTok ts s).text)) := by rw [B9.out.cell 1]; rfl
  go_wp2_with fail
  refine (Z9.out.put1 v rfl 5 rfl y (pLine src.data.toList ts s) (fun _ => HY.out) (name := (pTok ts s).text) rfl (l := r.1) (fun e => by rw [HQ1.out, HV.out e]) HN2.out).mono ?_
  rintro e w10 ⟨x, rfl, hx, h10⟩
  have S10 := hid h10
  have HX := hid hx
  clear hx h10
  go_wp2_with fail
  go_ret
  exact ⟨x, rfl, HX.out, S3.out.back (S10.out.more (by show 0 + 10 * n ≤ 10 * n; omega))⟩
end
end Go.Proofs.YtlbjicjinnnboaaGreatDoor
/- The program's own parser: atom, len and numbers. Printed by wip/tools/mkqatom2.py. -/
namespace Go.Proofs.YtlbjicjinnnboaaGreatDoor
open Go.RowKit
set_option linter.unusedVariables false
set_option linter.unusedSimpArgs false
theorem nodes_up_must {ts : List Tok} (x : List UInt8) (s : PS) : (pUp (pMust ts x s)).nodes.length = s.nodes.length := by
  show (pMust ts x s).nodes.length = _
  unfold pMust pGo pFail
  split <;> (try split) <;> rfl
section
variable {src : ByteArray} {tb tc : Nat} {ts : List Tok} {g n : Nat} {N : Lim} {R : Nat → Prop} {w0 w : World} {s : PS} {r : List Nat × PS}
set_option maxHeartbeats 3200000 in
set_option maxRecDepth 100000 in
theorem qatom_len (hG : QDoes src tb tc ts g n (.chain 0) 162 #[.pointer (some ⟨g, 0, none⟩)]) (h : QS src tb tc ts g R w0 w s N) (k1 : pKind ts 1 s = false) (k2 : pKind ts 2 s = false) (k3 : pKind ts 3 s = false) (i1 : pIs ts [116, 114, 117, 101] s = false) (i2 : pIs ts [102, 97, 108, 115, 101] s = false) (i3 : pIs ts [108, 101, 110] s = true) (hm : pIs ts [40] (pGo s) = true) (hr : run src.data.toList ts n (.chain 0) (pMust ts [40] (pDown ts (pGo s))) = some r) (hn : r.2.nodes.length + 10 * n + 10 ≤ 1000000) :
    Calls Tryz.prog 222 #[.pointer (some ⟨g, 0, none⟩)] w fun e w' => ∃ x : Nat, e = .returned (.int .i64 x) ∧ ((pUp (pMust ts [41] r.2)).e = 0 → x = (pUp (pMust ts [41] r.2)).nodes.length) ∧ QS src tb tc ts g R w0 w' (pPut 6 (pLine src.data.toList ts s) 0 [] r.1 (pUp (pMust ts [41] r.2))).2 ⟨10 * n, N.d⟩ := by
  have S0 := hid h
  have K1 := hid k1
  have K2 := hid k2
  have K3 := hid k3
  have I1 := hid i1
  have I2 := hid i2
  have I3 := hid i3
  have H0 := hid (pIs_kind i3).1
  have HN := hid hn
  have HM := hid hm
  have HR := hid hr
  have HG := hid hG
  have HQ1 := hid (run_one _ _ _ _ hr trivial)
  have HN2 := hid (show (pUp (pMust ts [41] r.2)).nodes.length + (0 + 10 * n) ≤ 1000000 by rw [nodes_up_must]; omega)
  clear h k1 k2 k3 i1 i2 i3 hn hm hr hG
  go_enter Tryz.func222, Tryz.ntmps222
  go_wp2_with fail
  refine S0.out.line.mono ?_
  rintro e w1 ⟨y, rfl, hy, h1⟩
  have S1 := hid h1
  have HY := hid (hy H0.out)
  clear h1 hy
  go_wp2_with fail
  refine S1.out.next.mono ?_
  rintro e w2 ⟨t, rfl, ht, h2⟩
  have hte := ht H0.out
  subst hte
  have S2 := hid h2
  clear h2 ht
  unfold tokA
  go_wp2_with fail
  have BT := hid (Blk.new w2 115 #[.int .i64 (pTok ts s).kind, .string (bs (pTok ts s).text), .int .i64 (pTok ts s).place])
  have GB := hid (show w2.heap.size ≠ g from fun e => by obtain ⟨cg, hcg⟩ := S2.out.blkg; have := hcg.lt; omega)
  have S3 := hid (S2.out.alloc (.cells #[.int .i64 (pTok ts s).kind, .string (bs (pTok ts s).text), .int .i64 (pTok ts s).place] 115))
  have Z3 := hid S3.out.here
  generalize w2.alloc (.cells #[.int .i64 (pTok ts s).kind, .string (bs (pTok ts s).text), .int .i64 (pTok ts s).place] 115) = w3 at *
  generalize w2.heap.size = B at *
  refine (Z3.out.kind 1 (b := false) K1.out).mono ?_
  rintro e w4 ⟨rfl, h4⟩
  have Z4 := hid h4
  clear h4
  go_wp2_with fail
  refine (Z4.out.kind 2 (b := false) K2.out).mono ?_
  rintro e w5 ⟨rfl, h5⟩
  have Z5 := hid h5
  clear h5
  go_wp2_with fail
  refine (Z5.out.kind 3 (b := false) K3.out).mono ?_
  rintro e w6 ⟨rfl, h6⟩
  have Z6 := hid h6
  clear h6
  go_wp2_with fail
  refine (Z6.out.has ⟨#[116, 114, 117, 101]⟩ (b := false) I1.out).mono ?_
  rintro e w7 ⟨rfl, h7⟩
  rw [if_neg (by decide)] at h7
  have Z7 := hid h7
  clear h7
  go_wp2_with fail
  refine (Z7.out.has ⟨#[102, 97, 108, 115, 101]⟩ (b := false) I2.out).mono ?_
  rintro e w8 ⟨rfl, h8⟩
  rw [if_neg (by decide)] at h8
  have Z8 := hid h8
  clear h8
  go_wp2_with fail
  refine (Z8.out.has ⟨#[108, 101, 110]⟩ (b := true) I3.out).mono ?_
  rintro e w9 ⟨rfl, h9⟩
  rw [if_pos rfl] at h9
  have Z9 := hid h9
  clear h9
  go_wp2_with fail
  refine ((Z9.out.zero H0.out 0).inner HG.out ⟨#[40]⟩ ⟨#[41]⟩ (fun _ => HR.out) (fun _ => by have := HN.out; show r.2.nodes.length + 0 + 10 * n + 10 ≤ 1000000; omega)).mono ?_
  rintro e w12 ⟨v, rfl, _, hB⟩
  obtain ⟨hv, h12⟩ := hB HM.out
  have HV := hid hv
  have Z12 := hid h12
  clear h12 hv hB
  go_wp2_with fail
  refine (Z12.out.put1 v rfl 6 rfl y (pLine src.data.toList ts s) (fun _ => HY.out) (name := []) rfl (l := r.1) (fun e => by rw [HQ1.out, HV.out e]) HN2.out).mono ?_
  rintro e w13 ⟨x, rfl, hx, h13⟩
  have S13 := hid h13
  have HX := hid hx
  clear hx h13
  go_wp2_with fail
  go_ret
  exact ⟨x, rfl, HX.out, S3.out.back (S13.out.more (by show 0 + 10 * n ≤ 10 * n; omega))⟩
set_option maxHeartbeats 3200000 in
set_option maxRecDepth 100000 in
theorem qatom_len_bad (hG : QDoes src tb tc ts g n (.chain 0) 162 #[.pointer (some ⟨g, 0, none⟩)]) (h : QS src tb tc ts g R w0 w s N) (k1 : pKind ts 1 s = false) (k2 : pKind ts 2 s = false) (k3 : pKind ts 3 s = false) (i1 : pIs ts [116, 114, 117, 101] s = false) (i2 : pIs ts [102, 97, 108, 115, 101] s = false) (i3 : pIs ts [108, 101, 110] s = true) (hm : pIs ts [40] (pGo s) = false) (hn : s.nodes.length + 10 ≤ 1000000) :
    Calls Tryz.prog 222 #[.pointer (some ⟨g, 0, none⟩)] w fun e w' => ∃ x : Nat, e = .returned (.int .i64 x) ∧ QS src tb tc ts g R w0 w' (pFail ts 20 (pGo s)) ⟨1, N.d⟩ := by
  have S0 := hid h
  have K1 := hid k1
  have K2 := hid k2
  have K3 := hid k3
  have I1 := hid i1
  have I2 := hid i2
  have I3 := hid i3
  have H0 := hid (pIs_kind i3).1
  have HN := hid hn
  have HM := hid hm
  have HG := hid hG
  have HF := hid (show (pFail ts 20 (pGo s)).e ≠ 0 by unfold pFail; rw [if_pos (show (pGo s).e = 0 from H0.out)]; exact (by decide : (20 : Nat) ≠ 0))
  have HN2 := hid (show (pFail ts 20 (pGo s)).nodes.length + 0 ≤ 1000000 by have e : (pFail ts 20 (pGo s)).nodes.length = s.nodes.length := (by unfold pFail pGo; split <;> rfl); rw [e]; omega)
  clear h k1 k2 k3 i1 i2 i3 hn hm hG
  go_enter Tryz.func222, Tryz.ntmps222
  go_wp2_with fail
  refine S0.out.line.mono ?_
  rintro e w1 ⟨y, rfl, hy, h1⟩
  have S1 := hid h1
  have HY := hid (hy H0.out)
  clear h1 hy
  go_wp2_with fail
  refine S1.out.next.mono ?_
  rintro e w2 ⟨t, rfl, ht, h2⟩
  have hte := ht H0.out
  subst hte
  have S2 := hid h2
  clear h2 ht
  unfold tokA
  go_wp2_with fail
  have BT := hid (Blk.new w2 115 #[.int .i64 (pTok ts s).kind, .string (bs (pTok ts s).text), .int .i64 (pTok ts s).place])
  have GB := hid (show w2.heap.size ≠ g from fun e => by obtain ⟨cg, hcg⟩ := S2.out.blkg; have := hcg.lt; omega)
  have S3 := hid (S2.out.alloc (.cells #[.int .i64 (pTok ts s).kind, .string (bs (pTok ts s).text), .int .i64 (pTok ts s).place] 115))
  have Z3 := hid S3.out.here
  generalize w2.alloc (.cells #[.int .i64 (pTok ts s).kind, .string (bs (pTok ts s).text), .int .i64 (pTok ts s).place] 115) = w3 at *
  generalize w2.heap.size = B at *
  refine (Z3.out.kind 1 (b := false) K1.out).mono ?_
  rintro e w4 ⟨rfl, h4⟩
  have Z4 := hid h4
  clear h4
  go_wp2_with fail
  refine (Z4.out.kind 2 (b := false) K2.out).mono ?_
  rintro e w5 ⟨rfl, h5⟩
  have Z5 := hid h5
  clear h5
  go_wp2_with fail
  refine (Z5.out.kind 3 (b := false) K3.out).mono ?_
  rintro e w6 ⟨rfl, h6⟩
  have Z6 := hid h6
  clear h6
  go_wp2_with fail
  refine (Z6.out.has ⟨#[116, 114, 117, 101]⟩ (b := false) I1.out).mono ?_
  rintro e w7 ⟨rfl, h7⟩
  rw [if_neg (by decide)] at h7
  have Z7 := hid h7
  clear h7
  go_wp2_with fail
  refine (Z7.out.has ⟨#[102, 97, 108, 115, 101]⟩ (b := false) I2.out).mono ?_
  rintro e w8 ⟨rfl, h8⟩
  rw [if_neg (by decide)] at h8
  have Z8 := hid h8
  clear h8
  go_wp2_with fail
  refine (Z8.out.has ⟨#[108, 101, 110]⟩ (b := true) I3.out).mono ?_
  rintro e w9 ⟨rfl, h9⟩
  rw [if_pos rfl] at h9
  have Z9 := hid h9
  clear h9
  go_wp2_with fail
  refine ((Z9.out.zero H0.out 0).inner (r := ([], s)) HG.out ⟨#[40]⟩ ⟨#[41]⟩ (fun e => absurd (HM.out.symm.trans e) (by decide)) (fun e => absurd (HM.out.symm.trans e) (by decide))).mono ?_
  rintro e w12 ⟨v, rfl, hA, _⟩
  obtain ⟨hv, h12⟩ := hA HM.out
  have Z12 := hid h12
  clear h12 hv hA
  go_wp2_with fail
  refine ((Z12.out.alloc _).putBad HF.out 6 rfl y (name := []) rfl HN2.out).mono ?_
  rintro e w13 ⟨x, rfl, h13⟩
  have S13 := hid h13
  clear h13
  go_wp2_with fail
  go_ret
  exact ⟨x, rfl, S3.out.back S13.out⟩
end
end Go.Proofs.YtlbjicjinnnboaaGreatDoor
/- The program's own parser: atom, numbers. Printed by wip/tools/mkqatom3.py. -/
namespace Go.Proofs.YtlbjicjinnnboaaGreatDoor
open Go.RowKit
set_option linter.unusedVariables false
set_option linter.unusedSimpArgs false
section
variable {src : ByteArray} {tb tc : Nat} {ts : List Tok} {g n : Nat} {N : Lim} {R : Nat → Prop} {w0 w : World} {s : PS} {r : List Nat × PS}
set_option maxHeartbeats 3200000 in
set_option maxRecDepth 100000 in
theorem qatom_num  (h : QS src tb tc ts g R w0 w s N) (k1 : pKind ts 1 s = true) (hn : s.nodes.length + N.n ≤ 1000000) :
    Calls Tryz.prog 222 #[.pointer (some ⟨g, 0, none⟩)] w fun e w' => ∃ x : Nat, e = .returned (.int .i64 x) ∧ x = s.nodes.length ∧ QS src tb tc ts g R w0 w' (pPut 1 (pLine src.data.toList ts s) (atoiM (pTok ts s).text) [] [] (pGo s)).2 N := by
  have S0 := hid h
  have K1 := hid k1
  have H0 := hid (pKind_kind k1).1
  have HN := hid hn
  have HO := hid (h.ok.goKind h.toks (pKind_kind k1).2 (by decide))
  have hmem : pTok ts s ∈ ts := by
    unfold pTok
    rw [List.getD, List.getElem?_eq_getElem h.ok.room]
    exact List.getElem_mem _
  obtain ⟨z0, z1, z2⟩ := h.toks.nums _ hmem (pKind_kind k1).2
  have HQ := hid (atoi_of z0 z1 z2)
  have HSZ := hid (show (bs (pTok ts s).text).size ≤ 9223372036854775806 from by
    have h9 := h.toks.short _ hmem
    show (pTok ts s).text.toArray.size ≤ _
    rw [List.size_toArray]; omega)
  clear h k1 hn z0 z1 z2 hmem
  go_enter Tryz.func222, Tryz.ntmps222
  go_wp2_with fail
  refine S0.out.line.mono ?_
  rintro e w1 ⟨y, rfl, hy, h1⟩
  have S1 := hid h1
  have HY := hid (hy H0.out)
  clear h1 hy
  go_wp2_with fail
  refine S1.out.next.mono ?_
  rintro e w2 ⟨t, rfl, ht, h2⟩
  have hte := ht H0.out
  subst hte
  have S2 := hid h2
  clear h2 ht
  unfold tokA
  go_wp2_with fail
  have BT := hid (Blk.new w2 115 #[.int .i64 (pTok ts s).kind, .string (bs (pTok ts s).text), .int .i64 (pTok ts s).place])
  have GB := hid (show w2.heap.size ≠ g from fun e => by obtain ⟨cg, hcg⟩ := S2.out.blkg; have := hcg.lt; omega)
  have S3 := hid (S2.out.alloc (.cells #[.int .i64 (pTok ts s).kind, .string (bs (pTok ts s).text), .int .i64 (pTok ts s).place] 115))
  have Z3 := hid S3.out.here
  generalize w2.alloc (.cells #[.int .i64 (pTok ts s).kind, .string (bs (pTok ts s).text), .int .i64 (pTok ts s).place] 115) = w3 at *
  generalize w2.heap.size = B at *
  refine (Z3.out.kind 1 (b := true) K1.out).mono ?_
  rintro e w4 ⟨rfl, h4⟩
  have Z4 := hid h4
  clear h4
  go_wp2_with fail
  refine (Z4.out.take H0.out HO.out).mono ?_
  rintro e w5 ⟨rfl, h5⟩
  have Z5 := hid h5
  clear h5
  unfold tokA
  have ff := tf1
  go_wp2_with (go_at_call 232; go_must (refine (Tryz.strconv_Atoi_ok _ HSZ.out _ (by exact HQ.out) _).mono ?_; rintro e w6 ⟨rfl, hw⟩; have F4 := hid (Fr.bytes _ hw); have Z6 := hid (Z5.out.no F4.out); clear hw))
  refine (Z6.out.number 1 (atoiM (pTok ts s).text) rfl rfl y (pLine src.data.toList ts s) (fun _ => HY.out) HN.out).mono ?_
  rintro e w7 ⟨x, rfl, hx, h7⟩
  have S7 := hid h7
  have HX := hid hx
  clear hx h7
  go_wp2_with fail
  go_ret
  exact ⟨x, rfl, HX.out H0.out, S3.out.back S7.out⟩
end
end Go.Proofs.YtlbjicjinnnboaaGreatDoor
/- The program's own parser: atom, whole. -/
namespace Go.Proofs.YtlbjicjinnnboaaGreatDoor
open Go.RowKit
set_option linter.unusedVariables false
set_option linter.unusedSimpArgs false
theorem pKind_of {ts : List Tok} {s : PS} {k : Nat} (h0 : s.e = 0) (h : (pTok ts s).kind = k) : pKind ts k s = true := by unfold pKind; simp [h0, h]
theorem pKind_off {ts : List Tok} {s : PS} {k : Nat} (h : (pTok ts s).kind ≠ k) : pKind ts k s = false := by unfold pKind; simp [h]
theorem pKind_bad {ts : List Tok} {s : PS} (k : Nat) (h : s.e ≠ 0) : pKind ts k s = false := by unfold pKind; simp [h]
theorem pIs_bad {ts : List Tok} {s : PS} (x : List UInt8) (h : s.e ≠ 0) : pIs ts x s = false := by unfold pIs; simp [h]
theorem pFail_bad {ts : List Tok} {s : PS} (k : Nat) (h : s.e ≠ 0) : pFail ts k s = s := by unfold pFail; rw [if_neg h]
theorem pFail_ne {ts : List Tok} {s : PS} : (pFail ts 20 s).e ≠ 0 := by
  unfold pFail
  split
  · exact (by decide : (20 : Nat) ≠ 0)
  · assumption
set_option maxHeartbeats 1600000 in
theorem qatom_good {src : ByteArray} {tb tc : Nat} {ts : List Tok} {g n : Nat} (hG : QDoes src tb tc ts g n (.chain 0) 162 #[.pointer (some ⟨g, 0, none⟩)]) :
    QDoes src tb tc ts g (n + 1) .atom 222 #[.pointer (some ⟨g, 0, none⟩)] := by
  intro R w0 w s r N h hr hn
  simp only [run] at hr
  by_cases he : s.e ≠ 0
  · rw [if_pos he] at hr
    simp only [Option.some.injEq] at hr
    subst hr
    refine (qatom_last (r := ([], s)) hG h (pKind_bad 1 he) (pKind_bad 2 he) (pKind_bad 3 he) (pIs_bad _ he) (pIs_bad _ he) (pIs_bad _ he) (fun e => by rw [pIs_bad _ he] at e; cases e) (fun e => by rw [pIs_bad _ he] at e; cases e)).mono ?_
    rintro e w' ⟨x, rfl, hA, _⟩
    obtain ⟨_, hq⟩ := hA (pIs_bad _ he)
    rw [pFail_bad _ he] at hq
    rw [if_neg he]
    exact ⟨x, rfl, fun e => absurd e he, hq.more (by omega)⟩
  · have e0 : s.e = 0 := by omega
    rw [if_neg he] at hr
    rw [if_pos e0]
    have h' := h.zero e0 0
    by_cases k1 : (pTok ts s).kind = 1
    · rw [if_pos k1] at hr
      simp only [Option.some.injEq] at hr
      subst hr
      have hn2 : s.nodes.length + 1 + N.n + 10 * (n + 1) + 10 ≤ 1000000 := by simpa [pPut, pGo] using hn
      refine (qatom_num h' (pKind_of e0 k1) (by show s.nodes.length + 0 ≤ 1000000; omega)).mono ?_
      rintro e w' ⟨x, rfl, hx, hq⟩
      exact ⟨x, rfl, fun _ => hx, hq.more (Nat.zero_le _)⟩
    · rw [if_neg k1] at hr
      by_cases k2 : (pTok ts s).kind = 2
      · rw [if_pos k2] at hr
        simp only [Option.some.injEq] at hr
        subst hr
        have hn2 : s.nodes.length + 1 + N.n + 10 * (n + 1) + 10 ≤ 1000000 := by simpa [pPut, pGo] using hn
        refine (qatom_text h' (pKind_off k1) (pKind_of e0 k2) (by show s.nodes.length + 0 ≤ 1000000; omega)).mono ?_
        rintro e w' ⟨x, rfl, hx, hq⟩
        exact ⟨x, rfl, fun _ => hx, hq.more (Nat.zero_le _)⟩
      · rw [if_neg k2] at hr
        by_cases k3 : (pTok ts s).kind = 3
        · rw [if_pos k3] at hr
          by_cases hm : pIs ts [91] (pGo s) = true
          · rw [if_pos hm] at hr
            simp only [Option.map_eq_some_iff] at hr
            obtain ⟨q, hq, rfl⟩ := hr
            have hn2 : (pUp (pMust ts [93] q.2)).nodes.length + 1 + N.n + 10 * (n + 1) + 10 ≤ 1000000 := by simpa [pPut] using hn
            rw [nodes_up_must] at hn2
            refine (qatom_sub hG h' (pKind_off k1) (pKind_off k2) (pKind_of e0 k3) hm hq (by omega)).mono ?_
            rintro e w' ⟨x, rfl, hx, hq⟩
            exact ⟨x, rfl, fun e => hx e, hq.more (by show 10 * n ≤ 10 * (n + 1); omega)⟩
          · rw [if_neg hm] at hr
            simp only [Option.some.injEq] at hr
            subst hr
            have hn2 : s.nodes.length + 1 + N.n + 10 * (n + 1) + 10 ≤ 1000000 := by simpa [pPut, pGo] using hn
            refine (qatom_name h' (pKind_off k1) (pKind_off k2) (pKind_of e0 k3) (by simpa using hm) (by show s.nodes.length + 0 ≤ 1000000; omega)).mono ?_
            rintro e w' ⟨x, rfl, hx, hq⟩
            exact ⟨x, rfl, fun _ => hx, hq.more (Nat.zero_le _)⟩
        · rw [if_neg k3] at hr
          by_cases i1 : pIs ts [116, 114, 117, 101] s = true
          · rw [if_pos i1] at hr
            simp only [Option.some.injEq] at hr
            subst hr
            have hn2 : s.nodes.length + 1 + N.n + 10 * (n + 1) + 10 ≤ 1000000 := by simpa [pPut, pGo] using hn
            refine (qatom_true h' (pKind_off k1) (pKind_off k2) (pKind_off k3) i1 (by show s.nodes.length + 0 ≤ 1000000; omega)).mono ?_
            rintro e w' ⟨x, rfl, hx, hq⟩
            exact ⟨x, rfl, fun _ => hx, hq.more (Nat.zero_le _)⟩
          · rw [if_neg i1] at hr
            have i1' : pIs ts [116, 114, 117, 101] s = false := by simpa using i1
            by_cases i2 : pIs ts [102, 97, 108, 115, 101] s = true
            · rw [if_pos i2] at hr
              simp only [Option.some.injEq] at hr
              subst hr
              have hn2 : s.nodes.length + 1 + N.n + 10 * (n + 1) + 10 ≤ 1000000 := by simpa [pPut, pGo] using hn
              refine (qatom_false h' (pKind_off k1) (pKind_off k2) (pKind_off k3) i1' i2 (by show s.nodes.length + 0 ≤ 1000000; omega)).mono ?_
              rintro e w' ⟨x, rfl, hx, hq⟩
              exact ⟨x, rfl, fun _ => hx, hq.more (Nat.zero_le _)⟩
            · rw [if_neg i2] at hr
              have i2' : pIs ts [102, 97, 108, 115, 101] s = false := by simpa using i2
              by_cases i3 : pIs ts [108, 101, 110] s = true
              · rw [if_pos i3] at hr
                by_cases hm : pIs ts [40] (pGo s) = true
                · rw [if_pos hm] at hr
                  simp only [Option.map_eq_some_iff] at hr
                  obtain ⟨q, hq, rfl⟩ := hr
                  have hn2 : (pUp (pMust ts [41] q.2)).nodes.length + 1 + N.n + 10 * (n + 1) + 10 ≤ 1000000 := by simpa [pPut] using hn
                  rw [nodes_up_must] at hn2
                  refine (qatom_len hG h' (pKind_off k1) (pKind_off k2) (pKind_off k3) i1' i2' i3 hm hq (by omega)).mono ?_
                  rintro e w' ⟨x, rfl, hx, hq⟩
                  exact ⟨x, rfl, fun e => hx e, hq.more (by show 10 * n ≤ 10 * (n + 1); omega)⟩
                · rw [if_neg hm] at hr
                  simp only [Option.some.injEq] at hr
                  subst hr
                  have hl : (pFail ts 20 (pGo s)).nodes.length = s.nodes.length := by unfold pFail pGo; split <;> rfl
                  have hn2 : (pFail ts 20 (pGo s)).nodes.length + N.n + 10 * (n + 1) + 10 ≤ 1000000 := hn
                  rw [hl] at hn2
                  refine (qatom_len_bad hG h' (pKind_off k1) (pKind_off k2) (pKind_off k3) i1' i2' i3 (by simpa using hm) (by omega)).mono ?_
                  rintro e w' ⟨x, rfl, hq⟩
                  exact ⟨x, rfl, fun e => absurd e pFail_ne, hq.more (by show 1 ≤ 10 * (n + 1); omega)⟩
              · rw [if_neg i3] at hr
                have i3' : pIs ts [108, 101, 110] s = false := by simpa using i3
                by_cases hm : pIs ts [40] s = true
                · rw [if_pos hm] at hr
                  simp only [Option.map_eq_some_iff] at hr
                  obtain ⟨q, hq, rfl⟩ := hr
                  have hn2 : (pUp (pMust ts [41] q.2)).nodes.length + N.n + 10 * (n + 1) + 10 ≤ 1000000 := hn
                  rw [nodes_up_must] at hn2
                  refine (qatom_last (r := q) hG h' (pKind_off k1) (pKind_off k2) (pKind_off k3) i1' i2' i3' (fun _ => hq) (fun _ => by show q.2.nodes.length + 0 + 10 * n + 10 ≤ 1000000; omega)).mono ?_
                  rintro e w' ⟨x, rfl, _, hB⟩
                  obtain ⟨hx, hq⟩ := hB hm
                  exact ⟨x, rfl, fun e => hx e, hq.more (by show 0 + 10 * n ≤ 10 * (n + 1); omega)⟩
                · rw [if_neg hm] at hr
                  simp only [Option.some.injEq] at hr
                  subst hr
                  refine (qatom_last (r := ([], s)) hG h' (pKind_off k1) (pKind_off k2) (pKind_off k3) i1' i2' i3' (fun e => absurd e hm) (fun e => absurd e hm)).mono ?_
                  rintro e w' ⟨x, rfl, hA, _⟩
                  obtain ⟨_, hq⟩ := hA (by simpa using hm)
                  exact ⟨x, rfl, fun e => absurd e pFail_ne, hq.more (Nat.zero_le _)⟩
end Go.Proofs.YtlbjicjinnnboaaGreatDoor
